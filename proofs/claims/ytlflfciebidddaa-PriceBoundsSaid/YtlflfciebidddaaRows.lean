/-
  No cell of these rows narrows 'for every input' (looked for: loops, veiled, ifaces, maps, wideKeys, modest, calm, conditions, laid).
  DERIVED. THE GIVEN ROWS OF THIS SEAT. 5 by the template 'for every input the law returns true; each argument reads behind the call as it read before'; 0 by the template 'total and deterministic' (their statements: YtlflfciebidddaaTotals.lean).
  GIVEN WITH THE SEED: the statements are not yours to turn. If you find one false, say at which input.
  Laid BY PROGRAM, IN A SANDBOX (cutbox-rows.mjs): the forced cells as the released guide's own fill.sh prints them over the translation 1166805ee35baca2… (all of the seat's roots in one cut). By AI agents, Wed Nov 11 2026. No macro, syntax, notation, axiom, sorry.
-/
import Derived.Test.YtlflfciebidddaaChecked
import GoSem.Claim
import GoSem.ClaimJoined
import GoSem.ClaimMapViews
import Derived.JoinedTies
import Derived.KernelRfl
namespace Go.Proofs.Ytlflfciebidddaa
/- THE CELL 'sum', in the pinned program and in every row, IS THE sha256 OF THE DUMP (.gsa) THAT YtlflfciebidddaaProg.lean LOADS. Nothing in Lean hashes anything: it is a label: what it is worth is what the hold of that sum in a sandbox is worth. -/
noncomputable def Try.pinned : Pinned := { name := "ytlflfciebidddaa", sum := "1166805ee35baca2fe9963a5311efeb4c086fe21855dd4214f63d3ff98eec15a", checked := Try.checked }
namespace Rows
def none {H : Type} : Left H := { results := [], args := [] }

/-- 'poundagelaw13.PriceIs': WHATEVER THE INPUT: true; the input reads as it did. -/
def priceIsSpec : ChangeSpec := { name := "priceIs", fn := fun _ => fun
  | [d1, d2, d3] => { results := [.lit (.bool true)], args := [d1, d2, d3] }
  | _ => none }
def priceIsRow : OpenClaim := { program := "ytlflfciebidddaa", sum := "1166805ee35baca2fe9963a5311efeb4c086fe21855dd4214f63d3ff98eec15a", func := "poundage/poundagelaw13.PriceIs", spec := "priceIs", unfollowed := true, recurses := true, named := ["math/bits.divideError", "math/bits.overflowError"], apart := false }
def PriceIsSaid : Prop := priceIsRow.holds Try.pinned (OpenSpec.ofChange priceIsSpec)

/-- ITS FALSE NEIGHBOUR: 'it returns false'. Refute it at one input. -/
def priceIsWrong : ChangeSpec := { name := "priceIs", fn := fun _ => fun
  | [d1, d2, d3] => { results := [.lit (.bool false)], args := [d1, d2, d3] }
  | _ => none }
def PriceIsWrongFalsely : Prop := priceIsRow.holds Try.pinned (OpenSpec.ofChange priceIsWrong)

/-- 'poundagelaw13.PriceParts': WHATEVER THE INPUT: true; the input reads as it did. -/
def pricePartsSpec : ChangeSpec := { name := "priceParts", fn := fun _ => fun
  | [d1, d2] => { results := [.lit (.bool true)], args := [d1, d2] }
  | _ => none }
def pricePartsRow : OpenClaim := { program := "ytlflfciebidddaa", sum := "1166805ee35baca2fe9963a5311efeb4c086fe21855dd4214f63d3ff98eec15a", func := "poundage/poundagelaw13.PriceParts", spec := "priceParts", unfollowed := true, recurses := true, named := ["math/bits.divideError", "math/bits.overflowError"], apart := false }
def PricePartsSaid : Prop := pricePartsRow.holds Try.pinned (OpenSpec.ofChange pricePartsSpec)

/-- ITS FALSE NEIGHBOUR: 'it returns false'. Refute it at one input. -/
def pricePartsWrong : ChangeSpec := { name := "priceParts", fn := fun _ => fun
  | [d1, d2] => { results := [.lit (.bool false)], args := [d1, d2] }
  | _ => none }
def PricePartsWrongFalsely : Prop := pricePartsRow.holds Try.pinned (OpenSpec.ofChange pricePartsWrong)

/-- 'poundagelaw13.PriceBounds': WHATEVER THE INPUT: true; the input reads as it did. -/
def priceBoundsSpec : ChangeSpec := { name := "priceBounds", fn := fun _ => fun
  | [d1, d2, d3] => { results := [.lit (.bool true)], args := [d1, d2, d3] }
  | _ => none }
def priceBoundsRow : OpenClaim := { program := "ytlflfciebidddaa", sum := "1166805ee35baca2fe9963a5311efeb4c086fe21855dd4214f63d3ff98eec15a", func := "poundage/poundagelaw13.PriceBounds", spec := "priceBounds", unfollowed := true, recurses := true, named := ["math/bits.divideError", "math/bits.overflowError"], apart := false }
def PriceBoundsSaid : Prop := priceBoundsRow.holds Try.pinned (OpenSpec.ofChange priceBoundsSpec)

/-- ITS FALSE NEIGHBOUR: 'it returns false'. Refute it at one input. -/
def priceBoundsWrong : ChangeSpec := { name := "priceBounds", fn := fun _ => fun
  | [d1, d2, d3] => { results := [.lit (.bool false)], args := [d1, d2, d3] }
  | _ => none }
def PriceBoundsWrongFalsely : Prop := priceBoundsRow.holds Try.pinned (OpenSpec.ofChange priceBoundsWrong)

/-- 'poundagelaw13.PriceApart': WHATEVER THE INPUT: true; the input reads as it did. -/
def priceApartSpec : ChangeSpec := { name := "priceApart", fn := fun _ => fun
  | [d1, d2, d3] => { results := [.lit (.bool true)], args := [d1, d2, d3] }
  | _ => none }
def priceApartRow : OpenClaim := { program := "ytlflfciebidddaa", sum := "1166805ee35baca2fe9963a5311efeb4c086fe21855dd4214f63d3ff98eec15a", func := "poundage/poundagelaw13.PriceApart", spec := "priceApart", unfollowed := true, recurses := true, named := ["math/bits.divideError", "math/bits.overflowError"], apart := false }
def PriceApartSaid : Prop := priceApartRow.holds Try.pinned (OpenSpec.ofChange priceApartSpec)

/-- ITS FALSE NEIGHBOUR: 'it returns false'. Refute it at one input. -/
def priceApartWrong : ChangeSpec := { name := "priceApart", fn := fun _ => fun
  | [d1, d2, d3] => { results := [.lit (.bool false)], args := [d1, d2, d3] }
  | _ => none }
def PriceApartWrongFalsely : Prop := priceApartRow.holds Try.pinned (OpenSpec.ofChange priceApartWrong)

/-- 'poundagelaw13.PriceDays': WHATEVER THE INPUT: true; the input reads as it did. -/
def priceDaysSpec : ChangeSpec := { name := "priceDays", fn := fun _ => fun
  | [d1, d2, d3, d4] => { results := [.lit (.bool true)], args := [d1, d2, d3, d4] }
  | _ => none }
def priceDaysRow : OpenClaim := { program := "ytlflfciebidddaa", sum := "1166805ee35baca2fe9963a5311efeb4c086fe21855dd4214f63d3ff98eec15a", func := "poundage/poundagelaw13.PriceDays", spec := "priceDays", unfollowed := true, recurses := true, named := ["math/bits.divideError", "math/bits.overflowError"], apart := false }
def PriceDaysSaid : Prop := priceDaysRow.holds Try.pinned (OpenSpec.ofChange priceDaysSpec)

/-- ITS FALSE NEIGHBOUR: 'it returns false'. Refute it at one input. -/
def priceDaysWrong : ChangeSpec := { name := "priceDays", fn := fun _ => fun
  | [d1, d2, d3, d4] => { results := [.lit (.bool false)], args := [d1, d2, d3, d4] }
  | _ => none }
def PriceDaysWrongFalsely : Prop := priceDaysRow.holds Try.pinned (OpenSpec.ofChange priceDaysWrong)

/- THE SECOND FORM. 'bulk': how many values and letters a reading holds, each counted each time it is reached (what is shared counts as often as it is met; a slice's spare places count too). A statement '..UptoSaid' is the law's where the arguments, and the package variables that the reading takes, are together of bulk at most 1048576: NARROWER than '..Said'. Prove '..Said' where nothing that the law and all that it calls make is longer than what came in: it says more and counts as full. Else prove '..UptoSaid'. A law counts once. -/
mutual
def uptoBulk {H : Type} : DataW H → Nat
  | .lit (.string bytes) => bytes.length + 1
  | .lit _ => 1
  | .nil => 1
  | .ptr d => uptoBulk d + 1
  | .slice elems spare => uptoBulkAll elems + uptoBulkAll spare + 1
  | .agg parts => uptoBulkAll parts + 1
  | .iface _ d => uptoBulk d + 1
  | .map entries => uptoBulkEntries entries + 1
  | .held _ => 1
def uptoBulkAll {H : Type} : List (DataW H) → Nat
  | [] => 0
  | d :: r => uptoBulk d + uptoBulkAll r
def uptoBulkEntries {H : Type} : List (Lit × DataW H) → Nat
  | [] => 0
  | x :: r => uptoBulkEntry x + uptoBulkEntries r
def uptoBulkEntry {H : Type} : Lit × DataW H → Nat
  | (.string bytes, d) => bytes.length + uptoBulk d + 1
  | (_, d) => uptoBulk d + 1
 end
def uptoSmall : (H : Type) → List (DataW H) → Bool := fun _ ds => decide (uptoBulkAll ds ≤ 1048576)
def OpenSpec.upto (s : _root_.Go.ChangeSpec) : _root_.Go.OpenSpec := { _root_.Go.OpenSpec.ofChange s with cond := some uptoSmall }

/-- 'poundagelaw13.PriceIs', WHERE WHAT IT READS IS OF BULK AT MOST 1048576: true; the input reads as it did. -/
def priceIsUptoRow : OpenClaim := { program := "ytlflfciebidddaa", sum := "1166805ee35baca2fe9963a5311efeb4c086fe21855dd4214f63d3ff98eec15a", func := "poundage/poundagelaw13.PriceIs", spec := "priceIs", unfollowed := true, recurses := true, named := ["math/bits.divideError", "math/bits.overflowError"], apart := false, narrowed := true }
def PriceIsUptoSaid : Prop := priceIsUptoRow.holds Try.pinned (OpenSpec.upto priceIsSpec)

/-- 'poundagelaw13.PriceParts', WHERE WHAT IT READS IS OF BULK AT MOST 1048576: true; the input reads as it did. -/
def pricePartsUptoRow : OpenClaim := { program := "ytlflfciebidddaa", sum := "1166805ee35baca2fe9963a5311efeb4c086fe21855dd4214f63d3ff98eec15a", func := "poundage/poundagelaw13.PriceParts", spec := "priceParts", unfollowed := true, recurses := true, named := ["math/bits.divideError", "math/bits.overflowError"], apart := false, narrowed := true }
def PricePartsUptoSaid : Prop := pricePartsUptoRow.holds Try.pinned (OpenSpec.upto pricePartsSpec)

/-- 'poundagelaw13.PriceBounds', WHERE WHAT IT READS IS OF BULK AT MOST 1048576: true; the input reads as it did. -/
def priceBoundsUptoRow : OpenClaim := { program := "ytlflfciebidddaa", sum := "1166805ee35baca2fe9963a5311efeb4c086fe21855dd4214f63d3ff98eec15a", func := "poundage/poundagelaw13.PriceBounds", spec := "priceBounds", unfollowed := true, recurses := true, named := ["math/bits.divideError", "math/bits.overflowError"], apart := false, narrowed := true }
def PriceBoundsUptoSaid : Prop := priceBoundsUptoRow.holds Try.pinned (OpenSpec.upto priceBoundsSpec)

/-- 'poundagelaw13.PriceApart', WHERE WHAT IT READS IS OF BULK AT MOST 1048576: true; the input reads as it did. -/
def priceApartUptoRow : OpenClaim := { program := "ytlflfciebidddaa", sum := "1166805ee35baca2fe9963a5311efeb4c086fe21855dd4214f63d3ff98eec15a", func := "poundage/poundagelaw13.PriceApart", spec := "priceApart", unfollowed := true, recurses := true, named := ["math/bits.divideError", "math/bits.overflowError"], apart := false, narrowed := true }
def PriceApartUptoSaid : Prop := priceApartUptoRow.holds Try.pinned (OpenSpec.upto priceApartSpec)

/-- 'poundagelaw13.PriceDays', WHERE WHAT IT READS IS OF BULK AT MOST 1048576: true; the input reads as it did. -/
def priceDaysUptoRow : OpenClaim := { program := "ytlflfciebidddaa", sum := "1166805ee35baca2fe9963a5311efeb4c086fe21855dd4214f63d3ff98eec15a", func := "poundage/poundagelaw13.PriceDays", spec := "priceDays", unfollowed := true, recurses := true, named := ["math/bits.divideError", "math/bits.overflowError"], apart := false, narrowed := true }
def PriceDaysUptoSaid : Prop := priceDaysUptoRow.holds Try.pinned (OpenSpec.upto priceDaysSpec)

end Rows
end Go.Proofs.Ytlflfciebidddaa

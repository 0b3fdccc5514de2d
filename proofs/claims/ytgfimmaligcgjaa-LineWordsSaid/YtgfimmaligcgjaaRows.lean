/-
  No cell of these rows narrows 'for every input' (looked for: loops, veiled, ifaces, maps, wideKeys, modest, calm, conditions, laid).
  DERIVED. THE GIVEN ROWS OF THIS SEAT. 6 by the template 'for every input the law returns true; each argument reads behind the call as it read before'; 0 by the template 'total and deterministic' (their statements: YtgfimmaligcgjaaTotals.lean).
  GIVEN WITH THE SEED: the statements are not yours to turn. If you find one false, say at which input.
  Laid BY PROGRAM, IN A SANDBOX (cutbox-rows.mjs): the forced cells as the released guide's own fill.sh prints them over the translation 4a7db083c7c5eb51… (all of the seat's roots in one cut). By AI agents, Wed Nov 11 2026. No macro, syntax, notation, axiom, sorry.
-/
import Derived.Test.YtgfimmaligcgjaaChecked
import GoSem.Claim
import GoSem.ClaimJoined
import GoSem.ClaimMapViews
import Derived.JoinedTies
import Derived.KernelRfl
namespace Go.Proofs.Ytgfimmaligcgjaa
/- THE CELL 'sum', in the pinned program and in every row, IS THE sha256 OF THE DUMP (.gsa) THAT YtgfimmaligcgjaaProg.lean LOADS. Nothing in Lean hashes anything: it is a label: what it is worth is what the hold of that sum in a sandbox is worth. -/
noncomputable def Try.pinned : Pinned := { name := "ytgfimmaligcgjaa", sum := "4a7db083c7c5eb51d8bef3469cd222b7538bb7443ab1774ea288902ad99f190c", checked := Try.checked }
namespace Rows
def none {H : Type} : Left H := { results := [], args := [] }

/-- 'poundagelaw14.LineWords': WHATEVER THE INPUT: true; the input reads as it did. -/
def lineWordsSpec : ChangeSpec := { name := "lineWords", fn := fun _ => fun
  | [d1, d2] => { results := [.lit (.bool true)], args := [d1, d2] }
  | _ => none }
def lineWordsRow : OpenClaim := { program := "ytgfimmaligcgjaa", sum := "4a7db083c7c5eb51d8bef3469cd222b7538bb7443ab1774ea288902ad99f190c", func := "poundage/poundagelaw14.LineWords", spec := "lineWords", unfollowed := true, recurses := true, apart := false }
def LineWordsSaid : Prop := lineWordsRow.holds Try.pinned (OpenSpec.ofChange lineWordsSpec)

/-- ITS FALSE NEIGHBOUR: 'it returns false'. Refute it at one input. -/
def lineWordsWrong : ChangeSpec := { name := "lineWords", fn := fun _ => fun
  | [d1, d2] => { results := [.lit (.bool false)], args := [d1, d2] }
  | _ => none }
def LineWordsWrongFalsely : Prop := lineWordsRow.holds Try.pinned (OpenSpec.ofChange lineWordsWrong)

/-- 'poundagelaw14.LineIs': WHATEVER THE INPUT: true; the input reads as it did. -/
def lineIsSpec : ChangeSpec := { name := "lineIs", fn := fun _ => fun
  | [d1, d2, d3] => { results := [.lit (.bool true)], args := [d1, d2, d3] }
  | _ => none }
def lineIsRow : OpenClaim := { program := "ytgfimmaligcgjaa", sum := "4a7db083c7c5eb51d8bef3469cd222b7538bb7443ab1774ea288902ad99f190c", func := "poundage/poundagelaw14.LineIs", spec := "lineIs", unfollowed := true, recurses := true, apart := false }
def LineIsSaid : Prop := lineIsRow.holds Try.pinned (OpenSpec.ofChange lineIsSpec)

/-- ITS FALSE NEIGHBOUR: 'it returns false'. Refute it at one input. -/
def lineIsWrong : ChangeSpec := { name := "lineIs", fn := fun _ => fun
  | [d1, d2, d3] => { results := [.lit (.bool false)], args := [d1, d2, d3] }
  | _ => none }
def LineIsWrongFalsely : Prop := lineIsRow.holds Try.pinned (OpenSpec.ofChange lineIsWrong)

/-- 'poundagelaw14.LineZips': WHATEVER THE INPUT: true; the input reads as it did. -/
def lineZipsSpec : ChangeSpec := { name := "lineZips", fn := fun _ => fun
  | [d1, d2, d3, d4] => { results := [.lit (.bool true)], args := [d1, d2, d3, d4] }
  | _ => none }
def lineZipsRow : OpenClaim := { program := "ytgfimmaligcgjaa", sum := "4a7db083c7c5eb51d8bef3469cd222b7538bb7443ab1774ea288902ad99f190c", func := "poundage/poundagelaw14.LineZips", spec := "lineZips", unfollowed := true, recurses := true, apart := false }
def LineZipsSaid : Prop := lineZipsRow.holds Try.pinned (OpenSpec.ofChange lineZipsSpec)

/-- ITS FALSE NEIGHBOUR: 'it returns false'. Refute it at one input. -/
def lineZipsWrong : ChangeSpec := { name := "lineZips", fn := fun _ => fun
  | [d1, d2, d3, d4] => { results := [.lit (.bool false)], args := [d1, d2, d3, d4] }
  | _ => none }
def LineZipsWrongFalsely : Prop := lineZipsRow.holds Try.pinned (OpenSpec.ofChange lineZipsWrong)

/-- 'poundagelaw14.LineMaps': WHATEVER THE INPUT: true; the input reads as it did. -/
def lineMapsSpec : ChangeSpec := { name := "lineMaps", fn := fun _ => fun
  | [d1, d2, d3] => { results := [.lit (.bool true)], args := [d1, d2, d3] }
  | _ => none }
def lineMapsRow : OpenClaim := { program := "ytgfimmaligcgjaa", sum := "4a7db083c7c5eb51d8bef3469cd222b7538bb7443ab1774ea288902ad99f190c", func := "poundage/poundagelaw14.LineMaps", spec := "lineMaps", unfollowed := true, recurses := true, apart := false }
def LineMapsSaid : Prop := lineMapsRow.holds Try.pinned (OpenSpec.ofChange lineMapsSpec)

/-- ITS FALSE NEIGHBOUR: 'it returns false'. Refute it at one input. -/
def lineMapsWrong : ChangeSpec := { name := "lineMaps", fn := fun _ => fun
  | [d1, d2, d3] => { results := [.lit (.bool false)], args := [d1, d2, d3] }
  | _ => none }
def LineMapsWrongFalsely : Prop := lineMapsRow.holds Try.pinned (OpenSpec.ofChange lineMapsWrong)

/-- 'poundagelaw14.LineAgain': WHATEVER THE INPUT: true; the input reads as it did. -/
def lineAgainSpec : ChangeSpec := { name := "lineAgain", fn := fun _ => fun
  | [d1, d2] => { results := [.lit (.bool true)], args := [d1, d2] }
  | _ => none }
def lineAgainRow : OpenClaim := { program := "ytgfimmaligcgjaa", sum := "4a7db083c7c5eb51d8bef3469cd222b7538bb7443ab1774ea288902ad99f190c", func := "poundage/poundagelaw14.LineAgain", spec := "lineAgain", unfollowed := true, recurses := true, apart := false }
def LineAgainSaid : Prop := lineAgainRow.holds Try.pinned (OpenSpec.ofChange lineAgainSpec)

/-- ITS FALSE NEIGHBOUR: 'it returns false'. Refute it at one input. -/
def lineAgainWrong : ChangeSpec := { name := "lineAgain", fn := fun _ => fun
  | [d1, d2] => { results := [.lit (.bool false)], args := [d1, d2] }
  | _ => none }
def LineAgainWrongFalsely : Prop := lineAgainRow.holds Try.pinned (OpenSpec.ofChange lineAgainWrong)

/-- 'poundagelaw14.LineFills': WHATEVER THE INPUT: true; the input reads as it did. -/
def lineFillsSpec : ChangeSpec := { name := "lineFills", fn := fun _ => fun
  | [d1, d2, d3, d4, d5] => { results := [.lit (.bool true)], args := [d1, d2, d3, d4, d5] }
  | _ => none }
def lineFillsRow : OpenClaim := { program := "ytgfimmaligcgjaa", sum := "4a7db083c7c5eb51d8bef3469cd222b7538bb7443ab1774ea288902ad99f190c", func := "poundage/poundagelaw14.LineFills", spec := "lineFills", unfollowed := true, recurses := true, apart := false }
def LineFillsSaid : Prop := lineFillsRow.holds Try.pinned (OpenSpec.ofChange lineFillsSpec)

/-- ITS FALSE NEIGHBOUR: 'it returns false'. Refute it at one input. -/
def lineFillsWrong : ChangeSpec := { name := "lineFills", fn := fun _ => fun
  | [d1, d2, d3, d4, d5] => { results := [.lit (.bool false)], args := [d1, d2, d3, d4, d5] }
  | _ => none }
def LineFillsWrongFalsely : Prop := lineFillsRow.holds Try.pinned (OpenSpec.ofChange lineFillsWrong)

/- THE SECOND FORM. 'bulk': how many values and letters a reading holds, each counted each time it is reached (what is shared counts as often as it is met; a slice's spare places count too). A statement '..UptoSaid' is the law's where the arguments, and the package variables that the reading takes, are together of bulk at most 1048576: NARROWER than '..Said'. Prove '..Said' where nothing that the law and all that it calls make is longer than what came in: it says more and counts as full. Else prove '..UptoSaid'. A law counts once. -/
mutual
def uptoBulk {H : Type} : DataW H → Nat
  | .lit (.string bytes) => bytes.length + 1
  | .lit _ => 1
  | .nil => 1
  | .ptr d => uptoBulk d + 1
  | .slice elems spare => uptoBulkAll elems + uptoBulkAll spare + 1
  | .agg parts => uptoBulkAll parts + 1
  | .iface _ d => uptoBulk d + 1
  | .map entries => uptoBulkEntries entries + 1
  | .held _ => 1
def uptoBulkAll {H : Type} : List (DataW H) → Nat
  | [] => 0
  | d :: r => uptoBulk d + uptoBulkAll r
def uptoBulkEntries {H : Type} : List (Lit × DataW H) → Nat
  | [] => 0
  | x :: r => uptoBulkEntry x + uptoBulkEntries r
def uptoBulkEntry {H : Type} : Lit × DataW H → Nat
  | (.string bytes, d) => bytes.length + uptoBulk d + 1
  | (_, d) => uptoBulk d + 1
 end
def uptoSmall : (H : Type) → List (DataW H) → Bool := fun _ ds => decide (uptoBulkAll ds ≤ 1048576)
def OpenSpec.upto (s : _root_.Go.ChangeSpec) : _root_.Go.OpenSpec := { _root_.Go.OpenSpec.ofChange s with cond := some uptoSmall }

/-- 'poundagelaw14.LineWords', WHERE WHAT IT READS IS OF BULK AT MOST 1048576: true; the input reads as it did. -/
def lineWordsUptoRow : OpenClaim := { program := "ytgfimmaligcgjaa", sum := "4a7db083c7c5eb51d8bef3469cd222b7538bb7443ab1774ea288902ad99f190c", func := "poundage/poundagelaw14.LineWords", spec := "lineWords", unfollowed := true, recurses := true, apart := false, narrowed := true }
def LineWordsUptoSaid : Prop := lineWordsUptoRow.holds Try.pinned (OpenSpec.upto lineWordsSpec)

/-- 'poundagelaw14.LineIs', WHERE WHAT IT READS IS OF BULK AT MOST 1048576: true; the input reads as it did. -/
def lineIsUptoRow : OpenClaim := { program := "ytgfimmaligcgjaa", sum := "4a7db083c7c5eb51d8bef3469cd222b7538bb7443ab1774ea288902ad99f190c", func := "poundage/poundagelaw14.LineIs", spec := "lineIs", unfollowed := true, recurses := true, apart := false, narrowed := true }
def LineIsUptoSaid : Prop := lineIsUptoRow.holds Try.pinned (OpenSpec.upto lineIsSpec)

/-- 'poundagelaw14.LineZips', WHERE WHAT IT READS IS OF BULK AT MOST 1048576: true; the input reads as it did. -/
def lineZipsUptoRow : OpenClaim := { program := "ytgfimmaligcgjaa", sum := "4a7db083c7c5eb51d8bef3469cd222b7538bb7443ab1774ea288902ad99f190c", func := "poundage/poundagelaw14.LineZips", spec := "lineZips", unfollowed := true, recurses := true, apart := false, narrowed := true }
def LineZipsUptoSaid : Prop := lineZipsUptoRow.holds Try.pinned (OpenSpec.upto lineZipsSpec)

/-- 'poundagelaw14.LineMaps', WHERE WHAT IT READS IS OF BULK AT MOST 1048576: true; the input reads as it did. -/
def lineMapsUptoRow : OpenClaim := { program := "ytgfimmaligcgjaa", sum := "4a7db083c7c5eb51d8bef3469cd222b7538bb7443ab1774ea288902ad99f190c", func := "poundage/poundagelaw14.LineMaps", spec := "lineMaps", unfollowed := true, recurses := true, apart := false, narrowed := true }
def LineMapsUptoSaid : Prop := lineMapsUptoRow.holds Try.pinned (OpenSpec.upto lineMapsSpec)

/-- 'poundagelaw14.LineAgain', WHERE WHAT IT READS IS OF BULK AT MOST 1048576: true; the input reads as it did. -/
def lineAgainUptoRow : OpenClaim := { program := "ytgfimmaligcgjaa", sum := "4a7db083c7c5eb51d8bef3469cd222b7538bb7443ab1774ea288902ad99f190c", func := "poundage/poundagelaw14.LineAgain", spec := "lineAgain", unfollowed := true, recurses := true, apart := false, narrowed := true }
def LineAgainUptoSaid : Prop := lineAgainUptoRow.holds Try.pinned (OpenSpec.upto lineAgainSpec)

/-- 'poundagelaw14.LineFills', WHERE WHAT IT READS IS OF BULK AT MOST 1048576: true; the input reads as it did. -/
def lineFillsUptoRow : OpenClaim := { program := "ytgfimmaligcgjaa", sum := "4a7db083c7c5eb51d8bef3469cd222b7538bb7443ab1774ea288902ad99f190c", func := "poundage/poundagelaw14.LineFills", spec := "lineFills", unfollowed := true, recurses := true, apart := false, narrowed := true }
def LineFillsUptoSaid : Prop := lineFillsUptoRow.holds Try.pinned (OpenSpec.upto lineFillsSpec)

end Rows
end Go.Proofs.Ytgfimmaligcgjaa

/- Bits, and the long division, in plain numbers. No claim stands here. -/
import Derived.Test.YtlflfciebidddaaAbsW
set_option linter.unusedSimpArgs false
set_option linter.unusedVariables false
namespace Go.Proofs.Ytlflfciebidddaa.Abs
open Go Go.RowKit Go.Proofs
theorem toNat_ofInt64 {a : Int} (h : 0 ≤ a ∧ a < 18446744073709551616) : (BitVec.ofInt 64 a).toNat = a.toNat := by
  rw [BitVec.toNat_ofInt]
  have : a % ((2 ^ 64 : Nat) : Int) = a := Int.emod_eq_of_lt h.1 (by have := h.2; simpa using this)
  rw [this]
theorem andMask {a : Int} (h : 0 ≤ a ∧ a < 18446744073709551616) : bandI .u64 a 4294967295 = a % 4294967296 := by
  rw [bandI, IntKind.wrap_u64, show IntKind.u64.bits = 64 from rfl, BitVec.toNat_and, toNat_ofInt64 h, toNat_ofInt64 (by omega)]
  rw [show (4294967295 : Int).toNat = 2 ^ 32 - 1 from rfl, Nat.and_two_pow_sub_one_eq_mod]
  omega
theorem orSum {A b : Int} {s : Nat} (hA : 0 ≤ A) (hb : 0 ≤ b ∧ b < 2 ^ s) (h : A * 2 ^ s + b < 18446744073709551616) : borI .u64 (A * 2 ^ s) b = A * 2 ^ s + b := by
  rw [borI]
  have h0 : 0 ≤ A * 2 ^ s := Int.mul_nonneg hA (Int.le_of_lt (Int.pow_pos (by omega)))
  rw [IntKind.wrap_u64, show IntKind.u64.bits = 64 from rfl, BitVec.toNat_or, toNat_ofInt64 ⟨h0, by omega⟩, toNat_ofInt64 ⟨hb.1, by omega⟩]
  obtain ⟨n, rfl⟩ := Int.eq_ofNat_of_zero_le hA
  obtain ⟨m, rfl⟩ := Int.eq_ofNat_of_zero_le hb.1
  have e : ((n : Int) * 2 ^ s).toNat = 2 ^ s * n := by
    have : ((n : Int) * 2 ^ s) = ((2 ^ s * n : Nat) : Int) := by rw [Int.natCast_mul, Int.mul_comm]; simp
    rw [this]; rfl
  have hm : m < 2 ^ s := by have := hb.2; exact_mod_cast this
  rw [e, show ((m : Int)).toNat = m from rfl, ← Nat.two_pow_add_eq_or_of_lt hm]
  have e2 : (((2 ^ s * n + m : Nat) : Int)) = (n : Int) * 2 ^ s + m := by rw [Int.natCast_add, Int.natCast_mul, Int.mul_comm]; simp
  rw [e2]
  omega
theorem kn_eq {U V y1 y0 u1 q r : Int} (hV : V = y1 * 4294967296 + y0) (hq : q * y1 + r = U) : q * V = (U - r) * 4294967296 + q * y0 := by
  have e : q * (y1 * 4294967296 + y0) = q * y1 * 4294967296 + q * y0 := by rw [Int.mul_add, Int.mul_assoc]
  rw [hV, e, ← hq]; omega
theorem kn_stop {U V y1 y0 u1 q r : Int} (hV : V = y1 * 4294967296 + y0) (hV0 : 0 < V) (hq : q * y1 + r = U) (hQ : (U * 4294967296 + u1) / V ≤ q) (h : q * y0 ≤ 4294967296 * r + u1) : q = (U * 4294967296 + u1) / V := by
  have e := kn_eq (u1 := u1) hV hq
  have : q ≤ (U * 4294967296 + u1) / V := by rw [Int.le_ediv_iff_mul_le hV0]; omega
  omega
theorem kn_go {U V y1 y0 u1 q r : Int} (hV : V = y1 * 4294967296 + y0) (hV0 : 0 < V) (hUV : U < V) (hu1 : u1 < 4294967296) (hq : q * y1 + r = U) (h : 4294967296 ≤ q ∨ 4294967296 * r + u1 < q * y0) : (U * 4294967296 + u1) / V ≤ q - 1 := by
  have e := kn_eq (u1 := u1) hV hq
  have : (U * 4294967296 + u1) / V < q := by
    rw [Int.ediv_lt_iff_lt_mul hV0]
    rcases h with h | h
    · have := Int.mul_le_mul_of_nonneg_right h (Int.le_of_lt hV0)
      omega
    · omega
  omega
theorem kn_init {U V y1 y0 u1 : Int} (hV : V = y1 * 4294967296 + y0) (hy1 : 2147483648 ≤ y1) (hy0 : 0 ≤ y0 ∧ y0 < 4294967296) (hU : 0 ≤ U) (hUV : U < V) (hu1 : 0 ≤ u1 ∧ u1 < 4294967296) : U / y1 * y1 + U % y1 = U ∧ 0 ≤ U % y1 ∧ U % y1 < y1 ∧ (U * 4294967296 + u1) / V ≤ U / y1 ∧ U / y1 ≤ 4294967297 ∧ 0 ≤ U / y1 := by
  have h0 : (0 : Int) < y1 := by omega
  have hV0 : 0 < V := by omega
  have e := Int.emod_add_mul_ediv U y1
  rw [Int.mul_comm] at e
  have h1 := Int.emod_nonneg U (show y1 ≠ 0 by omega)
  have h2 := Int.emod_lt_of_pos U h0
  have h3 : 0 ≤ U / y1 := Int.ediv_nonneg hU (by omega)
  refine ⟨by omega, h1, h2, ?_, ?_, h3⟩
  · have : (U * 4294967296 + u1) / V < U / y1 + 1 := by
      rw [Int.ediv_lt_iff_lt_mul hV0]
      have e2 : (U / y1 + 1) * V = (U / y1 * y1 + y1) * 4294967296 + (U / y1 + 1) * y0 := by
        rw [hV, Int.mul_add, Int.add_mul, Int.add_mul, Int.add_mul]
        have : U / y1 * (y1 * 4294967296) = U / y1 * y1 * 4294967296 := by rw [Int.mul_assoc]
        omega
      have := Int.mul_nonneg (show 0 ≤ U / y1 + 1 by omega) hy0.1
      omega
    omega
  · have : U / y1 < 4294967298 := by
      rw [Int.ediv_lt_iff_lt_mul h0]; omega
    omega
def LenP (x : Int) (n : Nat) : Prop := 0 ≤ x ∧ x < 2 ^ n ∧ (x = 0 ∧ n = 0 ∨ 0 < n ∧ 2 ^ (n - 1) ≤ x)
theorem pow_le {n m : Nat} (h : n ≤ m) : (2 : Int) ^ n ≤ 2 ^ m := by
  have := Nat.pow_le_pow_right (n := 2) (by omega) h
  exact_mod_cast this
theorem pow_pos2 (n : Nat) : (0 : Int) < 2 ^ n := Int.pow_pos (by omega)
theorem LenP.unique {x : Int} {n m : Nat} (h1 : LenP x n) (h2 : LenP x m) : n = m := by
  obtain ⟨a0, a1, a2⟩ := h1
  obtain ⟨_, b1, b2⟩ := h2
  rcases Nat.lt_trichotomy n m with h | h | h
  · rcases b2 with ⟨_, rfl⟩ | ⟨_, b2⟩
    · omega
    · have := pow_le (show n ≤ m - 1 by omega); omega
  · exact h
  · rcases a2 with ⟨_, rfl⟩ | ⟨_, a2⟩
    · omega
    · have := pow_le (show m ≤ n - 1 by omega); omega
theorem LenP.shift {x : Int} {k n : Nat} (h0 : 0 ≤ x) (h1 : 2 ^ k ≤ x) (h : LenP (x / 2 ^ k) n) : LenP x (k + n) := by
  obtain ⟨a0, a1, a2⟩ := h
  have hk := pow_pos2 k
  have e1 : x < 2 ^ (k + n) := by
    rw [Int.ediv_lt_iff_lt_mul hk] at a1
    rw [Int.pow_add, Int.mul_comm]; exact a1
  have h2 : 1 ≤ x / 2 ^ k := by rw [Int.le_ediv_iff_mul_le hk]; omega
  refine ⟨h0, e1, .inr ?_⟩
  rcases a2 with ⟨a2, _⟩ | ⟨a2, a3⟩
  · omega
  · refine ⟨by omega, ?_⟩
    rw [Int.le_ediv_iff_mul_le hk] at a3
    have : k + n - 1 = k + (n - 1) := by omega
    rw [this, Int.pow_add, Int.mul_comm]; exact a3
def blen (x : Int) : Nat := if x = 0 then 0 else Nat.log2 x.toNat + 1
theorem blen_ok {x : Int} (h : 0 ≤ x) : LenP x (blen x) := by
  unfold blen
  split
  · next e => subst e; exact ⟨by omega, by decide, .inl ⟨rfl, rfl⟩⟩
  · next e =>
    have hx : x.toNat ≠ 0 := by omega
    have h1 := Nat.lt_log2_self (n := x.toNat)
    have h2 := Nat.log2_self_le hx
    refine ⟨h, ?_, .inr ⟨by omega, ?_⟩⟩
    · have : ((x.toNat : Nat) : Int) < ((2 ^ (Nat.log2 x.toNat + 1) : Nat) : Int) := by exact_mod_cast h1
      rw [Int.toNat_of_nonneg h] at this
      simpa using this
    · have : ((2 ^ (Nat.log2 x.toNat) : Nat) : Int) ≤ ((x.toNat : Nat) : Int) := by exact_mod_cast h2
      rw [Int.toNat_of_nonneg h] at this
      rw [show Nat.log2 x.toNat + 1 - 1 = Nat.log2 x.toNat by omega]
      simpa using this
theorem blen_of {x : Int} {n : Nat} (h : LenP x n) : blen x = n := (blen_ok h.1).unique h
theorem blen_64 {x : Int} (h : 0 ≤ x ∧ x < 18446744073709551616) : blen x ≤ 64 := by
  obtain ⟨_, _, a⟩ := blen_ok h.1
  rcases a with ⟨_, a⟩ | ⟨a, b⟩
  · omega
  · refine Nat.le_of_not_lt fun h2 => ?_
    have := pow_le (show 64 ≤ blen x - 1 by omega)
    omega
set_option maxRecDepth 20000 in
abbrev tab8 : ByteArray := ⟨⟨[0, 1, 2, 2, 3, 3, 3, 3, 4, 4, 4, 4, 4, 4, 4, 4, 5, 5, 5, 5, 5, 5, 5, 5, 5, 5, 5, 5, 5, 5, 5, 5, 6, 6, 6, 6, 6, 6, 6, 6, 6, 6, 6, 6, 6, 6, 6, 6, 6, 6, 6, 6, 6, 6, 6, 6, 6, 6, 6, 6, 6, 6, 6, 6, 7, 7, 7, 7, 7, 7, 7, 7, 7, 7, 7, 7, 7, 7, 7, 7, 7, 7, 7, 7, 7, 7, 7, 7, 7, 7, 7, 7, 7, 7, 7, 7, 7, 7, 7, 7, 7, 7, 7, 7, 7, 7, 7, 7, 7, 7, 7, 7, 7, 7, 7, 7, 7, 7, 7, 7, 7, 7, 7, 7, 7, 7, 7, 7, 8, 8, 8, 8, 8, 8, 8, 8, 8, 8, 8, 8, 8, 8, 8, 8, 8, 8, 8, 8, 8, 8, 8, 8, 8, 8, 8, 8, 8, 8, 8, 8, 8, 8, 8, 8, 8, 8, 8, 8, 8, 8, 8, 8, 8, 8, 8, 8, 8, 8, 8, 8, 8, 8, 8, 8, 8, 8, 8, 8, 8, 8, 8, 8, 8, 8, 8, 8, 8, 8, 8, 8, 8, 8, 8, 8, 8, 8, 8, 8, 8, 8, 8, 8, 8, 8, 8, 8, 8, 8, 8, 8, 8, 8, 8, 8, 8, 8, 8, 8, 8, 8, 8, 8, 8, 8, 8, 8, 8, 8, 8, 8, 8, 8, 8, 8, 8, 8, 8, 8, 8, 8, 8, 8, 8, 8, 8, 8]⟩⟩
set_option maxRecDepth 20000 in
theorem tab8_size : tab8.size = 256 := (rfl)
set_option maxRecDepth 20000 in
theorem tab8_ok : ∀ b : Nat, b < 256 → strAt tab8 b = (blen b : Nat) := by decide +kernel
theorem fdiv_pos {x c : Int} (hc : 0 ≤ c) : x.fdiv c = x / c := Int.fdiv_eq_ediv_of_nonneg _ hc
theorem blen_k {x : Int} (k : Nat) (h : 2 ^ k ≤ x) : (blen x : Int) = k + blen (x / 2 ^ k) := by
  have h0 : 0 ≤ x := by have := pow_pos2 k; omega
  have h2 : 0 ≤ x / 2 ^ k := Int.ediv_nonneg h0 (Int.le_of_lt (pow_pos2 k))
  rw [blen_of (LenP.shift h0 h (blen_ok h2)), Int.natCast_add]
theorem blen_32 {x : Int} (h : 4294967296 ≤ x) : (blen x : Int) = 32 + blen (x.fdiv 4294967296) := by rw [fdiv_pos (by omega)]; exact blen_k 32 h
theorem blen_16 {x : Int} (h : 65536 ≤ x) : (blen x : Int) = 16 + blen (x.fdiv 65536) := by rw [fdiv_pos (by omega)]; exact blen_k 16 h
theorem blen_8 {x : Int} (h : 256 ≤ x) : (blen x : Int) = 8 + blen (x.fdiv 256) := by rw [fdiv_pos (by omega)]; exact blen_k 8 h
theorem tab_wrap {z : Int} (h : 0 ≤ z ∧ z < 256) : strAt tab8 (IntKind.u8.wrap z).toNat = blen z := by
  have e : IntKind.u8.wrap z = z := by rw [IntKind.wrap_u8]; omega
  rw [e, tab8_ok _ (by omega), Int.toNat_of_nonneg h.1]
theorem tab_in {z : Int} : 0 ≤ IntKind.u8.wrap z ∧ IntKind.u8.wrap z < (tab8.size : Int) := by
  rw [tab8_size, IntKind.wrap_u8]; omega
theorem blen_8max {z : Int} (h : 0 ≤ z ∧ z < 256) : blen z ≤ 8 := by
  obtain ⟨_, _, a⟩ := blen_ok h.1
  rcases a with ⟨_, a⟩ | ⟨a, b⟩
  · omega
  · refine Nat.le_of_not_lt fun h2 => ?_
    have := pow_le (show 8 ≤ blen z - 1 by omega)
    omega
theorem fin_wrap {c z : Int} (hc : 0 ≤ c ∧ c ≤ 100) (hz : 0 ≤ z ∧ z < 256) : IntKind.i64.wrap (c + IntKind.i64.wrap (blen z : Int)) = c + blen z := by
  have := blen_8max hz
  rw [IntKind.wrap_i64, IntKind.wrap_i64]; omega
theorem part_bound {x y : Int} (hx : 0 ≤ x ∧ x ≤ 4294967295) (hy : 0 ≤ y ∧ y ≤ 4294967295) : 0 ≤ x * y ∧ x * y ≤ 18446744065119617025 := by
  refine ⟨Int.mul_nonneg hx.1 hy.1, ?_⟩
  have := Int.mul_le_mul hx.2 hy.2 hy.1 (by omega)
  omega
theorem mul_parts (x y : Int) : x * y = x / 4294967296 * (y / 4294967296) * 18446744073709551616 + x / 4294967296 * (y % 4294967296) * 4294967296 + x % 4294967296 * (y / 4294967296) * 4294967296 + x % 4294967296 * (y % 4294967296) := by
  have hx := Int.emod_add_mul_ediv x 4294967296
  have hy := Int.emod_add_mul_ediv y 4294967296
  have e : x * y = (x % 4294967296 + 4294967296 * (x / 4294967296)) * (y % 4294967296 + 4294967296 * (y / 4294967296)) := by rw [hx, hy]
  rw [e]
  simp -implicitDefEqProofs only [Int.add_mul, Int.mul_add]
  have e1 : ∀ p q : Int, p * (4294967296 * q) = p * q * 4294967296 := fun p q => by rw [Int.mul_left_comm]; omega
  have e2 : ∀ p q : Int, 4294967296 * p * q = p * q * 4294967296 := fun p q => by rw [Int.mul_assoc]; omega
  have e3 : ∀ p q : Int, 4294967296 * p * (4294967296 * q) = p * q * 18446744073709551616 := fun p q => by rw [e1, e2]; omega
  rw [e1, e2, e3]
  omega
theorem div_norm {hi lo y : Int} (h : 0 ≤ hi ∧ hi < y) (hy : y < 18446744073709551616) (hl : 0 ≤ lo ∧ lo < 18446744073709551616) : ∃ (s r : Nat) (V U T : Int), 64 - (blen y : Int) = s ∧ s ≤ 64 ∧ IntKind.u64.wrap (s : Int) = s ∧ IntKind.u64.wrap (64 - (s : Int)) = r ∧ r ≤ 64 ∧
    IntKind.u64.wrap (y * 2 ^ s) = V ∧ 9223372036854775808 ≤ V ∧ V < 18446744073709551616 ∧ borI .u64 (IntKind.u64.wrap (hi * 2 ^ s)) (lo.fdiv (2 ^ r)) = U ∧ 0 ≤ U ∧ U < V ∧ IntKind.u64.wrap (lo * 2 ^ s) = T ∧ 0 ≤ T ∧ T < 18446744073709551616 ∧ U * 18446744073709551616 + T = (hi * 18446744073709551616 + lo) * 2 ^ s ∧ V = y * 2 ^ s := by
  have hb := blen_64 (x := y) (by omega)
  obtain ⟨_, l1, l2⟩ := blen_ok (x := y) (by omega)
  obtain ⟨l3, l4⟩ : 0 < blen y ∧ 2 ^ (blen y - 1) ≤ y := by rcases l2 with l2 | l2; omega; exact l2
  obtain ⟨s, hs⟩ : ∃ s : Nat, blen y + s = 64 := ⟨64 - blen y, by omega⟩
  have hP := pow_pos2 s
  have hR := pow_pos2 (64 - s)
  have hPR : (2 : Int) ^ (64 - s) * 2 ^ s = 18446744073709551616 := by rw [← Int.pow_add, show 64 - s + s = 64 by omega]; rfl
  have hV1 : 9223372036854775808 ≤ y * 2 ^ s := by
    have e : (2 : Int) ^ (blen y - 1) * 2 ^ s = 9223372036854775808 := by rw [← Int.pow_add, show blen y - 1 + s = 63 by omega]; rfl
    have := Int.mul_le_mul_of_nonneg_right l4 (Int.le_of_lt hP)
    omega
  have hV2 : y * 2 ^ s < 18446744073709551616 := by
    have e : (2 : Int) ^ (blen y) * 2 ^ s = 18446744073709551616 := by rw [← Int.pow_add, show blen y + s = 64 by omega]; rfl
    have := Int.mul_lt_mul_of_pos_right l1 hP
    omega
  have hU0 : 0 ≤ hi * 2 ^ s := Int.mul_nonneg h.1 (Int.le_of_lt hP)
  have hU1 : hi * 2 ^ s + 2 ^ s ≤ y * 2 ^ s := by
    have := Int.mul_le_mul_of_nonneg_right (show hi + 1 ≤ y by omega) (Int.le_of_lt hP)
    rw [Int.add_mul] at this; omega
  have hq0 : 0 ≤ lo / 2 ^ (64 - s) := Int.ediv_nonneg hl.1 (Int.le_of_lt hR)
  have hq1 : lo / 2 ^ (64 - s) < 2 ^ s := by rw [Int.ediv_lt_iff_lt_mul hR, Int.mul_comm, hPR]; exact hl.2
  have hm0 := Int.emod_nonneg lo (show (2 : Int) ^ (64 - s) ≠ 0 by omega)
  have hm1 := Int.emod_lt_of_pos lo hR
  have hlo := Int.emod_add_mul_ediv lo (2 ^ (64 - s))
  have eT : lo * 2 ^ s = lo % 2 ^ (64 - s) * 2 ^ s + lo / 2 ^ (64 - s) * 18446744073709551616 := by
    conv => lhs; rw [← hlo]
    rw [Int.add_mul, ← hPR]
    congr 1
    rw [Int.mul_comm ((2 : Int) ^ (64 - s)) (lo / 2 ^ (64 - s)), Int.mul_assoc]
  have hT0 : 0 ≤ lo % 2 ^ (64 - s) * 2 ^ s := Int.mul_nonneg hm0 (Int.le_of_lt hP)
  have hT1 : lo % 2 ^ (64 - s) * 2 ^ s < 18446744073709551616 := by
    have := Int.mul_lt_mul_of_pos_right hm1 hP
    omega
  refine ⟨s, 64 - s, y * 2 ^ s, hi * 2 ^ s + lo / 2 ^ (64 - s), lo % 2 ^ (64 - s) * 2 ^ s, by omega, by omega, wrapU_in (by omega), by rw [wrapU_in (by omega)]; omega, by omega, wrapU_in (by omega), hV1, hV2, ?_, by omega, by omega, ?_, hT0, hT1, ?_, rfl⟩
  · rw [wrapU_in (by omega), fdiv_pos (Int.le_of_lt hR)]
    exact orSum h.1 ⟨hq0, hq1⟩ (by omega)
  · rw [IntKind.wrap_u64, eT]; omega
  · rw [Int.add_mul (hi * 18446744073709551616) lo, eT, Int.add_mul]
    have : hi * 18446744073709551616 * 2 ^ s = hi * 2 ^ s * 18446744073709551616 := by rw [Int.mul_assoc, Int.mul_comm 18446744073709551616, ← Int.mul_assoc]
    omega
theorem div_facts' {p c : Int} (hc : 0 < c) : p / c * c + p % c = p ∧ 0 ≤ p % c ∧ p % c < c := by
  have e := Int.emod_add_mul_ediv p c
  rw [Int.mul_comm] at e
  exact ⟨by omega, Int.emod_nonneg _ (by omega), Int.emod_lt_of_pos _ hc⟩
theorem div_unique' {p c q r : Int} (hc : 0 < c) (h : q * c + r = p) (h1 : 0 ≤ r) (h2 : r < c) : p / c = q ∧ p % c = r :=
  (Int.ediv_emod_unique hc).2 ⟨by rw [Int.mul_comm] at h; omega, h1, h2⟩
end Go.Proofs.Ytlflfciebidddaa.Abs

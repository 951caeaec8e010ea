/-
  What package real's functions return, as whole-number functions of the bits. Conditions: none; the last lemmas
  speak of 64-bit numbers.
-/
import Derived.Test.YtlphgnfjemaliaaDoorRealW
namespace Go.Proofs.YtlphgnfjemaliaaDoor.RealG
open Go.RowKit Go.Proofs.YtlphgnfjemaliaaDoor.Flt Go.Proofs.YtlphgnfjemaliaaDoor.RealW

/-- Bits of a sign and a magnitude, as a 64-bit number. -/
def withX (neg : Bool) (r : Nat) : Int := if neg then (r : Int) - 9223372036854775808 else r
def noneX : Int := 9221120237041090560

theorem bitsI_word (s : Bool) (r : Nat) (h : r ≤ 9218868437227405312) : bitsI (Ieee.double.word s r) = withX s r := by
  obtain ⟨e1, e2, e3⟩ := sg_word s r (by omega)
  have hn : nanN (Ieee.double.word s r) = false := by unfold nanN; rw [e2]; simp; exact h
  rw [bitsI_num hn]
  have hw : Ieee.double.signWeight = 9223372036854775808 := by decide
  unfold withX Ieee.Format.word wrap64
  rw [hw]
  cases s <;> simp only [Bool.false_eq_true, if_false, if_true] <;> omega

theorem halfN_le (r : Nat) (h : r ≤ 9218868437227405312) : halfN r ≤ 9218868437227405312 := by
  unfold halfN
  split
  · exact h
  · split
    · omega
    · have : (if r % 2 = 1 ∧ r / 2 % 2 = 1 then 1 else 0) ≤ 1 := by split <;> omega
      omega
theorem twiceN_le (r : Nat) : twiceN r ≤ 9218868437227405312 := by
  unfold twiceN
  split
  · omega
  · split <;> omega

def halfX (x : Int) : Int := if nanN (U x) = true then noneX else withX (sg (U x)) (halfN (rg (U x)))
def twiceX (x : Int) : Int := if nanN (U x) = true then noneX else withX (sg (U x)) (twiceN (rg (U x)))
def flipX (x : Int) : Int := if nanN (U x) = true then noneX else withX (!(sg (U x))) (rg (U x))
def ofX (n : Int) : Int := withX (decide (mnC (mxC n) < 0)) (ofN (mnC (mxC n)).natAbs)
def belowX (x y : Int) : Bool := !(nanN (U x)) && !(nanN (U y)) && decide (placeN (U x) < placeN (U y))
def wholeX (x : Int) : Int :=
  if nanN (U x) = true then 0 else if 4845873199050653696 ≤ placeN (U x) then 9007199254740992 else if placeN (U x) ≤ -4845873199050653696 then -9007199254740992
  else signedU (sg (U x)) (intN (rg (U x)))

theorem nan_iff {n : Nat} : nanN n = true ↔ 9218868437227405312 < rg n := by unfold nanN; exact decide_eq_true_iff
theorem num_iff {n : Nat} : nanN n = false ↔ ¬ 9218868437227405312 < rg n := by unfold nanN; exact decide_eq_false_iff_not

theorem half_any (x : Int) (w : World) :
    Calls Tryd.prog 56 #[.int .i64 x] w fun e w' => e = .returned (.int .i64 (halfX x)) ∧ ∃ n, w' = w.drewN n := by
  have hd := div_two (U x) (U_lt x)
  unfold halfX
  by_cases h : nanN (U x) = true
  · rw [if_pos h]
    rw [if_pos (nan_iff.1 h)] at hd
    exact (half_none x hd w).mono fun e w' ⟨h1, h2⟩ => ⟨h1, 1, h2.symm⟩
  · rw [if_neg h]
    have h' := num_iff.1 (by simpa using h)
    rw [if_neg h'] at hd
    have hl := halfN_le (rg (U x)) (by omega)
    have := half_some x _ (sg_word _ _ (by omega)).2.2 hd w
    rw [bitsI_word _ _ hl] at this
    exact this.mono fun e w' ⟨h1, h2⟩ => ⟨h1, 0, h2.symm⟩

theorem twice_any (x : Int) (w : World) :
    Calls Tryd.prog 57 #[.int .i64 x] w fun e w' => e = .returned (.int .i64 (twiceX x)) ∧ ∃ n, w' = w.drewN n := by
  have hd := mul_two (U x) (U_lt x)
  unfold twiceX
  by_cases h : nanN (U x) = true
  · rw [if_pos h]
    rw [if_pos (nan_iff.1 h)] at hd
    exact (twice_none x hd w).mono fun e w' ⟨h1, h2⟩ => ⟨h1, 1, h2.symm⟩
  · rw [if_neg h]
    have h' := num_iff.1 (by simpa using h)
    rw [if_neg h'] at hd
    have hl := twiceN_le (rg (U x))
    have := twice_some x _ (sg_word _ _ (by omega)).2.2 hd w
    rw [bitsI_word _ _ hl] at this
    exact this.mono fun e w' ⟨h1, h2⟩ => ⟨h1, 0, h2.symm⟩

theorem xor_bit (n : Nat) (h : n < 18446744073709551616) : n ^^^ 9223372036854775808 = Ieee.double.word (!(sg n)) (rg n) := by
  have hw : Ieee.double.signWeight = 9223372036854775808 := by decide
  have e63 : (9223372036854775808 : Nat) = 2 ^ 63 := by decide
  have key : ∀ m : Nat, m < 9223372036854775808 → m ^^^ 9223372036854775808 = 9223372036854775808 + m := by
    intro m hm
    rw [e63] at hm ⊢
    apply Nat.eq_of_testBit_eq
    intro i
    rw [Nat.testBit_xor, Nat.testBit_two_pow]
    rcases Nat.lt_trichotomy i 63 with hi | hi | hi
    · rw [Nat.testBit_two_pow_add_gt hi, show decide (63 = i) = false from decide_eq_false (by omega), Bool.xor_false]
    · subst hi; rw [Nat.testBit_two_pow_add_eq, decide_eq_true rfl, Bool.xor_true]
    · have h1 : m.testBit i = false := Nat.testBit_lt_two_pow (Nat.lt_of_lt_of_le hm (Nat.pow_le_pow_right (by omega) (by omega)))
      have h2 : (2 ^ 63 + m).testBit i = false := Nat.testBit_lt_two_pow (Nat.lt_of_lt_of_le (show 2 ^ 63 + m < 2 ^ 64 by omega) (Nat.pow_le_pow_right (by omega) (by omega)))
      rw [h1, h2, show decide (63 = i) = false from decide_eq_false (by omega), Bool.xor_false]
  unfold sg rg Ieee.Format.word
  rw [hw]
  by_cases h1 : 9223372036854775808 ≤ n
  · obtain ⟨m, rfl⟩ : ∃ m, n = 9223372036854775808 + m := ⟨n - 9223372036854775808, by omega⟩
    rw [← key m (by omega), Nat.xor_assoc, Nat.xor_self, Nat.xor_zero, key m (by omega)]
    simp only [show 9223372036854775808 ≤ 9223372036854775808 + m by omega, decide_true, Bool.not_true, Bool.false_eq_true, if_false]
    omega
  · rw [key n (by omega)]
    simp only [h1, decide_false, Bool.not_false, if_true]
    omega

theorem flip_eq (x : Int) (w : World) :
    Calls Tryd.prog 58 #[.int .i64 x] w fun e w' => e = .returned (.int .i64 (flipX x)) ∧ ∃ n, w' = w.drewN n := by
  have hf := flip_any x w
  rw [xor_bit _ (U_lt x)] at hf
  have hr : rg (U x) < 9223372036854775808 := Nat.mod_lt _ (by omega)
  have e : bitsI (Ieee.double.word (!(sg (U x))) (rg (U x))) = flipX x := by
    unfold flipX
    by_cases h : nanN (U x) = true
    · rw [if_pos h, bitsI_nan]
      · rfl
      · rw [nan_iff, (sg_word _ _ hr).2.1]; exact nan_iff.1 h
    · rw [if_neg h]
      have h' := num_iff.1 (by simpa using h)
      exact bitsI_word _ _ (by omega)
  rw [e] at hf
  exact hf.mono fun e w' ⟨h1, h2⟩ => ⟨h1, 0, h2.symm⟩

theorem clamp_le (n : Int) : (mnC (mxC n)).natAbs ≤ 9007199254740992 := by
  unfold mnC mxC; split <;> split <;> omega

theorem ofN_le (a : Nat) (h : a ≤ 9007199254740992) : ofN a ≤ 4845873199050653696 := by
  by_cases hb : a = 9007199254740992
  · subst hb
    have hl : (9007199254740992 : Nat).log2 = 53 := (Nat.log2_eq_iff (by omega)).2 ⟨by decide, by decide⟩
    unfold ofN
    rw [if_neg (by omega), hl]
    have e4 : 9007199254740992 * 4503599627370496 / 2 ^ 53 = 4503599627370496 := Nat.mul_div_cancel_left _ (by omega)
    rw [e4]
    omega
  · exact Nat.le_of_lt (ofN_lt a (by omega))

theorem of_eq (n : Int) (w : World) :
    Calls Tryd.prog 59 #[.int .i64 n] w fun e w' => e = .returned (.int .i64 (ofX n)) ∧ ∃ k, w' = w.drewN k := by
  have hf := of_any n w
  have hle := clamp_le n
  have h2 := ofN_le _ hle
  unfold ofBits at hf
  rw [of_near _ _ hle, bitsI_word _ _ (by omega)] at hf
  exact hf.mono fun e w' ⟨h1, h2⟩ => ⟨h1, 0, h2.symm⟩

theorem below_eq (x y : Int) (w : World) :
    Calls Tryd.prog 53 #[.int .i64 x, .int .i64 y] w fun e w' => e = .returned (.bool (belowX x y)) ∧ ∃ k, w' = w.drewN k := by
  have hf := below_any x y w
  have e : (Ieee.double.order (U x) (U y) == some .lt) = belowX x y := by
    rw [order_eq _ _ (U_lt x) (U_lt y)]
    unfold belowX
    by_cases h1 : nanN (U x) = true
    · rw [if_pos (Or.inl (nan_iff.1 h1)), h1]; rfl
    · by_cases h2 : nanN (U y) = true
      · rw [if_pos (Or.inr (nan_iff.1 h2)), h2]; simp
      · have a1 := num_iff.1 (by simpa using h1)
        have a2 := num_iff.1 (by simpa using h2)
        rw [if_neg (by omega)]
        simp only [Bool.not_eq_true] at h1 h2
        rw [h1, h2, Bool.eq_iff_iff]
        simp only [beq_iff_eq, Option.some.injEq, Int.compare_eq_lt, Bool.not_false, Bool.true_and, decide_eq_true_eq]
  rw [e] at hf
  exact hf.mono fun e w' ⟨h1, h2⟩ => ⟨h1, 0, h2.symm⟩

theorem whole_eq (x : Int) (w : World) :
    Calls Tryd.prog 60 #[.int .i64 x] w fun e w' => e = .returned (.int .i64 (wholeX x)) ∧ ∃ k, w' = w.drewN k := by
  unfold wholeX
  by_cases h : nanN (U x) = true
  · rw [if_pos h]
    exact (whole_nan x h w).mono fun e w' ⟨h1, h2⟩ => ⟨h1, 0, h2.symm⟩
  · rw [if_neg h]
    simp only [Bool.not_eq_true] at h
    by_cases hb : 4845873199050653696 ≤ placeN (U x)
    · rw [if_pos hb]
      exact (whole_high x h hb w).mono fun e w' ⟨h1, h2⟩ => ⟨h1, 0, h2.symm⟩
    · rw [if_neg hb]
      by_cases hc : placeN (U x) ≤ -4845873199050653696
      · rw [if_pos hc]
        exact (whole_low x h hc w).mono fun e w' ⟨h1, h2⟩ => ⟨h1, 0, h2.symm⟩
      · rw [if_neg hc]
        exact (whole_mid x h hb hc w).mono fun e w' ⟨h1, h2⟩ => ⟨h1, 0, h2.symm⟩

/-! ### Of a 64-bit number -/
/-- The bits but the sign's. -/
def restX (x : Int) : Nat := (if x < 0 then x + 9223372036854775808 else x).toNat
theorem U_parts (x : Int) (h : -9223372036854775808 ≤ x ∧ x ≤ 9223372036854775807) : sg (U x) = decide (x < 0) ∧ rg (U x) = restX x := by
  unfold sg rg U restX
  rw [IntKind.wrap_u64]
  by_cases hn : x < 0
  · rw [if_pos hn, show x % 18446744073709551616 = x + 18446744073709551616 by omega]
    refine ⟨?_, by omega⟩
    simp [hn]; omega
  · rw [if_neg hn, show x % 18446744073709551616 = x by omega]
    refine ⟨?_, by omega⟩
    simp [hn]; omega
end Go.Proofs.YtlphgnfjemaliaaDoor.RealG

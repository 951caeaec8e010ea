/-
  Plain law of chapter 2: binary64 words. What half, twice, the opposite, the order, a whole number's word and a
  word's whole part are, in whole numbers alone. Nothing of the program stands here. No conditions.
-/
import Ieee.Arith
import Derived.Laws.FloatBits
namespace Go.Proofs.YtlphgnfjemaliaaDoor.Flt
open Ieee

/-- Rounding 'n / d' to the nearest whole number, ties to the even one. -/
def rne (n d : Nat) : Nat := n / d + (if d < 2 * (n % d) ∨ (d = 2 * (n % d) ∧ n / d % 2 = 1) then 1 else 0)

theorem rne_one (n : Nat) : rne n 1 = n := by
  unfold rne; rw [if_neg (by omega)]; simp

theorem rne_mul (n d c : Nat) (hc : 0 < c) : rne (n * c) (d * c) = rne n d := by
  unfold rne
  rw [Nat.mul_div_mul_right _ _ hc, Nat.mul_mod_mul_right]
  have e1 : (d * c < 2 * (n % d * c)) ↔ d < 2 * (n % d) := by
    rw [← Nat.mul_assoc]; exact Nat.mul_lt_mul_right hc
  have e2 : (d * c = 2 * (n % d * c)) ↔ d = 2 * (n % d) := by
    rw [← Nat.mul_assoc]
    exact ⟨fun h => Nat.eq_of_mul_eq_mul_right hc h, fun h => by rw [← h]⟩
  simp only [e1, e2]

theorem lt_two_pow_log2 (n : Nat) : n < 2 ^ (n.log2 + 1) := Nat.lt_log2_self

theorem cut_eq (s : Bool) (n drop : Nat) : Toward.even.cut s n drop = rne n (2 ^ drop) := by
  have hn := lt_two_pow_log2 n
  unfold Toward.cut rne
  simp only [Nat.one_shiftLeft]
  by_cases h : drop ≤ n.log2 + 2
  · rw [Nat.min_eq_left h]
    congr 1
    generalize 2 ^ drop = d
    by_cases h1 : d < 2 * (n % d)
    · simp [h1]
    · by_cases h2 : d = 2 * (n % d)
      · by_cases h3 : n / d % 2 = 1
        · rw [if_pos (Or.inr ⟨h2, h3⟩)]; simp [h2.symm, h3]
        · have hf : (d < 2 * (n % d) || (d == 2 * (n % d) && n / d % 2 == 1)) = false := by simp [h1, h3]
          rw [if_neg (by rintro (a | a); exact h1 a; exact h3 a.2), hf]; rfl
      · have hf : (d < 2 * (n % d) || (d == 2 * (n % d) && n / d % 2 == 1)) = false := by simp [h1, h2]
        rw [if_neg (by rintro (a | a); exact h1 a; exact h2 a.1), hf]; rfl
  · have h' : n.log2 + 2 ≤ drop := by omega
    rw [Nat.min_eq_right h']
    have hp : 2 ^ (n.log2 + 2) = 2 * 2 ^ (n.log2 + 1) := by rw [show n.log2 + 2 = (n.log2 + 1) + 1 from rfl, Nat.pow_succ]; omega
    have hq : 2 ^ (n.log2 + 2) ≤ 2 ^ drop := Nat.pow_le_pow_right (by omega) h'
    have a1 : n / 2 ^ (n.log2 + 2) = 0 := Nat.div_eq_of_lt (by omega)
    have a2 : n % 2 ^ (n.log2 + 2) = n := Nat.mod_eq_of_lt (by omega)
    have b1 : n / 2 ^ drop = 0 := Nat.div_eq_of_lt (by omega)
    have b2 : n % 2 ^ drop = n := Nat.mod_eq_of_lt (by omega)
    rw [a1, a2, b1, b2]
    have hf : (2 ^ (n.log2 + 2) < 2 * n || (2 ^ (n.log2 + 2) == 2 * n && 0 % 2 == 1)) = false := by
      simp; omega
    rw [hf, if_neg (by omega)]; rfl

theorem log2_shift (m k : Nat) (hm : m ≠ 0) : (m * 2 ^ k).log2 = m.log2 + k := by
  have hp : 0 < 2 ^ k := Nat.two_pow_pos k
  have h0 : m * 2 ^ k ≠ 0 := Nat.mul_ne_zero hm (by omega)
  rw [Nat.log2_eq_iff h0]
  have h1 : 2 ^ m.log2 ≤ m := (Nat.le_log2 hm).1 (Nat.le_refl _)
  have h2 := lt_two_pow_log2 m
  constructor
  · rw [Nat.pow_add]; exact Nat.mul_le_mul_right _ h1
  · rw [show m.log2 + k + 1 = (m.log2 + 1) + k by omega, Nat.pow_add]; exact Nat.mul_lt_mul_of_pos_right h2 hp

/-- The place of the last digit that is kept. -/
def lastOf (m : Nat) (p : Int) : Int := max (p + m.log2 - 52) (-1074)

theorem nearest_eq (s : Bool) (m : Nat) (p : Int) (hm : m ≠ 0) :
    double.nearest s m p = double.word s (min ((lastOf m p + 1074).toNat * 4503599627370496 + rne (m * 2 ^ (p - lastOf m p).toNat) (2 ^ (lastOf m p - p).toNat)) 9218868437227405312) := by
  unfold Format.nearest
  rw [if_neg hm]
  have hl : (double.leastPlace) = -1074 := by decide
  have hf : (double.fractionBits : Int) = 52 := by decide
  have hb : double.binade = 4503599627370496 := by decide
  have hi : double.infRung = 9218868437227405312 := by decide
  simp only [hl, hf, hb, hi, cut_eq, Nat.shiftLeft_eq]
  unfold lastOf
  rw [show (max (p + (m.log2 : Int) - 52) (-1074) - -1074) = (max (p + (m.log2 : Int) - 52) (-1074) + 1074) by omega]

theorem nearest_zero (s : Bool) (p : Int) : double.nearest s 0 p = double.word s 0 := by
  unfold Format.nearest; rw [if_pos rfl]

theorem lastOf_shift (m k : Nat) (p : Int) (hm : m ≠ 0) : lastOf (m * 2 ^ k) (p - k) = lastOf m p := by
  unfold lastOf; rw [log2_shift m k hm]; congr 1; omega

theorem nearest_shift (s : Bool) (m k : Nat) (p : Int) (hm : m ≠ 0) : double.nearest s (m * 2 ^ k) (p - k) = double.nearest s m p := by
  have hp : 0 < 2 ^ k := Nat.two_pow_pos k
  rw [nearest_eq s _ _ (Nat.mul_ne_zero hm (by omega)), nearest_eq s m p hm, lastOf_shift m k p hm]
  congr 3
  generalize lastOf m p = L
  by_cases h1 : L ≤ p - k
  · rw [show (L - (p - k)).toNat = 0 by omega, show (L - p).toNat = 0 by omega, Nat.pow_zero, rne_one, rne_one, Nat.mul_assoc, ← Nat.pow_add]
    congr 2; omega
  · by_cases h2 : L ≤ p
    · obtain ⟨j, hj⟩ : ∃ j : Nat, L - (p - k) = j := ⟨(L - (p - k)).toNat, by omega⟩
      rw [show (p - k - L).toNat = 0 by omega, hj, show (L - p).toNat = 0 by omega, Int.toNat_natCast, Nat.pow_zero, Nat.mul_one, rne_one]
      have hk : k = (p - L).toNat + j := by omega
      rw [hk, Nat.pow_add, ← Nat.mul_assoc]
      have := rne_mul (m * 2 ^ (p - L).toNat) 1 (2 ^ j) (Nat.two_pow_pos j)
      rw [Nat.one_mul, rne_one] at this
      rw [this]
    · rw [show (p - k - L).toNat = 0 by omega, show (p - L).toNat = 0 by omega, Nat.pow_zero, Nat.mul_one, Nat.mul_one,
        show (L - (p - k)).toNat = (L - p).toNat + k by omega, Nat.pow_add]
      exact rne_mul m _ _ hp

/-! ### What a word stands for -/
/-- The whole number of units, and their place, of a finite word's lower bits. -/
def mg (r : Nat) : Nat := if r < 4503599627370496 then r else 4503599627370496 + r % 4503599627370496
def pl (r : Nat) : Int := if r < 4503599627370496 then -1074 else -1074 + ((r / 4503599627370496 - 1 : Nat) : Int)

def sg (n : Nat) : Bool := decide (9223372036854775808 ≤ n)
def rg (n : Nat) : Nat := n % 9223372036854775808

theorem word_sg_rg (n : Nat) (h : n < 18446744073709551616) : double.word (sg n) (rg n) = n := by
  have hw : double.signWeight = 9223372036854775808 := by decide
  unfold Format.word sg rg
  rw [hw]
  by_cases h1 : 9223372036854775808 ≤ n
  · simp only [h1, decide_true, if_true]; omega
  · simp only [h1, decide_false, Bool.false_eq_true, if_false]; omega

theorem neg_bit (n : Nat) (h : n < 18446744073709551616) : (n / 9223372036854775808 % 2 == 1) = sg n := by
  unfold sg
  by_cases h1 : 9223372036854775808 ≤ n
  · have : n / 9223372036854775808 = 1 := by omega
    rw [this]; simp [h1]
  · have : n / 9223372036854775808 = 0 := by omega
    rw [this]; simp [h1]

theorem read_eq (n : Nat) (h : n < 18446744073709551616) :
    double.read n = if rg n < 9218868437227405312 then .number (sg n) (mg (rg n)) (pl (rg n)) else if rg n = 9218868437227405312 then .infinity (sg n) else .nan (sg n) (rg n - 9218868437227405312) := by
  unfold Format.read
  have hl : (double.leastPlace) = -1074 := by decide
  have hb : double.binade = 4503599627370496 := by decide
  have hi : double.infRung = 9218868437227405312 := by decide
  have hw : double.signWeight = 9223372036854775808 := by decide
  simp only [hl, hb, hi, hw, neg_bit n h]
  have hr : n % 9223372036854775808 = rg n := rfl
  rw [hr]
  generalize rg n = r
  unfold mg pl
  by_cases h1 : r < 4503599627370496
  · rw [if_pos h1, if_pos (by omega), if_pos h1, if_pos h1]
  · rw [if_neg h1]
    by_cases h2 : r < 9218868437227405312
    · rw [if_pos h2, if_pos h2, if_neg h1, if_neg h1]
    · rw [if_neg h2, if_neg h2]

theorem log2_52 (m : Nat) (h : 4503599627370496 ≤ m) (h' : m < 9007199254740992) : m.log2 = 52 :=
  (Nat.log2_eq_iff (by omega)).2 ⟨by omega, by omega⟩

theorem log2_le (m : Nat) (h : m ≠ 0) (h' : m < 9007199254740992) : m.log2 ≤ 52 := by
  have := (Nat.log2_lt h (k := 53)).2 (by omega)
  omega

theorem mg_lt (r : Nat) : mg r < 9007199254740992 := by unfold mg; split <;> omega

def halfN (r : Nat) : Nat :=
  if r = 9218868437227405312 then r else if 1 < r / 4503599627370496 then r - 4503599627370496 else r / 2 + (if r % 2 = 1 ∧ r / 2 % 2 = 1 then 1 else 0)

theorem rne_two (r : Nat) : rne r 2 = r / 2 + (if r % 2 = 1 ∧ r / 2 % 2 = 1 then 1 else 0) := by
  unfold rne
  by_cases h : r % 2 = 1 ∧ r / 2 % 2 = 1
  · rw [if_pos h, if_pos (Or.inr ⟨by omega, h.2⟩)]
  · rw [if_neg h, if_neg (by rintro (a | a); omega; exact h ⟨by omega, a.2⟩)]

theorem half_near (s : Bool) (r : Nat) (h : r < 9218868437227405312) : (if mg r = 0 then double.word s 0 else double.nearest s (mg r) (pl r - 1)) = double.word s (halfN r) := by
  unfold halfN
  rw [if_neg (show ¬ r = 9218868437227405312 by omega)]
  by_cases h0 : r = 0
  · subst h0; rw [if_pos (show mg 0 = 0 from rfl)]; congr 1
  · by_cases h1 : r < 9007199254740992
    · have hm : mg r = r := by unfold mg; split <;> omega
      have hp : pl r = -1074 := by unfold pl; split <;> omega
      rw [hm, hp, if_neg h0, nearest_eq s r _ h0, if_neg (show ¬ 1 < r / 4503599627370496 by omega)]
      have hl := log2_le r h0 h1
      have hL : lastOf r (-1074 - 1) = -1074 := by unfold lastOf; omega
      rw [hL, show ((-1074 : Int) + 1074).toNat = 0 from rfl, show ((-1074 : Int) - 1 - -1074).toNat = 0 from rfl, show ((-1074 : Int) - (-1074 - 1)).toNat = 1 from rfl, Nat.pow_zero, Nat.mul_one, Nat.pow_one, rne_two]
      congr 1
      have : (if r % 2 = 1 ∧ r / 2 % 2 = 1 then 1 else 0) ≤ 1 := by split <;> omega
      omega
    · have hm : mg r = 4503599627370496 + r % 4503599627370496 := by unfold mg; rw [if_neg (by omega)]
      have hp : pl r = -1074 + ((r / 4503599627370496 - 1 : Nat) : Int) := by unfold pl; rw [if_neg (by omega)]
      rw [if_neg (show ¬ mg r = 0 by omega), nearest_eq s _ _ (by omega), if_pos (show 1 < r / 4503599627370496 by omega)]
      have hl := log2_52 (mg r) (by omega) (mg_lt r)
      have hL : lastOf (mg r) (pl r - 1) = pl r - 1 := by unfold lastOf; omega
      rw [hL, show (pl r - 1 - (pl r - 1)).toNat = 0 by omega, Nat.pow_zero, Nat.mul_one, rne_one, hm, hp]
      refine congrArg (double.word s) ?_
      omega

theorem two_read : double.read 4611686018427387904 = .number false 4503599627370496 (-51) := by decide

theorem div_two (n : Nat) (hn : n < 18446744073709551616) :
    double.div n 4611686018427387904 = if 9218868437227405312 < rg n then none else some (double.word (sg n) (halfN (rg n))) := by
  unfold Format.div
  rw [read_eq n hn, two_read]
  by_cases h1 : rg n < 9218868437227405312
  · rw [if_pos h1, if_neg (by omega)]
    unfold Datum.quotient
    simp only []
    rw [if_neg (by decide)]
    have hlog : (4503599627370496 : Nat).log2 = 52 := log2_52 _ (by omega) (by omega)
    have hf : double.fractionBits = 52 := by decide
    rw [hlog, hf, ← half_near (sg n) (rg n) h1]
    generalize rg n = r at *
    have hmlt := mg_lt r
    by_cases h0 : mg r = 0
    · rw [h0]
      simp [Format.write, nearest_zero]
    · rw [if_neg h0]
      have hl := log2_le (mg r) h0 hmlt
      simp only [Option.map_some, Format.write, Option.some.injEq, Nat.shiftLeft_eq]
      obtain ⟨k, hk⟩ : ∃ k, 52 + 2 + 52 - (mg r).log2 = k + 52 := ⟨54 - (mg r).log2, by omega⟩
      have hk2 : 2 ≤ k := by omega
      rw [hk]
      have e1 : mg r * 2 ^ (k + 52) = mg r * 2 ^ k * 4503599627370496 := by rw [Nat.pow_add, ← Nat.mul_assoc]
      rw [e1, Nat.mul_div_cancel _ (by omega), Nat.mul_mod_left]
      rw [show 2 * (mg r * 2 ^ k) + (0 != 0).toNat = mg r * 2 ^ (k + 1) by rw [Nat.pow_succ, Nat.mul_comm 2, Nat.mul_assoc]; simp]
      rw [show pl r - -51 - ((k + 52 : Nat) : Int) - 1 = (pl r - 1) - ((k + 1 : Nat) : Int) by omega]
      rw [nearest_shift _ _ _ _ h0]
      simp
  · rw [if_neg h1]
    by_cases h2 : rg n = 9218868437227405312
    · rw [if_pos h2, if_neg (by omega), h2]
      simp [Datum.quotient, Format.write, halfN]
      rfl
    · rw [if_neg h2, if_pos (by omega)]
      rfl

def twiceN (r : Nat) : Nat :=
  if r = 9218868437227405312 then r else if r < 4503599627370496 then 2 * r else min (r + 4503599627370496) 9218868437227405312

theorem twice_near (s : Bool) (r : Nat) (h : r < 9218868437227405312) : (if mg r = 0 then double.word s 0 else double.nearest s (mg r) (pl r + 1)) = double.word s (twiceN r) := by
  unfold twiceN
  rw [if_neg (show ¬ r = 9218868437227405312 by omega)]
  by_cases h0 : r = 0
  · subst h0; rw [if_pos (show mg 0 = 0 from rfl)]; congr 1
  · by_cases h1 : r < 4503599627370496
    · have hm : mg r = r := by unfold mg; split <;> omega
      have hp : pl r = -1074 := by unfold pl; split <;> omega
      rw [hm, hp, if_neg h0, nearest_eq s r _ h0, if_pos h1]
      have hl : r.log2 ≤ 51 := by
        have := (Nat.log2_lt h0 (k := 52)).2 (by omega)
        omega
      have hL : lastOf r (-1074 + 1) = -1074 := by unfold lastOf; omega
      rw [hL, show ((-1074 : Int) + 1074).toNat = 0 from rfl, show ((-1074 : Int) + 1 - -1074).toNat = 1 from rfl, show ((-1074 : Int) - (-1074 + 1)).toNat = 0 from rfl, Nat.pow_zero, Nat.pow_one, rne_one]
      refine congrArg (double.word s) ?_
      omega
    · have hm : mg r = 4503599627370496 + r % 4503599627370496 := by unfold mg; rw [if_neg (by omega)]
      have hp : pl r = -1074 + ((r / 4503599627370496 - 1 : Nat) : Int) := by unfold pl; rw [if_neg (by omega)]
      rw [if_neg (show ¬ mg r = 0 by omega), nearest_eq s _ _ (by omega), if_neg h1]
      have hl := log2_52 (mg r) (by omega) (mg_lt r)
      have hL : lastOf (mg r) (pl r + 1) = pl r + 1 := by unfold lastOf; omega
      rw [hL, show (pl r + 1 - (pl r + 1)).toNat = 0 by omega, Nat.pow_zero, Nat.mul_one, rne_one, hm, hp]
      refine congrArg (double.word s) ?_
      omega

theorem mul_two (n : Nat) (hn : n < 18446744073709551616) :
    double.mul n 4611686018427387904 = if 9218868437227405312 < rg n then none else some (double.word (sg n) (twiceN (rg n))) := by
  unfold Format.mul
  rw [read_eq n hn, two_read]
  by_cases h1 : rg n < 9218868437227405312
  · rw [if_pos h1, if_neg (by omega)]
    unfold Datum.product
    simp only [Option.map_some, Format.write, Bool.xor_false]
    rw [← twice_near (sg n) (rg n) h1]
    generalize rg n = r at *
    by_cases h0 : mg r = 0
    · rw [h0]
      simp [nearest_zero]
    · rw [if_neg h0]
      have := nearest_shift (sg n) (mg r) 52 (pl r + 1) h0
      rw [show pl r + 1 - ((52 : Nat) : Int) = pl r + -51 by omega] at this
      rw [← this]
  · rw [if_neg h1]
    by_cases h2 : rg n = 9218868437227405312
    · rw [if_pos h2, if_neg (by omega), h2]
      simp [Datum.product, Format.write, twiceN]
      rfl
    · rw [if_neg h2, if_pos (by omega)]
      rfl

/-! ### The order -/
/-- The magnitude in units of the least place. -/
def unitsN (r : Nat) : Nat := mg r * 2 ^ (pl r + 1074).toNat
theorem pl_ge (r : Nat) : -1074 ≤ pl r := by unfold pl; split <;> omega

theorem units_succ (r : Nat) : unitsN r < unitsN (r + 1) := by
  unfold unitsN
  by_cases h : r + 1 < 4503599627370496
  · have h1 : mg r = r := by unfold mg; rw [if_pos (by omega)]
    have h2 : mg (r + 1) = r + 1 := by unfold mg; rw [if_pos h]
    have h3 : pl r = -1074 := by unfold pl; rw [if_pos (by omega)]
    have h4 : pl (r + 1) = -1074 := by unfold pl; rw [if_pos h]
    rw [h1, h2, h3, h4]; simp
  · by_cases hb : r < 4503599627370496
    · obtain rfl : r = 4503599627370495 := by omega
      decide
    · have h1 : mg r = 4503599627370496 + r % 4503599627370496 := by unfold mg; rw [if_neg hb]
      have h2 : mg (r + 1) = 4503599627370496 + (r + 1) % 4503599627370496 := by unfold mg; rw [if_neg h]
      have h3 : pl r = -1074 + ((r / 4503599627370496 - 1 : Nat) : Int) := by unfold pl; rw [if_neg hb]
      have h4 : pl (r + 1) = -1074 + (((r + 1) / 4503599627370496 - 1 : Nat) : Int) := by unfold pl; rw [if_neg h]
      rw [h1, h2, h3, h4, show (-1074 + ((r / 4503599627370496 - 1 : Nat) : Int) + 1074).toNat = r / 4503599627370496 - 1 by omega,
        show (-1074 + (((r + 1) / 4503599627370496 - 1 : Nat) : Int) + 1074).toNat = (r + 1) / 4503599627370496 - 1 by omega]
      by_cases hc : (r + 1) % 4503599627370496 = 0
      · have e1 : (r + 1) / 4503599627370496 - 1 = (r / 4503599627370496 - 1) + 1 := by omega
        rw [e1, hc, Nat.pow_succ]
        have hp : 0 < 2 ^ (r / 4503599627370496 - 1) := Nat.two_pow_pos _
        have e2 : r % 4503599627370496 = 4503599627370495 := by omega
        rw [e2]
        omega
      · have e1 : (r + 1) / 4503599627370496 - 1 = r / 4503599627370496 - 1 := by omega
        rw [e1]
        have hp : 0 < 2 ^ (r / 4503599627370496 - 1) := Nat.two_pow_pos _
        exact Nat.mul_lt_mul_of_pos_right (by omega) hp

theorem units_mono {a b : Nat} (h : a < b) : unitsN a < unitsN b := by
  induction b with
  | zero => omega
  | succ b ih =>
    by_cases e : a = b
    · subst e; exact units_succ a
    · exact Nat.lt_trans (ih (by omega)) (units_succ b)

def placeN (n : Nat) : Int := if sg n then -(rg n : Int) else rg n

theorem compare_int {a b c d : Int} (h1 : a < b ↔ c < d) (h2 : a = b ↔ c = d) : compare a b = compare c d := by
  show compareOfLessAndEq a b = compareOfLessAndEq c d
  unfold compareOfLessAndEq
  simp only [h1, h2]

def signedU (s : Bool) (u : Nat) : Int := if s then -(u : Int) else u

theorem units_lt {a b : Nat} : unitsN a < unitsN b ↔ a < b :=
  ⟨fun h => by
    rcases Nat.lt_trichotomy a b with h1 | h1 | h1
    · exact h1
    · subst h1; omega
    · have := units_mono h1; omega, units_mono⟩
theorem units_eq {a b : Nat} : unitsN a = unitsN b ↔ a = b :=
  ⟨fun h => by
    rcases Nat.lt_trichotomy a b with h1 | h1 | h1
    · have := units_mono h1; omega
    · exact h1
    · have := units_mono h1; omega, fun h => by rw [h]⟩
theorem units_zero : unitsN 0 = 0 := by unfold unitsN; rw [show mg 0 = 0 from rfl, Nat.zero_mul]

theorem signed_lt (s t : Bool) (x y : Nat) : signedU s (unitsN x) < signedU t (unitsN y) ↔ signedU s x < signedU t y := by
  have h1 := @units_lt x y
  have h2 := @units_lt y x
  have h3 := @units_lt 0 x
  have h4 := @units_lt 0 y
  rw [units_zero] at h3 h4
  unfold signedU
  generalize unitsN x = a at *
  generalize unitsN y = b at *
  cases s <;> cases t <;> simp only [Bool.false_eq_true, if_false, if_true] <;> omega
theorem signed_eq (s t : Bool) (x y : Nat) : signedU s (unitsN x) = signedU t (unitsN y) ↔ signedU s x = signedU t y := by
  have h1 := @units_lt x y
  have h2 := @units_lt y x
  have h3 := @units_lt 0 x
  have h4 := @units_lt 0 y
  rw [units_zero] at h3 h4
  unfold signedU
  generalize unitsN x = a at *
  generalize unitsN y = b at *
  cases s <;> cases t <;> simp only [Bool.false_eq_true, if_false, if_true] <;> omega

theorem signed_scale (s : Bool) (r : Nat) (base : Int) (h : base ≤ pl r) (hb : -1074 ≤ base) :
    signed s (mg r) (pl r - base).toNat * ((2 ^ (base + 1074).toNat : Nat) : Int) = signedU s (unitsN r) := by
  unfold signed signedU unitsN
  have e : (pl r + 1074).toNat = (pl r - base).toNat + (base + 1074).toNat := by omega
  rw [e, Nat.pow_add, Nat.shiftLeft_eq, ← Nat.mul_assoc]
  cases s
  · simp only [Bool.false_eq_true, if_false]; rw [← Int.natCast_mul]
  · simp only [if_true]; rw [Int.neg_mul, ← Int.natCast_mul]

theorem order_eq (a b : Nat) (ha : a < 18446744073709551616) (hb : b < 18446744073709551616) :
    double.order a b = if 9218868437227405312 < rg a ∨ 9218868437227405312 < rg b then none else some (compare (placeN a) (placeN b)) := by
  unfold Format.order
  rw [read_eq a ha, read_eq b hb]
  have hra : rg a < 9223372036854775808 := Nat.mod_lt _ (by omega)
  have hrb : rg b < 9223372036854775808 := Nat.mod_lt _ (by omega)
  unfold placeN
  generalize sg a = s
  generalize sg b = t
  generalize rg a = x at *
  generalize rg b = y at *
  by_cases hxn : 9218868437227405312 < x
  · rw [if_pos (Or.inl hxn), if_neg (by omega), if_neg (by omega)]; rfl
  by_cases hyn : 9218868437227405312 < y
  · rw [if_pos (Or.inr hyn)]
    rw [if_neg (show ¬ y < 9218868437227405312 by omega), if_neg (show ¬ y = 9218868437227405312 by omega)]
    split
    · rfl
    · split <;> rfl
  rw [if_neg (show ¬ (9218868437227405312 < x ∨ 9218868437227405312 < y) by omega)]
  by_cases hx : x < 9218868437227405312
  · rw [if_pos hx]
    by_cases hy : y < 9218868437227405312
    · rw [if_pos hy]
      unfold Datum.order
      simp only []
      congr 1
      have hbase : -1074 ≤ min (pl x) (pl y) := by have := pl_ge x; have := pl_ge y; omega
      have e1 := signed_scale s x (min (pl x) (pl y)) (by omega) hbase
      have e2 := signed_scale t y (min (pl x) (pl y)) (by omega) hbase
      have hc : (0 : Int) < ((2 ^ (min (pl x) (pl y) + 1074).toNat : Nat) : Int) := by
        have := Nat.two_pow_pos (min (pl x) (pl y) + 1074).toNat; omega
      generalize ((2 ^ (min (pl x) (pl y) + 1074).toNat : Nat) : Int) = c at e1 e2 hc
      refine compare_int ?_ ?_
      · rw [← Int.mul_lt_mul_right hc, e1, e2]; exact signed_lt s t x y
      · rw [← Int.mul_eq_mul_right_iff (show c ≠ 0 by omega), e1, e2]; exact signed_eq s t x y
    · rw [if_neg hy, if_pos (by omega)]
      obtain rfl : y = 9218868437227405312 := by omega
      unfold Datum.order
      simp only []
      congr 1
      cases t
      · simp only [Bool.false_eq_true, if_false]
        symm
        rw [Int.compare_eq_lt]
        split <;> omega
      · simp only [if_true]
        symm
        rw [Int.compare_eq_gt]
        split <;> omega
  · rw [if_neg hx, if_pos (by omega)]
    obtain rfl : x = 9218868437227405312 := by omega
    by_cases hy : y < 9218868437227405312
    · rw [if_pos hy]
      unfold Datum.order
      simp only []
      congr 1
      cases s
      · simp only [Bool.false_eq_true, if_false]
        symm
        rw [Int.compare_eq_gt]
        split <;> omega
      · simp only [if_true]
        symm
        rw [Int.compare_eq_lt]
        split <;> omega
    · rw [if_neg hy, if_pos (by omega)]
      obtain rfl : y = 9218868437227405312 := by omega
      cases s <;> cases t <;> decide

/-! ### The whole part -/
theorem cut_zero (s : Bool) (n drop : Nat) : Toward.zero.cut s n drop = n / 2 ^ drop := by
  have hn := lt_two_pow_log2 n
  unfold Toward.cut
  simp only [Nat.one_shiftLeft, Bool.toNat_false, Nat.add_zero]
  by_cases h : drop ≤ n.log2 + 2
  · rw [Nat.min_eq_left h]
  · have h' : n.log2 + 2 ≤ drop := by omega
    rw [Nat.min_eq_right h']
    have hp : 2 ^ (n.log2 + 2) = 2 * 2 ^ (n.log2 + 1) := by rw [show n.log2 + 2 = (n.log2 + 1) + 1 from rfl, Nat.pow_succ]; omega
    have hq : 2 ^ (n.log2 + 2) ≤ 2 ^ drop := Nat.pow_le_pow_right (by omega) h'
    rw [Nat.div_eq_of_lt (by omega), Nat.div_eq_of_lt (by omega)]

/-- The whole part of a word's magnitude, below 2^53. -/
def intN (r : Nat) : Nat := mg r / 2 ^ (-pl r).toNat
theorem pl_le (r : Nat) (h : r < 4845873199050653696) : pl r ≤ 0 := by unfold pl; split <;> omega
theorem intN_lt (r : Nat) : intN r < 9007199254740992 := Nat.lt_of_le_of_lt (Nat.div_le_self _ _) (mg_lt r)

theorem integral_eq (s : Bool) (r : Nat) (h : r < 4845873199050653696) : (Datum.number s (mg r) (pl r)).integral .zero = .number s (intN r) 0 := by
  have := pl_le r h
  unfold Datum.integral intN
  simp only []
  rw [cut_zero, Nat.shiftLeft_eq, show (pl r).toNat = 0 by omega, Nat.pow_zero, Nat.mul_one]

/-- The word of a whole number up to 2^53. -/
def ofN (a : Nat) : Nat := if a = 0 then 0 else (a.log2 + 1022) * 4503599627370496 + a * 4503599627370496 / 2 ^ a.log2

theorem of_near (s : Bool) (a : Nat) (h : a ≤ 9007199254740992) : double.nearest s a 0 = double.word s (ofN a) := by
  unfold ofN
  by_cases h0 : a = 0
  · subst h0; rw [nearest_zero, if_pos rfl]
  · rw [if_neg h0, nearest_eq s a 0 h0]
    by_cases hb : a = 9007199254740992
    · subst hb
      have hl : (9007199254740992 : Nat).log2 = 53 := (Nat.log2_eq_iff (by omega)).2 ⟨by decide, by decide⟩
      have hL : lastOf 9007199254740992 0 = 1 := by unfold lastOf; rw [hl]; rfl
      have e1 : ((0 : Int) - 1).toNat = 0 := rfl
      have e2 : ((1 : Int) - 0).toNat = 1 := rfl
      have e3 : ((1 : Int) + 1074).toNat = 1075 := rfl
      have e4 : 9007199254740992 * 4503599627370496 / 2 ^ 53 = 4503599627370496 := Nat.mul_div_cancel_left _ (by omega)
      rw [hL, hl, e1, e2, e3, e4, Nat.pow_zero, Nat.pow_one, rne_two]
      refine congrArg (double.word s) ?_
      rw [if_neg (by omega)]; omega
    · have hl := log2_le a h0 (by omega)
      have hL : lastOf a 0 = (a.log2 : Int) - 52 := by unfold lastOf; omega
      have e1 : (0 - ((a.log2 : Int) - 52)).toNat = 52 - a.log2 := by omega
      have e2 : ((a.log2 : Int) - 52 - 0).toNat = 0 := by omega
      have e3 : ((a.log2 : Int) - 52 + 1074).toNat = a.log2 + 1022 := by omega
      rw [hL, e1, e2, e3, Nat.pow_zero, rne_one]
      have e4 : a * 4503599627370496 / 2 ^ a.log2 = a * 2 ^ (52 - a.log2) := by
        have : (4503599627370496 : Nat) = 2 ^ (52 - a.log2) * 2 ^ a.log2 := by rw [← Nat.pow_add, show 52 - a.log2 + a.log2 = 52 by omega]
        rw [this, ← Nat.mul_assoc, Nat.mul_div_cancel _ (Nat.two_pow_pos _)]
      rw [e4]
      refine congrArg (double.word s) ?_
      have h1 : a < 2 ^ (a.log2 + 1) := lt_two_pow_log2 a
      have h2 : a * 2 ^ (52 - a.log2) < 2 ^ (a.log2 + 1) * 2 ^ (52 - a.log2) := Nat.mul_lt_mul_of_pos_right h1 (Nat.two_pow_pos _)
      rw [← Nat.pow_add, show a.log2 + 1 + (52 - a.log2) = 53 by omega] at h2
      clear e1 e2 e3 e4 hL h1
      generalize a * 2 ^ (52 - a.log2) = c at *
      generalize a.log2 = L at *
      rw [Nat.min_eq_left (by omega)]

theorem ofN_parts (a : Nat) (h0 : a ≠ 0) (h : a < 9007199254740992) : mg (ofN a) = a * 2 ^ (52 - a.log2) ∧ pl (ofN a) = (a.log2 : Int) - 52 ∧ ofN a < 4845873199050653696 := by
  have hl := log2_le a h0 h
  have e4 : a * 4503599627370496 / 2 ^ a.log2 = a * 2 ^ (52 - a.log2) := by
    have : (4503599627370496 : Nat) = 2 ^ (52 - a.log2) * 2 ^ a.log2 := by rw [← Nat.pow_add, show 52 - a.log2 + a.log2 = 52 by omega]
    rw [this, ← Nat.mul_assoc, Nat.mul_div_cancel _ (Nat.two_pow_pos _)]
  have h1 : a < 2 ^ (a.log2 + 1) := lt_two_pow_log2 a
  have h2 : a * 2 ^ (52 - a.log2) < 2 ^ (a.log2 + 1) * 2 ^ (52 - a.log2) := Nat.mul_lt_mul_of_pos_right h1 (Nat.two_pow_pos _)
  rw [← Nat.pow_add, show a.log2 + 1 + (52 - a.log2) = 53 by omega] at h2
  have h5 : 2 ^ a.log2 ≤ a := (Nat.le_log2 h0).1 (Nat.le_refl _)
  have h6 : 2 ^ a.log2 * 2 ^ (52 - a.log2) ≤ a * 2 ^ (52 - a.log2) := Nat.mul_le_mul_right _ h5
  rw [← Nat.pow_add, show a.log2 + (52 - a.log2) = 52 by omega] at h6
  have hx : ofN a = (a.log2 + 1022) * 4503599627370496 + a * 2 ^ (52 - a.log2) := by unfold ofN; rw [if_neg h0, e4]
  generalize a * 2 ^ (52 - a.log2) = c at *
  generalize a.log2 = L at *
  have hge : ¬ ofN a < 4503599627370496 := by omega
  have hdiv : ofN a / 4503599627370496 = L + 1023 := by omega
  have hmod : ofN a % 4503599627370496 = c - 4503599627370496 := by omega
  refine ⟨?_, ?_, by omega⟩
  · unfold mg; rw [if_neg hge, hmod]; omega
  · unfold pl; rw [if_neg hge, hdiv]; omega

theorem intN_ofN (a : Nat) (h : a < 9007199254740992) : intN (ofN a) = a := by
  by_cases h0 : a = 0
  · subst h0
    have : ofN 0 = 0 := rfl
    rw [this]; unfold intN; rw [show mg 0 = 0 from rfl, Nat.zero_div]
  · obtain ⟨h1, h2, _⟩ := ofN_parts a h0 h
    have hl := log2_le a h0 h
    unfold intN
    rw [h1, h2, show (-((a.log2 : Int) - 52)).toNat = 52 - a.log2 by omega, Nat.mul_div_cancel _ (Nat.two_pow_pos _)]

theorem ofN_lt (a : Nat) (h : a < 9007199254740992) : ofN a < 4845873199050653696 := by
  by_cases h0 : a = 0
  · subst h0; decide
  · exact (ofN_parts a h0 h).2.2

theorem sg_word (s : Bool) (r : Nat) (h : r < 9223372036854775808) : sg (double.word s r) = s ∧ rg (double.word s r) = r ∧ double.word s r < 18446744073709551616 := by
  have hw : double.signWeight = 9223372036854775808 := by decide
  unfold sg rg Format.word
  rw [hw]
  cases s
  · simp only [Bool.false_eq_true, if_false]
    refine ⟨by simp; omega, by omega, by omega⟩
  · simp only [if_true]
    refine ⟨by simp, by omega, by omega⟩

/-- What the word of a whole part comes to as a whole number. -/
theorem toInt_word (s : Bool) (a : Nat) (h : a < 9007199254740992) : (double.read (double.word s (ofN a))).toInt .zero = some (signedU s a) := by
  have h1 := ofN_lt a h
  obtain ⟨e1, e2, e3⟩ := sg_word s (ofN a) (by omega)
  rw [read_eq _ e3, e1, e2, if_pos (by omega)]
  unfold Datum.toInt
  rw [integral_eq s _ h1, intN_ofN a h]
  simp only []
  unfold signed signedU
  rw [Nat.shiftLeft_zero]

end Go.Proofs.YtlphgnfjemaliaaDoor.Flt

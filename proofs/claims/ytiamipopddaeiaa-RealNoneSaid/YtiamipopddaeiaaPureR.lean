/-
  Plain lemmas on the printed functions of the reference of package real, and the laws of chapter 2 in whole
  numbers. No program in sight. Conditions: 64-bit numbers.
-/
import Derived.Test.YtiamipopddaeiaaPr
namespace Go.Proofs.Ytiamipopddaeiaa.PureR
open Go.RowKit Go.Proofs.Ytiamipopddaeiaa.Pr Go.Proofs.YtiamipopddaeiaaW.PrintWords Go.Proofs.YtiamipopddaeiaaW.PrintLast Go.Proofs.YtiamipopddaeiaaW.PrintMore
open Go.Proofs.Ytiamipopddaeiaa.Flt Go.Proofs.Ytiamipopddaeiaa.RealW Go.Proofs.Ytiamipopddaeiaa.RealG

abbrev In64 (x : Int) : Prop := -9223372036854775808 ≤ x ∧ x ≤ 9223372036854775807
theorem w64 {x : Int} (h0 : -9223372036854775808 ≤ x) (h1 : x ≤ 9223372036854775807) : wrap64 x = x := by unfold wrap64; omega
theorem wf64 {x : Int} (h : (Lit.int .i64 x).wf = true) : In64 x := by
  have := h
  simp [Lit.wf, IntKind.min, IntKind.max, IntKind.bits, IntKind.signed] at this
  unfold In64
  omega

theorem restX_lt (x : Int) (h : In64 x) : restX x < 9223372036854775808 := by unfold restX; unfold In64 at h; split <;> omega
theorem restX_neg {x : Int} (h : In64 x) (hn : x < 0) : (restX x : Int) = x + 9223372036854775808 := by unfold restX; unfold In64 at h; rw [if_pos hn]; omega
theorem restX_pos {x : Int} (hn : ¬ x < 0) : (restX x : Int) = x := by unfold restX; rw [if_neg hn]; omega
theorem withX_rest {x : Int} (h : In64 x) : withX (decide (x < 0)) (restX x) = x := by
  unfold withX
  by_cases hn : x < 0
  · have := restX_neg h hn; simp [hn]; omega
  · have := restX_pos hn; simp [hn]; omega
theorem withX_in {s : Bool} {r : Nat} (h : r < 9223372036854775808) : In64 (withX s r) := by unfold withX In64; split <;> omega
theorem rest_with {s : Bool} {r : Nat} (h : r < 9223372036854775808) : restX (withX s r) = r ∧ decide (withX s r < 0) = s := by
  unfold restX withX
  cases s
  · simp only [Bool.false_eq_true, if_false]; rw [if_neg (by omega)]; exact ⟨by omega, decide_eq_false (by omega)⟩
  · simp only [if_true]; rw [if_pos (by omega)]; exact ⟨by omega, decide_eq_true (by omega)⟩

/-- Where a number is among all. -/
def plX (s : Bool) (r : Nat) : Int := if s then -(r : Int) else r
theorem U_place {x : Int} (h : In64 x) : placeN (U x) = plX (decide (x < 0)) (restX x) := by
  unfold placeN plX; rw [(U_parts x h).1, (U_parts x h).2]
theorem U_nan {x : Int} (h : In64 x) : nanN (U x) = decide (9218868437227405312 < restX x) := by unfold nanN; rw [(U_parts x h).2]

theorem half_eq {x : Int} (h : In64 x) : halfX x = if 9218868437227405312 < restX x then noneX else withX (decide (x < 0)) (halfN (restX x)) := by
  unfold halfX; rw [U_nan h, (U_parts x h).1, (U_parts x h).2]; simp only [decide_eq_true_eq]
theorem twice_eq {x : Int} (h : In64 x) : twiceX x = if 9218868437227405312 < restX x then noneX else withX (decide (x < 0)) (twiceN (restX x)) := by
  unfold twiceX; rw [U_nan h, (U_parts x h).1, (U_parts x h).2]; simp only [decide_eq_true_eq]
theorem flip_eq' {x : Int} (h : In64 x) : flipX x = if 9218868437227405312 < restX x then noneX else withX (!decide (x < 0)) (restX x) := by
  unfold flipX; rw [U_nan h, (U_parts x h).1, (U_parts x h).2]; simp only [decide_eq_true_eq]
theorem below_eq' {x y : Int} (h : In64 x) (h' : In64 y) : belowX x y = (!decide (9218868437227405312 < restX x) && !decide (9218868437227405312 < restX y) && decide (plX (decide (x < 0)) (restX x) < plX (decide (y < 0)) (restX y))) := by
  unfold belowX; rw [U_nan h, U_nan h', U_place h, U_place h']
theorem whole_eq' {x : Int} (h : In64 x) : wholeX x = if 9218868437227405312 < restX x then 0 else if 4845873199050653696 ≤ plX (decide (x < 0)) (restX x) then 9007199254740992 else if plX (decide (x < 0)) (restX x) ≤ -4845873199050653696 then -9007199254740992
    else signedU (decide (x < 0)) (intN (restX x)) := by
  unfold wholeX; rw [U_nan h, U_place h, (U_parts x h).1, (U_parts x h).2]; simp only [decide_eq_true_eq]

/-! ### The reference -/
theorem rrest {x : Int} (h : In64 x) : quarterdeckref02_rest.f x = some (restX x : Int) := by
  have h' := h
  unfold In64 at h'
  unfold quarterdeckref02_rest.f
  by_cases hn : x < 0
  · rw [if_pos hn, restX_neg h hn, w64 (x := x + 4611686018427387904) (by omega) (by omega), w64 (by omega) (by omega)]
    congr 1; omega
  · rw [if_neg hn, restX_pos hn]
theorem rinf : quarterdeckref02_inf.f = some 9218868437227405312 := rfl
theorem rsign (x : Int) : quarterdeckref02_sign.f x = some (decide (x < 0)) := rfl
theorem rnan {x : Int} (h : In64 x) : quarterdeckref02_nan.f x = some (decide (9218868437227405312 < restX x)) := by
  unfold quarterdeckref02_nan.f
  rw [rrest h, rinf]
  simp only [Option.bind_some, Option.some.injEq]
  rw [Bool.eq_iff_iff]; simp only [decide_eq_true_eq]; omega
theorem rnone : quarterdeckref02_none.f = some noneX := by
  unfold quarterdeckref02_none.f; rw [rinf, Option.bind_some, w64 (by omega) (by omega)]; rfl
theorem rwith (s : Bool) {r : Nat} (h : r < 9223372036854775808) : quarterdeckref02_with.f s r = some (withX s r) := by
  unfold quarterdeckref02_with.f withX
  cases s
  · simp only [Bool.false_eq_true, if_false]
  · simp only [if_true]; rw [w64 (x := (r : Int) - 4611686018427387904) (by omega) (by omega), w64 (by omega) (by omega)]; congr 1; omega
theorem rplace {x : Int} (h : In64 x) : quarterdeckref02_place.f x = some (plX (decide (x < 0)) (restX x)) := by
  have hr := restX_lt x h
  unfold quarterdeckref02_place.f plX
  rw [rsign, Option.bind_some]
  by_cases hn : x < 0
  · simp only [hn, decide_true, if_true]; rw [rrest h, Option.bind_some, w64 (by omega) (by omega)]
  · simp only [hn, decide_false, Bool.false_eq_true, if_false]; rw [restX_pos hn]

theorem rbelow {x y : Int} (h : In64 x) (h' : In64 y) : quarterdeckref02_Below.f x y = some (belowX x y) := by
  unfold quarterdeckref02_Below.f
  rw [rnan h, rnan h', rplace h, rplace h', below_eq' h h']
  simp only [Option.bind_some]
  by_cases h1 : 9218868437227405312 < restX x
  · simp [h1]
  · by_cases h2 : 9218868437227405312 < restX y
    · simp [h2]
    · simp [h1, h2]

theorem rhalf {x : Int} (h : In64 x) : quarterdeckref02_Half.f x = some (halfX x) := by
  have hr := restX_lt x h
  unfold quarterdeckref02_Half.f
  rw [rnan h, half_eq h, rnone, rrest h, rsign, rinf]
  simp only [Option.bind_some, decide_eq_true_eq]
  by_cases h1 : 9218868437227405312 < restX x
  · rw [if_pos h1, if_pos h1]
  · rw [if_neg h1, if_neg h1]
    have hw := withX_rest h
    generalize decide (x < 0) = s at *
    generalize restX x = r at *
    unfold halfN
    by_cases h2 : r = 9218868437227405312
    · rw [if_pos (by omega), if_pos h2, hw]
    · rw [if_neg (by omega), if_neg h2]
      by_cases h3 : 1 < r / 4503599627370496
      · rw [if_pos (by omega), if_pos h3, w64 (by omega) (by omega), show (r : Int) - 4503599627370496 = ((r - 4503599627370496 : Nat) : Int) by omega, rwith s (by omega)]; rfl
      · rw [if_neg (by omega), if_neg h3]
        have e1 : Int.tmod (r : Int) 2 = ((r % 2 : Nat) : Int) := by rw [Int.tmod_eq_emod_of_nonneg (by omega)]; omega
        have e2 : Int.tdiv (r : Int) 2 = ((r / 2 : Nat) : Int) := by rw [Int.tdiv_eq_ediv_of_nonneg (by omega)]; omega
        have e3 : Int.tmod ((r / 2 : Nat) : Int) 2 = ((r / 2 % 2 : Nat) : Int) := by rw [Int.tmod_eq_emod_of_nonneg (by omega)]; omega
        rw [e1, e2, w64 (x := ((r / 2 : Nat) : Int)) (by omega) (by omega), e3]
        by_cases h4 : r % 2 = 1
        · rw [if_pos (by omega)]
          by_cases h5 : r / 2 % 2 = 1
          · rw [if_pos (by omega), if_pos ⟨h4, h5⟩, w64 (by omega) (by omega), show ((r / 2 : Nat) : Int) + 1 = ((r / 2 + 1 : Nat) : Int) by omega, rwith s (by omega)]; rfl
          · rw [if_neg (by omega), if_neg (fun c => h5 c.2), rwith s (by omega)]; rfl
        · rw [if_neg (by omega), if_neg (fun c => h4 c.1), rwith s (by omega)]; rfl

theorem rtwice {x : Int} (h : In64 x) : quarterdeckref02_Twice.f x = some (twiceX x) := by
  have hr := restX_lt x h
  unfold quarterdeckref02_Twice.f
  rw [rnan h, twice_eq h, rnone, rrest h, rsign, rinf]
  simp only [Option.bind_some, decide_eq_true_eq]
  by_cases h1 : 9218868437227405312 < restX x
  · rw [if_pos h1, if_pos h1]
  · rw [if_neg h1, if_neg h1]
    have hw := withX_rest h
    generalize decide (x < 0) = s at *
    generalize restX x = r at *
    unfold twiceN
    by_cases h2 : r = 9218868437227405312
    · rw [if_pos (by omega), if_pos h2, hw]
    · rw [if_neg (by omega), if_neg h2]
      by_cases h3 : r < 4503599627370496
      · rw [if_pos (by omega), if_pos h3, w64 (by omega) (by omega), show 2 * (r : Int) = ((2 * r : Nat) : Int) by omega, rwith s (by omega)]; rfl
      · rw [if_neg (by omega), if_neg h3, w64 (by omega) (by omega)]
        by_cases h4 : r + 4503599627370496 > 9218868437227405312
        · rw [if_pos (by omega), show (9218868437227405312 : Int) = ((9218868437227405312 : Nat) : Int) from rfl, rwith s (by omega), Nat.min_eq_right (by omega)]; rfl
        · rw [if_neg (by omega), show (r : Int) + 4503599627370496 = ((r + 4503599627370496 : Nat) : Int) by omega, rwith s (by omega), Nat.min_eq_left (by omega)]; rfl

theorem rflip {x : Int} (h : In64 x) : quarterdeckref02_Flip.f x = some (flipX x) := by
  have hr := restX_lt x h
  unfold quarterdeckref02_Flip.f
  rw [rnan h, flip_eq' h, rnone, rrest h, rsign]
  simp only [Option.bind_some, decide_eq_true_eq]
  by_cases h1 : 9218868437227405312 < restX x
  · rw [if_pos h1, if_pos h1]
  · rw [if_neg h1, if_neg h1, rwith _ hr]; rfl

theorem awake_eq : quarterdecklaw02_awake.f = some true := by
  have e1 : ofX 1 = 4607182418800017408 := by decide +kernel
  have e2 : halfX 4607182418800017408 = 4602678819172646912 := by decide +kernel
  have e3 : twiceX 9218868437227405311 = 9218868437227405312 := by decide +kernel
  have e4 : belowX 0 1 = true := by decide +kernel
  unfold quarterdecklaw02_awake.f real_Of.f real_Half.f real_Twice.f real_Below.f
  simp only [Option.bind_some, e1, e2, e3, e4, if_true]

theorem below_law (x y : Int) (hx : In64 x) (hy : In64 y) : quarterdecklaw02_RealBelow.f x y = some true := by
  unfold quarterdecklaw02_RealBelow.f
  rw [awake_eq, rbelow hx hy, rbelow hy hx]
  unfold real_Below.f
  simp

theorem changes_law (x : Int) (hx : In64 x) : quarterdecklaw02_RealChanges.f x = some true := by
  unfold quarterdecklaw02_RealChanges.f
  rw [awake_eq, rhalf hx, rtwice hx, rflip hx]
  unfold real_Half.f real_Twice.f real_Flip.f
  simp

/-! ### Whole -/
theorem rwhole_j2 (x : Int) (r m : Nat) (hm : m < 9007199254740993) : Ev (fun k => quarterdeckref02_Whole.j2 k x r m) (if r / 4503599627370496 = 0 then 0 else signedU (decide (x < 0)) m) := by
  refine Ev.step (f := fun _ => some (if r / 4503599627370496 = 0 then 0 else signedU (decide (x < 0)) m)) (fun k => ?_) (Ev.now _)
  simp only [quarterdeckref02_Whole.j2, rsign, Option.bind_some, decide_eq_true_eq]
  unfold signedU
  by_cases h : r / 4503599627370496 = 0
  · rw [if_pos (by omega), if_pos h]; split <;> rfl
  · rw [if_neg (by omega), if_neg h]
    by_cases hn : x < 0
    · rw [if_pos hn, w64 (by omega) (by omega)]; simp [hn]
    · rw [if_neg hn]; simp [hn]

theorem rwhole_l0 (x : Int) (r : Nat) (d : Nat) : ∀ m : Nat, d ≤ 1075 → m < 9007199254740993 → Ev (fun k => quarterdeckref02_Whole.l0 k x r (-(d : Int)) m) (if r / 4503599627370496 = 0 then 0 else signedU (decide (x < 0)) (m / 2 ^ d)) := by
  induction d with
  | zero =>
    intro m _ hm
    refine Ev.step (f := fun k => quarterdeckref02_Whole.j2 k x r m) (fun k => ?_) ?_
    · simp only [quarterdeckref02_Whole.l0]; rw [if_neg (by omega)]
    · rw [Nat.pow_zero, Nat.div_one]; exact rwhole_j2 x r m hm
  | succ d ih =>
    intro m hd hm
    by_cases h0 : m = 0
    · subst h0
      refine Ev.step (f := fun k => quarterdeckref02_Whole.j2 k x r ((0 : Nat) : Int)) (fun k => ?_) ?_
      · simp only [quarterdeckref02_Whole.l0]; rw [if_pos (by omega), if_neg (by omega)]
      · rw [Nat.zero_div]; exact rwhole_j2 x r 0 (by omega)
    · refine Ev.step (f := fun k => quarterdeckref02_Whole.l0 k x r (-(d : Int)) ((m / 2 : Nat) : Int)) (fun k => ?_) ?_
      · simp only [quarterdeckref02_Whole.l0]
        have e : Int.tdiv (m : Int) 2 = ((m / 2 : Nat) : Int) := by rw [Int.tdiv_eq_ediv_of_nonneg (by omega)]; omega
        rw [if_pos (by omega), if_pos (by omega), e, w64 (x := ((m / 2 : Nat) : Int)) (by omega) (by omega), w64 (by omega) (by omega)]
        congr 1; omega
      · have := ih (m / 2) (by omega) (by omega)
        rw [Nat.div_div_eq_div_mul, ← Nat.pow_succ'] at this
        exact this

theorem big_le (k : Nat) (h : 52 ≤ k) : 4503599627370496 ≤ 2 ^ k := Nat.le_trans (by decide : 4503599627370496 ≤ 2 ^ 52) (Nat.pow_le_pow_right (by omega) h)

theorem rwhole {x : Int} (h : In64 x) : Ev (fun k => quarterdeckref02_Whole.f k x) (wholeX x) := by
  have hr := restX_lt x h
  unfold quarterdeckref02_Whole.f
  rw [rnan h, whole_eq' h, rrest h]
  simp only [Option.bind_some, decide_eq_true_eq]
  by_cases h1 : 9218868437227405312 < restX x
  · simp only [if_pos h1]; exact Ev.now _
  · simp only [if_neg h1]
    have hl0 := rwhole_l0 x (restX x)
    have hj2 := rwhole_j2 x (restX x)
    generalize decide (x < 0) = s at *
    generalize restX x = r at *
    have e0 : wrap64 ((r : Int) / 4503599627370496 - 1075) = (r : Int) / 4503599627370496 - 1075 := w64 (by omega) (by omega)
    have e1 : Int.tmod (r : Int) 4503599627370496 = ((r % 4503599627370496 : Nat) : Int) := by rw [Int.tmod_eq_emod_of_nonneg (by omega)]; omega
    have e2 : wrap64 (Int.tmod (r : Int) 4503599627370496 + 4503599627370496) = ((4503599627370496 + r % 4503599627370496 : Nat) : Int) := by rw [e1, w64 (by omega) (by omega)]; omega
    simp only [e0, e2]
    by_cases hb : 4845873199050653696 ≤ r
    · simp only [if_pos (show (r : Int) / 4503599627370496 - 1075 > 0 by omega)]
      refine Ev.step (f := fun k => quarterdeckref02_Whole.l0 k x r ((r : Int) / 4503599627370496 - 1075) ((9007199254740992 : Nat) : Int)) (fun k => by simp only [quarterdeckref02_Whole.j0]; rfl) ?_
      refine Ev.step (f := fun k => quarterdeckref02_Whole.j2 k x r ((9007199254740992 : Nat) : Int)) (fun k => ?_) ?_
      · simp only [quarterdeckref02_Whole.l0]; rw [if_neg (by omega)]
      · have hj := hj2 9007199254740992 (by omega)
        rw [if_neg (by omega)] at hj
        unfold plX
        cases s
        · rw [if_pos (by simp; omega)]; exact hj
        · rw [if_neg (by simp; omega), if_pos (by simp; omega)]; exact hj
    · simp only [if_neg (show ¬ (r : Int) / 4503599627370496 - 1075 > 0 by omega)]
      obtain ⟨d, hd⟩ : ∃ d : Nat, (r : Int) / 4503599627370496 - 1075 = -(d : Int) := ⟨(1075 - (r : Int) / 4503599627370496).toNat, by omega⟩
      rw [hd]
      refine Ev.step (f := fun k => quarterdeckref02_Whole.l0 k x r (-(d : Int)) ((4503599627370496 + r % 4503599627370496 : Nat) : Int)) (fun k => by simp only [quarterdeckref02_Whole.j0]) ?_
      have := hl0 d (4503599627370496 + r % 4503599627370496) (by omega) (by omega)
      have hv : (if r / 4503599627370496 = 0 then 0 else signedU s ((4503599627370496 + r % 4503599627370496) / 2 ^ d)) = signedU s (intN r) := by
        unfold intN mg pl
        by_cases hz : r < 4503599627370496
        · rw [if_pos (by omega), if_pos hz, if_pos hz]
          have : r / 2 ^ (-(-1074 : Int)).toNat = 0 := Nat.div_eq_of_lt (Nat.lt_of_lt_of_le hz (big_le _ (by omega)))
          rw [this]; unfold signedU; cases s <;> rfl
        · rw [if_neg (by omega), if_neg hz, if_neg hz]
          congr 3; omega
      rw [hv] at this
      unfold plX
      rw [if_neg (by cases s <;> simp <;> omega), if_neg (by cases s <;> simp <;> omega)]
      exact this

theorem whole_law (n x : Int) (hx : In64 x) : Ev (fun k => quarterdecklaw02_RealWhole.f k n x) true := by
  unfold quarterdecklaw02_RealWhole.f
  rw [awake_eq]
  unfold real_Of.f real_Whole.f quarterdeckref02_Of.f
  simp only [Option.bind_some, if_true]
  refine Ev.bind (rwhole hx) ?_
  simp only [beq_self_eq_true]
  exact Ev.now _

/-! ### The laws without the reference -/
theorem place_ord (s t : Bool) (a b : Nat) : plX s a < plX t b ↔ signedU s (unitsN a) < signedU t (unitsN b) := by
  rw [signed_lt]; unfold plX signedU; rfl

/-- The bits of a whole number between -2^53 and 2^53. -/
theorem ofX_in {n : Int} (h0 : -9007199254740992 ≤ n) (h1 : n ≤ 9007199254740992) : ofX n = withX (decide (n < 0)) (ofN n.natAbs) := by
  have e : mnC (mxC n) = n := by unfold mnC mxC; rw [if_neg (by omega), if_neg (by omega)]
  unfold ofX; rw [e]

theorem units_of : ∃ e : Nat, ∀ a : Nat, a ≤ 9007199254740992 → unitsN (ofN a) = a * 2 ^ e := by
  obtain ⟨e, he⟩ : ∃ e : Nat, (e : Int) = 1074 := ⟨1074, rfl⟩
  refine ⟨e, fun a h => ?_⟩
  by_cases h0 : a = 0
  · subst h0; rw [show ofN 0 = 0 from rfl, units_zero, Nat.zero_mul]
  · by_cases hb : a = 9007199254740992
    · subst hb
      have hl : (9007199254740992 : Nat).log2 = 53 := (Nat.log2_eq_iff (by omega)).2 ⟨by decide, by decide⟩
      have e4 : 9007199254740992 * 4503599627370496 / 2 ^ 53 = 4503599627370496 := Nat.mul_div_cancel_left _ (by omega)
      have eo : ofN 9007199254740992 = 4845873199050653696 := by unfold ofN; rw [if_neg (by omega), hl, e4]
      have em : mg 4845873199050653696 = 4503599627370496 := by decide
      have ep : (pl 4845873199050653696 + 1074).toNat = 1 + e := by
        have : pl 4845873199050653696 = 1 := by decide
        omega
      unfold unitsN
      rw [eo, em, ep, Nat.pow_add, ← Nat.mul_assoc]
    · obtain ⟨h1, h2, _⟩ := ofN_parts a h0 (by omega)
      have hl := log2_le a h0 (by omega)
      unfold unitsN
      rw [h1, h2, show ((a.log2 : Int) - 52 + 1074).toNat = a.log2 + (e - 52) by omega, Nat.mul_assoc, ← Nat.pow_add]
      congr 2; omega

theorem ofN_ord {a b : Nat} (ha : a ≤ 9007199254740992) (hb : b ≤ 9007199254740992) : ofN a < ofN b ↔ a < b := by
  obtain ⟨e, he⟩ := units_of
  rw [← units_lt, he a ha, he b hb]
  exact Nat.mul_lt_mul_right (Nat.two_pow_pos e)

theorem of_in {n : Int} (h0 : -9007199254740992 ≤ n) (h1 : n ≤ 9007199254740992) : In64 (ofX n) ∧ restX (ofX n) = ofN n.natAbs ∧ decide (ofX n < 0) = decide (n < 0) ∧ ofN n.natAbs ≤ 4845873199050653696 := by
  have hle := ofN_le n.natAbs (by omega)
  rw [ofX_in h0 h1]
  exact ⟨withX_in (by omega), (rest_with (by omega)).1, (rest_with (by omega)).2, hle⟩

theorem of_below {n m : Int} (h0 : -9007199254740992 ≤ n) (h1 : n ≤ 9007199254740992) (h2 : -9007199254740992 ≤ m) (h3 : m ≤ 9007199254740992) : belowX (ofX n) (ofX m) = decide (n < m) := by
  obtain ⟨i1, r1, s1, l1⟩ := of_in h0 h1
  obtain ⟨i2, r2, s2, l2⟩ := of_in h2 h3
  have ho := @ofN_ord n.natAbs m.natAbs (by omega) (by omega)
  have ho' := @ofN_ord m.natAbs n.natAbs (by omega) (by omega)
  have hz := @ofN_ord 0 m.natAbs (by omega) (by omega)
  have hz' := @ofN_ord 0 n.natAbs (by omega) (by omega)
  rw [show ofN 0 = 0 from rfl] at hz hz'
  rw [below_eq' i1 i2, r1, r2, s1, s2]
  generalize ofN n.natAbs = a at *
  generalize ofN m.natAbs = b at *
  rw [Bool.eq_iff_iff]
  simp only [Bool.and_eq_true, Bool.not_eq_true', decide_eq_false_iff_not, decide_eq_true_eq]
  unfold plX
  by_cases hn : n < 0 <;> by_cases hm : m < 0 <;> simp only [hn, hm, decide_true, decide_false, Bool.false_eq_true, if_true, if_false] <;> omega

theorem flip_in {x : Int} (h : In64 x) : In64 (flipX x) ∧ (¬ 9218868437227405312 < restX x → restX (flipX x) = restX x ∧ decide (flipX x < 0) = !decide (x < 0)) ∧ (9218868437227405312 < restX x → flipX x = noneX) := by
  have hr := restX_lt x h
  rw [flip_eq' h]
  by_cases h1 : 9218868437227405312 < restX x
  · rw [if_pos h1]; exact ⟨by unfold In64 noneX; omega, fun c => absurd h1 c, fun _ => rfl⟩
  · rw [if_neg h1]; exact ⟨withX_in hr, fun _ => rest_with hr, fun c => absurd c h1⟩

theorem none_rest : In64 noneX ∧ restX noneX = 9221120237041090560 := ⟨by unfold In64 noneX; omega, by decide⟩

theorem flip_below {x y : Int} (hx : In64 x) (hy : In64 y) : belowX (flipX y) (flipX x) = belowX x y := by
  obtain ⟨i1, a1, b1⟩ := flip_in hx
  obtain ⟨i2, a2, b2⟩ := flip_in hy
  rw [below_eq' i2 i1, below_eq' hx hy]
  by_cases h1 : 9218868437227405312 < restX x
  · rw [b1 h1, none_rest.2]; simp [h1]
  · by_cases h2 : 9218868437227405312 < restX y
    · rw [b2 h2, none_rest.2]; simp [h2]
    · rw [(a1 h1).1, (a1 h1).2, (a2 h2).1, (a2 h2).2]
      simp only [h1, h2, decide_false, Bool.not_false, Bool.true_and]
      rw [Bool.eq_iff_iff]
      simp only [decide_eq_true_eq]
      unfold plX
      cases decide (x < 0) <;> cases decide (y < 0) <;> simp <;> omega

theorem order_j0 (x y z : Int) (whole : Bool) (hw : whole = true) (hx : In64 x) (hy : In64 y) (hz : In64 z) : Ev (fun k => quarterdecklaw02_RealOrder.j0 k x y z true (belowX x y) (belowX y z) whole) true := by
  subst hw
  refine Ev.step (f := fun _ => some true) (fun k => ?_) (Ev.now _)
  simp only [quarterdecklaw02_RealOrder.j0, real_Below.f, real_Flip.f, Option.bind_some]
  rw [flip_below hx hy]
  have e1 : belowX x x = false := by rw [below_eq' hx hx]; simp
  have e2 : belowX x y = true → belowX y x = false := by
    intro h
    rw [below_eq' hx hy] at h
    rw [below_eq' hy hx]
    simp only [Bool.and_eq_true, Bool.not_eq_true', decide_eq_true_eq] at h
    have : decide (plX (decide (y < 0)) (restX y) < plX (decide (x < 0)) (restX x)) = false := decide_eq_false (by omega)
    rw [this, Bool.and_false]
  have e3 : belowX x y = true → belowX y z = true → belowX x z = true := by
    intro h h'
    rw [below_eq' hx hy] at h
    rw [below_eq' hy hz] at h'
    rw [below_eq' hx hz]
    simp only [Bool.and_eq_true, Bool.not_eq_true', decide_eq_true_eq, decide_eq_false_iff_not] at h h' ⊢
    exact ⟨⟨h.1.1, h'.1.2⟩, by omega⟩
  rw [e1]
  cases h : belowX x y
  · simp
  · rw [e2 h]
    cases h' : belowX y z
    · simp
    · rw [e3 h h']; simp

theorem order_law (x y z n m : Int) (hx : In64 x) (hy : In64 y) (hz : In64 z) : Ev (fun k => quarterdecklaw02_RealOrder.f k x y z n m) true := by
  unfold quarterdecklaw02_RealOrder.f
  rw [awake_eq]
  simp only [real_Below.f, real_Of.f, Option.bind_some]
  by_cases h1 : n < -9007199254740992
  · simp only [if_pos h1]; exact order_j0 x y z true rfl hx hy hz
  · simp only [if_neg h1]
    by_cases h2 : n > 9007199254740992
    · simp only [if_pos h2]; exact order_j0 x y z true rfl hx hy hz
    · simp only [if_neg h2]
      by_cases h3 : m < -9007199254740992
      · simp only [if_pos h3]; exact order_j0 x y z true rfl hx hy hz
      · simp only [if_neg h3]
        by_cases h4 : m > 9007199254740992
        · simp only [if_pos h4]; exact order_j0 x y z true rfl hx hy hz
        · simp only [if_neg h4]
          exact order_j0 x y z _ (by rw [of_below (by omega) (by omega) (by omega) (by omega)]; simp) hx hy hz

/-! Twice and half of whole numbers -/
theorem ofN_double (a : Nat) (h0 : a ≠ 0) : ofN (2 * a) = ofN a + 4503599627370496 := by
  have hl : (2 * a).log2 = a.log2 + 1 := by
    have := log2_shift a 1 h0
    rw [Nat.pow_one, Nat.mul_comm] at this; exact this
  unfold ofN
  rw [if_neg (by omega), if_neg h0, hl, Nat.pow_succ, Nat.mul_comm (2 ^ a.log2) 2, Nat.mul_assoc, Nat.mul_div_mul_left _ _ (by omega)]
  omega

theorem ofN_ge (a : Nat) (h0 : a ≠ 0) : 4607182418800017408 ≤ ofN a + 4503599627370496 := by
  unfold ofN; rw [if_neg h0]; generalize a * 4503599627370496 / 2 ^ a.log2 = c; omega

theorem twice_of {n : Int} (h0 : -4503599627370496 ≤ n) (h1 : n ≤ 4503599627370496) : twiceX (ofX n) = ofX (2 * n) := by
  obtain ⟨i1, r1, s1, l1⟩ := of_in (n := n) (by omega) (by omega)
  rw [twice_eq i1, r1, s1, if_neg (by omega), ofX_in (n := 2 * n) (by omega) (by omega)]
  by_cases hz : n = 0
  · subst hz; decide +kernel
  · have e1 : (2 * n).natAbs = 2 * n.natAbs := by omega
    have e2 : decide (2 * n < 0) = decide (n < 0) := by rw [Bool.eq_iff_iff]; simp only [decide_eq_true_eq]; omega
    have hg := ofN_ge n.natAbs (by omega)
    rw [e1, e2, ofN_double _ (by omega)]
    have e3 : twiceN (ofN n.natAbs) = ofN n.natAbs + 4503599627370496 := by
      unfold twiceN
      rw [if_neg (by omega), if_neg (by omega)]
      omega
    rw [e3]

theorem half_of {n : Int} (h0 : -4503599627370496 ≤ n) (h1 : n ≤ 4503599627370496) (hz : n ≠ 0) (he : n % 2 = 0) : halfX (ofX n) = ofX (Int.tdiv n 2) := by
  obtain ⟨b, hb⟩ : ∃ b, n = 2 * b := ⟨n / 2, by omega⟩
  subst hb
  have ed : Int.tdiv (2 * b) 2 = b := Int.mul_tdiv_cancel_left b (by omega)
  obtain ⟨i1, r1, s1, l1⟩ := of_in (n := 2 * b) (by omega) (by omega)
  rw [half_eq i1, r1, s1, if_neg (by omega), ed, ofX_in (n := b) (by omega) (by omega)]
  have e1 : (2 * b).natAbs = 2 * b.natAbs := by omega
  have e2 : decide (2 * b < 0) = decide (b < 0) := by rw [Bool.eq_iff_iff]; simp only [decide_eq_true_eq]; omega
  have hg := ofN_ge b.natAbs (by omega)
  rw [e1] at l1
  rw [e1, e2]
  rw [ofN_double _ (by omega)] at l1 ⊢
  have e3 : halfN (ofN b.natAbs + 4503599627370496) = ofN b.natAbs := by
    unfold halfN
    rw [if_neg (by omega), if_pos (by omega)]
    omega
  rw [e3]

theorem flip_of {n : Int} (h0 : -4503599627370496 ≤ n) (h1 : n ≤ 4503599627370496) (hz : n ≠ 0) : flipX (ofX n) = ofX (-n) := by
  obtain ⟨i1, r1, s1, l1⟩ := of_in (n := n) (by omega) (by omega)
  have e2 : (!decide (n < 0)) = decide (-n < 0) := by rw [Bool.eq_iff_iff]; simp; omega
  rw [flip_eq' i1, r1, s1, if_neg (by omega), ofX_in (n := -n) (by omega) (by omega), Int.natAbs_neg, e2]

theorem twice_law (n : Int) (hn : In64 n) : Ev (fun k => quarterdecklaw02_RealTwice.f k n) true := by
  unfold quarterdecklaw02_RealTwice.f
  rw [awake_eq]
  simp only [Option.bind_some, if_true]
  have stop : Ev (fun k => quarterdecklaw02_RealTwice.j0 k n true true) true := Ev.step (f := fun _ => some true) (fun k => by simp only [quarterdecklaw02_RealTwice.j0, if_true]) (Ev.now _)
  by_cases h1 : n < -4503599627370496
  · simp only [if_pos h1]; exact stop
  · simp only [if_neg h1]
    by_cases h2 : n > 4503599627370496
    · simp only [h2, decide_true]; exact stop
    · simp only [h2, decide_false]
      refine Ev.step (f := fun _ => some true) (fun k => ?_) (Ev.now _)
      simp only [quarterdecklaw02_RealTwice.j0, real_Of.f, real_Twice.f, real_Half.f, real_Flip.f, Option.bind_some, Bool.false_eq_true, if_false]
      have e2 : Int.tmod n 2 = 0 ↔ n % 2 = 0 := by
        rcases Int.le_total 0 n with h | h
        · rw [Int.tmod_eq_emod_of_nonneg h]
        · have : Int.tmod (-n) 2 = (-n) % 2 := Int.tmod_eq_emod_of_nonneg (by omega)
          rw [Int.neg_tmod] at this; omega
      have e3 : wrap64 (Int.tdiv n 2) = Int.tdiv n 2 := w64 (by have h : (Int.tdiv n 2).natAbs = n.natAbs / 2 := Int.natAbs_tdiv n 2; omega) (by have h : (Int.tdiv n 2).natAbs = n.natAbs / 2 := Int.natAbs_tdiv n 2; omega)
      rw [w64 (x := 2 * n) (by omega) (by omega), twice_of (by omega) (by omega), if_pos rfl, w64 (x := -n) (by omega) (by omega), e3]
      by_cases hz : n = 0
      · simp only [if_pos hz]; split <;> rfl
      · simp only [if_neg hz]
        rw [flip_of (by omega) (by omega) hz]
        by_cases he : Int.tmod n 2 = 0
        · rw [if_pos he, half_of (by omega) (by omega) hz (e2.1 he), if_pos rfl]; simp
        · rw [if_neg he]; simp

/-! Steps, back and forth, no number -/
theorem intN_units : ∃ e : Nat, ∀ r : Nat, r < 4845873199050653696 → intN r = unitsN r / 2 ^ e := by
  obtain ⟨e, he⟩ : ∃ e : Nat, (e : Int) = 1074 := ⟨1074, rfl⟩
  refine ⟨e, fun r h => ?_⟩
  have h1 := pl_le r h
  have h2 := pl_ge r
  unfold intN unitsN
  have e1 : e = (-pl r).toNat + (pl r + 1074).toNat := by omega
  rw [e1, Nat.pow_add, Nat.mul_div_mul_right _ _ (Nat.two_pow_pos _)]

theorem intN_mono {a b : Nat} (h : a ≤ b) (hb : b < 4845873199050653696) : intN a ≤ intN b := by
  obtain ⟨e, he⟩ := intN_units
  rw [he a (by omega), he b hb]
  refine Nat.div_le_div_right ?_
  rcases Nat.lt_or_ge a b with h1 | h1
  · exact Nat.le_of_lt (units_mono h1)
  · rw [show a = b by omega]; exact Nat.le_refl _

theorem whole_pos {x : Int} (h0 : 0 ≤ x) (h1 : x ≤ 9218868437227405312) : wholeX x = if 4845873199050653696 ≤ x then 9007199254740992 else (intN x.toNat : Int) := by
  have hi : In64 x := by unfold In64; omega
  have hr := restX_pos (x := x) (by omega)
  have hr2 : restX x = x.toNat := by omega
  rw [whole_eq' hi, if_neg (by omega), show decide (x < 0) = false from decide_eq_false (by omega), hr2]
  unfold plX signedU
  simp only [Bool.false_eq_true, if_false]
  by_cases hb : 4845873199050653696 ≤ x
  · rw [if_pos (by omega), if_pos hb]
  · rw [if_neg (by omega), if_neg (by omega), if_neg hb]

theorem steps_law (x : Int) (hx : In64 x) : Ev (fun k => quarterdecklaw02_RealSteps.f k x) true := by
  unfold quarterdecklaw02_RealSteps.f
  rw [awake_eq]
  simp only [Option.bind_some, if_true]
  have stop : Ev (fun k => quarterdecklaw02_RealSteps.j0 k x true true) true := Ev.step (f := fun _ => some true) (fun k => by simp only [quarterdecklaw02_RealSteps.j0, if_true]) (Ev.now _)
  by_cases h1 : x < 0
  · simp only [if_pos h1]; exact stop
  · simp only [if_neg h1]
    by_cases h2 : x ≥ 9218868437227405312
    · simp only [h2, decide_true]; exact stop
    · simp only [h2, decide_false]
      refine Ev.step (f := fun _ => some true) (fun k => ?_) (Ev.now _)
      have i2 : In64 (x + 1) := by unfold In64; omega
      have r1 := restX_pos (x := x) (by omega)
      have r2 := restX_pos (x := x + 1) (by omega)
      have hb : belowX x (x + 1) = true := by
        rw [below_eq' hx i2, show decide (x < 0) = false from decide_eq_false (by omega), show decide (x + 1 < 0) = false from decide_eq_false (by omega)]
        unfold plX
        simp only [Bool.and_eq_true, Bool.not_eq_true', decide_eq_false_iff_not, decide_eq_true_eq, Bool.false_eq_true, if_false]
        omega
      simp only [quarterdecklaw02_RealSteps.j0, real_Below.f, real_Whole.f, Option.bind_some, Bool.false_eq_true, if_false]
      rw [w64 (x := x + 1) (by omega) (by omega), hb, whole_pos (x := x) (by omega) (by omega), whole_pos (x := x + 1) (by omega) (by omega)]
      simp only [if_true]
      have hlt := intN_lt x.toNat
      by_cases c1 : 4845873199050653696 ≤ x
      · rw [if_pos c1, if_pos (show 4845873199050653696 ≤ x + 1 by omega), if_pos (by omega)]; simp
      · rw [if_neg c1]
        by_cases c2 : 4845873199050653696 ≤ x + 1
        · rw [if_pos c2, if_pos (by omega)]; simp
        · rw [if_neg c2]
          have hm := intN_mono (a := x.toNat) (b := (x + 1).toNat) (by omega) (by omega)
          rw [if_pos (by omega)]; simp

theorem and_mask (y : Int) : Go.bits .and .i64 y 2047 = y % 2048 := by
  have h : (BitVec.ofInt 64 y &&& BitVec.ofInt 64 2047).toNat = (y % 2048).toNat := by
    rw [BitVec.toNat_and, BitVec.toNat_ofInt, BitVec.toNat_ofInt]
    rw [show ((2047 : Int) % ((2 ^ 64 : Nat) : Int)).toNat = 2 ^ 11 - 1 by decide, Nat.and_two_pow_sub_one_eq_mod]
    have : ((2 ^ 64 : Nat) : Int) = 18446744073709551616 := by decide
    rw [this]
    omega
  show IntKind.i64.wrap ((BitVec.ofInt 64 y &&& BitVec.ofInt 64 2047).toNat : Int) = _
  rw [h, IntKind.wrap_i64]
  omega

theorem expo {x : Int} (hx : In64 x) : x / 4503599627370496 % 2048 = ((restX x / 4503599627370496 : Nat) : Int) := by
  have h := hx
  unfold In64 at h
  by_cases hn : x < 0
  · have := restX_neg hx hn; omega
  · have := restX_pos hn; omega

theorem whole_of {n : Int} (h0 : -9007199254740992 ≤ n) (h1 : n ≤ 9007199254740992) : wholeX (ofX n) = n := by
  obtain ⟨i1, r1, s1, l1⟩ := of_in h0 h1
  rw [whole_eq' i1, r1, s1, if_neg (by omega)]
  by_cases hb : n.natAbs = 9007199254740992
  · have hl : (9007199254740992 : Nat).log2 = 53 := (Nat.log2_eq_iff (by omega)).2 ⟨by decide, by decide⟩
    have e4 : 9007199254740992 * 4503599627370496 / 2 ^ 53 = 4503599627370496 := Nat.mul_div_cancel_left _ (by omega)
    have eo : ofN 9007199254740992 = 4845873199050653696 := by unfold ofN; rw [if_neg (by omega), hl, e4]
    rw [hb, eo]
    unfold plX
    by_cases hn : n < 0
    · simp only [hn, decide_true, if_true]; rw [if_neg (by omega), if_pos (by omega)]; omega
    · simp only [hn, decide_false, Bool.false_eq_true, if_false]; rw [if_pos (by omega)]; omega
  · have hlt := ofN_lt n.natAbs (by omega)
    rw [intN_ofN _ (by omega)]
    unfold plX signedU
    by_cases hn : n < 0
    · simp only [hn, decide_true, if_true]; rw [if_neg (by omega), if_neg (by omega)]; omega
    · simp only [hn, decide_false, Bool.false_eq_true, if_false]; rw [if_neg (by omega), if_neg (by omega)]; omega

theorem flip_flip {x : Int} (hx : In64 x) (h : ¬ 9218868437227405312 < restX x) : flipX (flipX x) = x := by
  obtain ⟨i1, a1, _⟩ := flip_in hx
  rw [flip_eq' i1, (a1 h).1, (a1 h).2, if_neg h, Bool.not_not, withX_rest hx]

theorem half_twice {x : Int} (hx : In64 x) (h : restX x / 4503599627370496 < 2046) : halfX (twiceX x) = x := by
  have hr := restX_lt x hx
  have hl := twiceN_le (restX x)
  rw [twice_eq hx, if_neg (by omega), half_eq (withX_in (by omega)), (rest_with (by omega)).1, (rest_with (by omega)).2, if_neg (by omega)]
  have e : halfN (twiceN (restX x)) = restX x := by
    unfold twiceN
    rw [if_neg (by omega)]
    by_cases h1 : restX x < 4503599627370496
    · rw [if_pos h1]; unfold halfN; rw [if_neg (by omega), if_neg (by omega), if_neg (by omega)]; omega
    · rw [if_neg h1, Nat.min_eq_left (by omega)]; unfold halfN
      by_cases h2 : restX x + 4503599627370496 = 9218868437227405312
      · omega
      · rw [if_neg h2, if_pos (by omega)]; omega
  rw [e, withX_rest hx]

theorem twice_half {x : Int} (hx : In64 x) (h : 2 ≤ restX x / 4503599627370496) (h' : restX x / 4503599627370496 < 2047) : twiceX (halfX x) = x := by
  have hr := restX_lt x hx
  have hl := halfN_le (restX x) (by omega)
  rw [half_eq hx, if_neg (by omega), twice_eq (withX_in (by omega)), (rest_with (by omega)).1, (rest_with (by omega)).2, if_neg (by omega)]
  have e : twiceN (halfN (restX x)) = restX x := by
    unfold halfN
    rw [if_neg (by omega), if_pos (by omega)]
    unfold twiceN
    rw [if_neg (by omega), if_neg (by omega)]
    omega
  rw [e, withX_rest hx]

theorem back_law (n x : Int) (hx : In64 x) : Ev (fun k => quarterdecklaw02_RealBack.f k n x) true := by
  unfold quarterdecklaw02_RealBack.f
  rw [awake_eq]
  simp only [Option.bind_some, if_true, real_Of.f, real_Whole.f]
  have hr := restX_lt x hx
  have go : Ev (fun k => quarterdecklaw02_RealBack.j0 k x false) true := by
    refine Ev.step (f := fun _ => some true) (fun k => ?_) (Ev.now _)
    simp only [quarterdecklaw02_RealBack.j0, Bool.false_eq_true, if_false, real_Flip.f, real_Half.f, real_Twice.f, Option.bind_some, and_mask, expo hx]
    by_cases h1 : ((restX x / 4503599627370496 : Nat) : Int) = 2047
    · rw [if_pos h1]
    · rw [if_neg h1, flip_flip hx (by omega), if_pos rfl]
      by_cases h2 : ((restX x / 4503599627370496 : Nat) : Int) ≥ 2046
      · rw [if_pos h2, if_neg (by omega), twice_half hx (by omega) (by omega)]; simp
      · rw [if_neg h2, half_twice hx (by omega), if_pos rfl]
        by_cases h3 : ((restX x / 4503599627370496 : Nat) : Int) < 2
        · rw [if_pos h3]
        · rw [if_neg h3, twice_half hx (by omega) (by omega)]; simp
  by_cases h1 : n ≥ -9007199254740992
  · simp only [if_pos h1]
    by_cases h2 : n ≤ 9007199254740992
    · simp only [if_pos h2]
      rw [whole_of h1 h2, bne_self_eq_false]; exact go
    · simp only [if_neg h2]; exact go
  · simp only [if_neg h1]; exact go

theorem none_law (x y : Int) (hx : In64 x) (hy : In64 y) : Ev (fun k => quarterdecklaw02_RealNone.f k x y) true := by
  unfold quarterdecklaw02_RealNone.f
  rw [awake_eq]
  simp only [Option.bind_some, if_true, and_mask, expo hx]
  have hr := restX_lt x hx
  by_cases h1 : ((restX x / 4503599627370496 : Nat) : Int) = 2047
  · rw [h1, bne_self_eq_false]
    refine Ev.step (f := fun _ => some true) (fun k => ?_) (Ev.now _)
    simp only [quarterdecklaw02_RealNone.j0, Bool.false_eq_true, if_false, real_Flip.f, real_Half.f, real_Twice.f, real_Below.f, real_Whole.f, Option.bind_some]
    have em : Int.tmod x 4503599627370496 = 0 ↔ restX x % 4503599627370496 = 0 := by
      have h := hx
      unfold In64 at h
      by_cases hn : x < 0
      · have e := restX_neg hx hn
        have : Int.tmod (-x) 4503599627370496 = (-x) % 4503599627370496 := Int.tmod_eq_emod_of_nonneg (by omega)
        rw [Int.neg_tmod] at this; omega
      · have e := restX_pos hn
        rw [Int.tmod_eq_emod_of_nonneg (by omega)]; omega
    by_cases h2 : Int.tmod x 4503599627370496 = 0
    · have hinf : restX x = 9218868437227405312 := by have := em.1 h2; omega
      have e1 : halfX x = x := by rw [half_eq hx, if_neg (by omega), hinf, show halfN 9218868437227405312 = 9218868437227405312 from rfl, ← hinf, withX_rest hx]
      have e2 : twiceX x = x := by rw [twice_eq hx, if_neg (by omega), hinf, show twiceN 9218868437227405312 = 9218868437227405312 from rfl, ← hinf, withX_rest hx]
      rw [if_pos h2, e1, e2, if_pos rfl, if_pos rfl, flip_flip hx (by omega)]; simp
    · have hnan : 9218868437227405312 < restX x := by
        have : ¬ restX x % 4503599627370496 = 0 := fun c => h2 (em.2 c)
        omega
      have e1 : halfX x = noneX := by rw [half_eq hx, if_pos hnan]
      have e2 : twiceX x = noneX := by rw [twice_eq hx, if_pos hnan]
      have e3 : flipX x = noneX := by rw [flip_eq' hx, if_pos hnan]
      have e4 : belowX x y = false := by rw [below_eq' hx hy]; simp [hnan]
      have e5 : belowX y x = false := by rw [below_eq' hy hx]; simp [hnan]
      have e6 : wholeX x = 0 := by rw [whole_eq' hx, if_pos hnan]
      have en : noneX = 9221120237041090560 := rfl
      rw [if_neg h2, e1, e2, e3, e4, e5, e6, if_pos en, if_pos en, if_pos en]; simp
  · have : (((restX x / 4503599627370496 : Nat) : Int) != 2047) = true := by simp; omega
    rw [this]
    exact Ev.step (f := fun _ => some true) (fun k => by simp only [quarterdecklaw02_RealNone.j0, if_true]) (Ev.now _)
end Go.Proofs.Ytiamipopddaeiaa.PureR

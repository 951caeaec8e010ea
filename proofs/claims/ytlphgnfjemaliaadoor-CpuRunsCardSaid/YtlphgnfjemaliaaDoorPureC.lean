/-
  Plain lemmas on the printed references that chapter 05 reaches: what they come to. No program in sight.
  Conditions: 64-bit numbers where a lemma says so.
-/
import Derived.Test.YtlphgnfjemaliaaDoorPr2
import Derived.Test.YtlphgnfjemaliaaDoorPr5
import Derived.Test.YtlphgnfjemaliaaDoorCpuA
import Derived.Test.YtlphgnfjemaliaaDoorInstr
namespace Go.Proofs.YtlphgnfjemaliaaDoor.PureC
open Go.RowKit Go.Proofs.YtlphgnfjemaliaaDoor.Pr Go.Proofs.YtlphgnfjemaliaaDoorW.PrintWords Go.Proofs.YtlphgnfjemaliaaDoorW.PrintLast Go.Proofs.YtlphgnfjemaliaaDoorW.PrintMore
open Go.Proofs.YtlphgnfjemaliaaDoor.Flt Go.Proofs.YtlphgnfjemaliaaDoor.RealW Go.Proofs.YtlphgnfjemaliaaDoor.RealG
set_option linter.unusedSimpArgs false
set_option linter.unusedVariables false
abbrev In64 (x : Int) : Prop := -9223372036854775808 ≤ x ∧ x ≤ 9223372036854775807
theorem w64 {x : Int} (h0 : -9223372036854775808 ≤ x) (h1 : x ≤ 9223372036854775807) : wrap64 x = x := by unfold wrap64; omega
theorem wf64 {x : Int} (h : (Lit.int .i64 x).wf = true) : In64 x := by
  have := h
  simp [Lit.wf, IntKind.min, IntKind.max, IntKind.bits, IntKind.signed] at this
  unfold In64
  omega
theorem restX_lt (x : Int) (h : In64 x) : restX x < 9223372036854775808 := by unfold restX; unfold In64 at h; split <;> omega
theorem restX_neg {x : Int} (h : In64 x) (hn : x < 0) : (restX x : Int) = x + 9223372036854775808 := by unfold restX; unfold In64 at h; rw [if_pos hn]; omega
theorem restX_pos {x : Int} (hn : ¬ x < 0) : (restX x : Int) = x := by unfold restX; rw [if_neg hn]; omega
theorem withX_rest {x : Int} (h : In64 x) : withX (decide (x < 0)) (restX x) = x := by
  unfold withX
  by_cases hn : x < 0
  · have := restX_neg h hn; simp [hn]; omega
  · have := restX_pos hn; simp [hn]; omega
theorem withX_in {s : Bool} {r : Nat} (h : r < 9223372036854775808) : In64 (withX s r) := by unfold withX In64; split <;> omega
theorem rest_with {s : Bool} {r : Nat} (h : r < 9223372036854775808) : restX (withX s r) = r ∧ decide (withX s r < 0) = s := by
  unfold restX withX
  cases s
  · simp only [Bool.false_eq_true, if_false]; rw [if_neg (by omega)]; exact ⟨by omega, decide_eq_false (by omega)⟩
  · simp only [if_true]; rw [if_pos (by omega)]; exact ⟨by omega, decide_eq_true (by omega)⟩
/-- Where a number is among all. -/
def plX (s : Bool) (r : Nat) : Int := if s then -(r : Int) else r
theorem U_place {x : Int} (h : In64 x) : placeN (U x) = plX (decide (x < 0)) (restX x) := by
  unfold placeN plX; rw [(U_parts x h).1, (U_parts x h).2]
theorem U_nan {x : Int} (h : In64 x) : nanN (U x) = decide (9218868437227405312 < restX x) := by unfold nanN; rw [(U_parts x h).2]
theorem half_eq {x : Int} (h : In64 x) : halfX x = if 9218868437227405312 < restX x then noneX else withX (decide (x < 0)) (halfN (restX x)) := by
  unfold halfX; rw [U_nan h, (U_parts x h).1, (U_parts x h).2]; simp only [decide_eq_true_eq]
theorem twice_eq {x : Int} (h : In64 x) : twiceX x = if 9218868437227405312 < restX x then noneX else withX (decide (x < 0)) (twiceN (restX x)) := by
  unfold twiceX; rw [U_nan h, (U_parts x h).1, (U_parts x h).2]; simp only [decide_eq_true_eq]
theorem flip_eq' {x : Int} (h : In64 x) : flipX x = if 9218868437227405312 < restX x then noneX else withX (!decide (x < 0)) (restX x) := by
  unfold flipX; rw [U_nan h, (U_parts x h).1, (U_parts x h).2]; simp only [decide_eq_true_eq]
theorem below_eq' {x y : Int} (h : In64 x) (h' : In64 y) : belowX x y = (!decide (9218868437227405312 < restX x) && !decide (9218868437227405312 < restX y) && decide (plX (decide (x < 0)) (restX x) < plX (decide (y < 0)) (restX y))) := by
  unfold belowX; rw [U_nan h, U_nan h', U_place h, U_place h']
theorem whole_eq' {x : Int} (h : In64 x) : wholeX x = if 9218868437227405312 < restX x then 0 else if 4845873199050653696 ≤ plX (decide (x < 0)) (restX x) then 9007199254740992 else if plX (decide (x < 0)) (restX x) ≤ -4845873199050653696 then -9007199254740992
    else signedU (decide (x < 0)) (intN (restX x)) := by
  unfold wholeX; rw [U_nan h, U_place h, (U_parts x h).1, (U_parts x h).2]; simp only [decide_eq_true_eq]
theorem rrest {x : Int} (h : In64 x) : quarterdeckref02_rest.f x = some (restX x : Int) := by
  have h' := h
  unfold In64 at h'
  unfold quarterdeckref02_rest.f
  by_cases hn : x < 0
  · rw [if_pos hn, restX_neg h hn, w64 (x := x + 4611686018427387904) (by omega) (by omega), w64 (by omega) (by omega)]
    congr 1; omega
  · rw [if_neg hn, restX_pos hn]
theorem rinf : quarterdeckref02_inf.f = some 9218868437227405312 := rfl
theorem rsign (x : Int) : quarterdeckref02_sign.f x = some (decide (x < 0)) := rfl
theorem rnan {x : Int} (h : In64 x) : quarterdeckref02_nan.f x = some (decide (9218868437227405312 < restX x)) := by
  unfold quarterdeckref02_nan.f
  rw [rrest h, rinf]
  simp only [Option.bind_some, Option.some.injEq]
  rw [Bool.eq_iff_iff]; simp only [decide_eq_true_eq]; omega
theorem rnone : quarterdeckref02_none.f = some noneX := by
  unfold quarterdeckref02_none.f; rw [rinf, Option.bind_some, w64 (by omega) (by omega)]; rfl
theorem rwith (s : Bool) {r : Nat} (h : r < 9223372036854775808) : quarterdeckref02_with.f s r = some (withX s r) := by
  unfold quarterdeckref02_with.f withX
  cases s
  · simp only [Bool.false_eq_true, if_false]
  · simp only [if_true]; rw [w64 (x := (r : Int) - 4611686018427387904) (by omega) (by omega), w64 (by omega) (by omega)]; congr 1; omega
theorem rplace {x : Int} (h : In64 x) : quarterdeckref02_place.f x = some (plX (decide (x < 0)) (restX x)) := by
  have hr := restX_lt x h
  unfold quarterdeckref02_place.f plX
  rw [rsign, Option.bind_some]
  by_cases hn : x < 0
  · simp only [hn, decide_true, if_true]; rw [rrest h, Option.bind_some, w64 (by omega) (by omega)]
  · simp only [hn, decide_false, Bool.false_eq_true, if_false]; rw [restX_pos hn]
theorem rbelow {x y : Int} (h : In64 x) (h' : In64 y) : quarterdeckref02_Below.f x y = some (belowX x y) := by
  unfold quarterdeckref02_Below.f
  rw [rnan h, rnan h', rplace h, rplace h', below_eq' h h']
  simp only [Option.bind_some]
  by_cases h1 : 9218868437227405312 < restX x
  · simp [h1]
  · by_cases h2 : 9218868437227405312 < restX y
    · simp [h2]
    · simp [h1, h2]
theorem rhalf {x : Int} (h : In64 x) : quarterdeckref02_Half.f x = some (halfX x) := by
  have hr := restX_lt x h
  unfold quarterdeckref02_Half.f
  rw [rnan h, half_eq h, rnone, rrest h, rsign, rinf]
  simp only [Option.bind_some, decide_eq_true_eq]
  by_cases h1 : 9218868437227405312 < restX x
  · rw [if_pos h1, if_pos h1]
  · rw [if_neg h1, if_neg h1]
    have hw := withX_rest h
    generalize decide (x < 0) = s at *
    generalize restX x = r at *
    unfold halfN
    by_cases h2 : r = 9218868437227405312
    · rw [if_pos (by omega), if_pos h2, hw]
    · rw [if_neg (by omega), if_neg h2]
      by_cases h3 : 1 < r / 4503599627370496
      · rw [if_pos (by omega), if_pos h3, w64 (by omega) (by omega), show (r : Int) - 4503599627370496 = ((r - 4503599627370496 : Nat) : Int) by omega, rwith s (by omega)]; rfl
      · rw [if_neg (by omega), if_neg h3]
        have e1 : Int.tmod (r : Int) 2 = ((r % 2 : Nat) : Int) := by rw [Int.tmod_eq_emod_of_nonneg (by omega)]; omega
        have e2 : Int.tdiv (r : Int) 2 = ((r / 2 : Nat) : Int) := by rw [Int.tdiv_eq_ediv_of_nonneg (by omega)]; omega
        have e3 : Int.tmod ((r / 2 : Nat) : Int) 2 = ((r / 2 % 2 : Nat) : Int) := by rw [Int.tmod_eq_emod_of_nonneg (by omega)]; omega
        rw [e1, e2, w64 (x := ((r / 2 : Nat) : Int)) (by omega) (by omega), e3]
        by_cases h4 : r % 2 = 1
        · rw [if_pos (by omega)]
          by_cases h5 : r / 2 % 2 = 1
          · rw [if_pos (by omega), if_pos ⟨h4, h5⟩, w64 (by omega) (by omega), show ((r / 2 : Nat) : Int) + 1 = ((r / 2 + 1 : Nat) : Int) by omega, rwith s (by omega)]; rfl
          · rw [if_neg (by omega), if_neg (fun c => h5 c.2), rwith s (by omega)]; rfl
        · rw [if_neg (by omega), if_neg (fun c => h4 c.1), rwith s (by omega)]; rfl
theorem rtwice {x : Int} (h : In64 x) : quarterdeckref02_Twice.f x = some (twiceX x) := by
  have hr := restX_lt x h
  unfold quarterdeckref02_Twice.f
  rw [rnan h, twice_eq h, rnone, rrest h, rsign, rinf]
  simp only [Option.bind_some, decide_eq_true_eq]
  by_cases h1 : 9218868437227405312 < restX x
  · rw [if_pos h1, if_pos h1]
  · rw [if_neg h1, if_neg h1]
    have hw := withX_rest h
    generalize decide (x < 0) = s at *
    generalize restX x = r at *
    unfold twiceN
    by_cases h2 : r = 9218868437227405312
    · rw [if_pos (by omega), if_pos h2, hw]
    · rw [if_neg (by omega), if_neg h2]
      by_cases h3 : r < 4503599627370496
      · rw [if_pos (by omega), if_pos h3, w64 (by omega) (by omega), show 2 * (r : Int) = ((2 * r : Nat) : Int) by omega, rwith s (by omega)]; rfl
      · rw [if_neg (by omega), if_neg h3, w64 (by omega) (by omega)]
        by_cases h4 : r + 4503599627370496 > 9218868437227405312
        · rw [if_pos (by omega), show (9218868437227405312 : Int) = ((9218868437227405312 : Nat) : Int) from rfl, rwith s (by omega), Nat.min_eq_right (by omega)]; rfl
        · rw [if_neg (by omega), show (r : Int) + 4503599627370496 = ((r + 4503599627370496 : Nat) : Int) by omega, rwith s (by omega), Nat.min_eq_left (by omega)]; rfl
theorem rflip {x : Int} (h : In64 x) : quarterdeckref02_Flip.f x = some (flipX x) := by
  have hr := restX_lt x h
  unfold quarterdeckref02_Flip.f
  rw [rnan h, flip_eq' h, rnone, rrest h, rsign]
  simp only [Option.bind_some, decide_eq_true_eq]
  by_cases h1 : 9218868437227405312 < restX x
  · rw [if_pos h1, if_pos h1]
  · rw [if_neg h1, if_neg h1, rwith _ hr]; rfl
theorem rwhole_j2 (x : Int) (r m : Nat) (hm : m < 9007199254740993) : Ev (fun k => quarterdeckref02_Whole.j2 k x r m) (if r / 4503599627370496 = 0 then 0 else signedU (decide (x < 0)) m) := by
  refine Ev.step (f := fun _ => some (if r / 4503599627370496 = 0 then 0 else signedU (decide (x < 0)) m)) (fun k => ?_) (Ev.now _)
  simp only [quarterdeckref02_Whole.j2, rsign, Option.bind_some, decide_eq_true_eq]
  unfold signedU
  by_cases h : r / 4503599627370496 = 0
  · rw [if_pos (by omega), if_pos h]; split <;> rfl
  · rw [if_neg (by omega), if_neg h]
    by_cases hn : x < 0
    · rw [if_pos hn, w64 (by omega) (by omega)]; simp [hn]
    · rw [if_neg hn]; simp [hn]
theorem rwhole_l0 (x : Int) (r : Nat) (d : Nat) : ∀ m : Nat, d ≤ 1075 → m < 9007199254740993 → Ev (fun k => quarterdeckref02_Whole.l0 k x r (-(d : Int)) m) (if r / 4503599627370496 = 0 then 0 else signedU (decide (x < 0)) (m / 2 ^ d)) := by
  induction d with
  | zero =>
    intro m _ hm
    refine Ev.step (f := fun k => quarterdeckref02_Whole.j2 k x r m) (fun k => ?_) ?_
    · simp only [quarterdeckref02_Whole.l0]; rw [if_neg (by omega)]
    · rw [Nat.pow_zero, Nat.div_one]; exact rwhole_j2 x r m hm
  | succ d ih =>
    intro m hd hm
    by_cases h0 : m = 0
    · subst h0
      refine Ev.step (f := fun k => quarterdeckref02_Whole.j2 k x r ((0 : Nat) : Int)) (fun k => ?_) ?_
      · simp only [quarterdeckref02_Whole.l0]; rw [if_pos (by omega), if_neg (by omega)]
      · rw [Nat.zero_div]; exact rwhole_j2 x r 0 (by omega)
    · refine Ev.step (f := fun k => quarterdeckref02_Whole.l0 k x r (-(d : Int)) ((m / 2 : Nat) : Int)) (fun k => ?_) ?_
      · simp only [quarterdeckref02_Whole.l0]
        have e : Int.tdiv (m : Int) 2 = ((m / 2 : Nat) : Int) := by rw [Int.tdiv_eq_ediv_of_nonneg (by omega)]; omega
        rw [if_pos (by omega), if_pos (by omega), e, w64 (x := ((m / 2 : Nat) : Int)) (by omega) (by omega), w64 (by omega) (by omega)]
        congr 1; omega
      · have := ih (m / 2) (by omega) (by omega)
        rw [Nat.div_div_eq_div_mul, ← Nat.pow_succ'] at this
        exact this
theorem big_le (k : Nat) (h : 52 ≤ k) : 4503599627370496 ≤ 2 ^ k := Nat.le_trans (by decide : 4503599627370496 ≤ 2 ^ 52) (Nat.pow_le_pow_right (by omega) h)
theorem rwhole {x : Int} (h : In64 x) : Ev (fun k => quarterdeckref02_Whole.f k x) (wholeX x) := by
  have hr := restX_lt x h
  unfold quarterdeckref02_Whole.f
  rw [rnan h, whole_eq' h, rrest h]
  simp only [Option.bind_some, decide_eq_true_eq]
  by_cases h1 : 9218868437227405312 < restX x
  · simp only [if_pos h1]; exact Ev.now _
  · simp only [if_neg h1]
    have hl0 := rwhole_l0 x (restX x)
    have hj2 := rwhole_j2 x (restX x)
    generalize decide (x < 0) = s at *
    generalize restX x = r at *
    have e0 : wrap64 ((r : Int) / 4503599627370496 - 1075) = (r : Int) / 4503599627370496 - 1075 := w64 (by omega) (by omega)
    have e1 : Int.tmod (r : Int) 4503599627370496 = ((r % 4503599627370496 : Nat) : Int) := by rw [Int.tmod_eq_emod_of_nonneg (by omega)]; omega
    have e2 : wrap64 (Int.tmod (r : Int) 4503599627370496 + 4503599627370496) = ((4503599627370496 + r % 4503599627370496 : Nat) : Int) := by rw [e1, w64 (by omega) (by omega)]; omega
    simp only [e0, e2]
    by_cases hb : 4845873199050653696 ≤ r
    · simp only [if_pos (show (r : Int) / 4503599627370496 - 1075 > 0 by omega)]
      refine Ev.step (f := fun k => quarterdeckref02_Whole.l0 k x r ((r : Int) / 4503599627370496 - 1075) ((9007199254740992 : Nat) : Int)) (fun k => by simp only [quarterdeckref02_Whole.j0]; rfl) ?_
      refine Ev.step (f := fun k => quarterdeckref02_Whole.j2 k x r ((9007199254740992 : Nat) : Int)) (fun k => ?_) ?_
      · simp only [quarterdeckref02_Whole.l0]; rw [if_neg (by omega)]
      · have hj := hj2 9007199254740992 (by omega)
        rw [if_neg (by omega)] at hj
        unfold plX
        cases s
        · rw [if_pos (by simp; omega)]; exact hj
        · rw [if_neg (by simp; omega), if_pos (by simp; omega)]; exact hj
    · simp only [if_neg (show ¬ (r : Int) / 4503599627370496 - 1075 > 0 by omega)]
      obtain ⟨d, hd⟩ : ∃ d : Nat, (r : Int) / 4503599627370496 - 1075 = -(d : Int) := ⟨(1075 - (r : Int) / 4503599627370496).toNat, by omega⟩
      rw [hd]
      refine Ev.step (f := fun k => quarterdeckref02_Whole.l0 k x r (-(d : Int)) ((4503599627370496 + r % 4503599627370496 : Nat) : Int)) (fun k => by simp only [quarterdeckref02_Whole.j0]) ?_
      have := hl0 d (4503599627370496 + r % 4503599627370496) (by omega) (by omega)
      have hv : (if r / 4503599627370496 = 0 then 0 else signedU s ((4503599627370496 + r % 4503599627370496) / 2 ^ d)) = signedU s (intN r) := by
        unfold intN mg pl
        by_cases hz : r < 4503599627370496
        · rw [if_pos (by omega), if_pos hz, if_pos hz]
          have : r / 2 ^ (-(-1074 : Int)).toNat = 0 := Nat.div_eq_of_lt (Nat.lt_of_lt_of_le hz (big_le _ (by omega)))
          rw [this]; unfold signedU; cases s <;> rfl
        · rw [if_neg (by omega), if_neg hz, if_neg hz]
          congr 3; omega
      rw [hv] at this
      unfold plX
      rw [if_neg (by cases s <;> simp <;> omega), if_neg (by cases s <;> simp <;> omega)]
      exact this
theorem refdiv_eq (a b : Int) : quarterdeckref01_Div.f a b = some (Div.divI a b) := by
  unfold quarterdeckref01_Div.f Div.divI
  by_cases h : b = 0
  · rw [if_pos h, if_pos h]
  · rw [if_neg h, if_neg h]
    by_cases h1 : b = -1
    · rw [if_pos h1, h1, Int.tdiv_neg, Int.tdiv_one]
    · rw [if_neg h1]

def rg_ (x : S25) : Go.Proofs.YtlphgnfjemaliaaDoor.Mem.Rg := (x.f0, x.f1, x.f2)
theorem regs_at {w : World} {A : Option Addr} {l : List S25} (h : Kd.C k25 w A l.length l) : Go.Proofs.YtlphgnfjemaliaaDoor.Mem.RegsAt w A (l.map rg_) := by
  refine ⟨by rw [List.length_map]; exact h.2.1, fun hn => ?_⟩
  rw [List.length_map] at hn
  obtain ⟨ad, c0, rfl, _, _, _⟩ := Kd.C_get h z25 0 (by omega) (by omega)
  refine ⟨ad, rfl, fun i x hx => ?_⟩
  rw [List.getElem?_map] at hx
  obtain ⟨y, hy, rfl⟩ := Option.map_eq_some_iff.1 hx
  have hi : i < l.length := (List.getElem?_eq_some_iff.1 hy).1
  obtain ⟨ad2, c, e, _, hK, hc0⟩ := Kd.C_get h z25 (i : Int) (by omega) (by omega)
  injection e with e
  subst e
  rw [Int.toNat_natCast, List.getD_eq_getElem?_getD, hy, Option.getD_some] at hK
  rw [Int.toNat_natCast] at hc0
  have hc : ∀ j u, c[j]? = some u → w.cell? (ad.add (i * 3 + j)) = some u := hc0
  obtain rfl := k25_open hK
  exact ⟨hc 0 _ rfl, by rw [← add_field _ _ 1 (by omega)]; exact hc 1 _ rfl, by rw [← add_field _ _ 2 (by omega)]; exact hc 2 _ rfl⟩


section
open Go.Proofs.YtlphgnfjemaliaaDoor.Mem
abbrev S := S25
theorem rd_nat (l : List S) (i : Nat) : rd_T25 l (i : Int) = l.getD i z25 := by unfold rd_T25; rw [Int.toNat_natCast]
theorem drop_getD (l : List S) (i : Nat) (h : i < l.length) : l.drop i = l.getD i z25 :: l.drop (i + 1) := by
  rw [List.getD_eq_getElem?_getD, List.getElem?_eq_getElem h, Option.getD_some]; exact List.drop_eq_getElem_cons h
/-- Has a region a word, as the reference asks? -/
def inB (x : S) (a : Int) : Bool := decide (0 ≤ x.f0) && decide (x.f0 < 1000) && decide (x.f0 ≤ a) && decide (a - x.f0 < x.f1) && decide (a - x.f0 < 200)
theorem in_l0 (x : S) (a : Int) (d : Nat) : ∀ n : Nat, n + d = 200 → (0 ≤ x.f0 → x.f0 < 1000 → ∀ m : Nat, m < n → (m : Int) < x.f1 → x.f0 + m ≠ a) →
    Ev (fun k => quarterdeckref03_in.l0 k a n x.f0 x.f1 x.f2) (inB x a) := by
  induction d with
  | zero =>
    intro n hn hlow
    have hr : inB x a = false := by
      rw [Bool.eq_false_iff]
      intro h
      simp only [inB, Bool.and_eq_true, decide_eq_true_eq] at h
      exact hlow (by omega) (by omega) (a - x.f0).toNat (by omega) (by omega) (by omega)
    rw [hr]
    refine Ev.step (f := fun k => quarterdeckref03_in.j1 k a n false x.f0 x.f1 x.f2) (fun k => ?_) ?_
    · simp only [quarterdeckref03_in.l0]
      rw [show decide ((n : Int) < 200) = false from decide_eq_false (by omega)]
      split <;> rfl
    · refine Ev.step (f := fun _ => some false) (fun k => ?_) (Ev.now _)
      simp [quarterdeckref03_in.j1]
  | succ d ih =>
    intro n hn hlow
    by_cases hf : (n : Int) < x.f1
    · refine Ev.step (f := fun k => quarterdeckref03_in.j1 k a n true x.f0 x.f1 x.f2) (fun k => ?_) ?_
      · simp only [quarterdeckref03_in.l0]
        rw [if_pos hf, show decide ((n : Int) < 200) = true from decide_eq_true (by omega)]
      · by_cases hh : 0 ≤ x.f0 ∧ x.f0 < 1000 ∧ x.f0 + n = a
        · have hr : inB x a = true := by
            simp only [inB, Bool.and_eq_true, decide_eq_true_eq]; omega
          rw [hr]
          refine Ev.step (f := fun _ => some true) (fun k => ?_) (Ev.now _)
          simp only [quarterdeckref03_in.j1]
          rw [if_pos trivial, if_pos hh.1, if_pos hh.2.1, w64 (by omega) (by omega), if_pos hh.2.2]
        · refine Ev.step (f := fun k => quarterdeckref03_in.l0 k a ((n + 1 : Nat) : Int) x.f0 x.f1 x.f2) (fun k => ?_) (ih (n + 1) (by omega) ?_)
          · simp only [quarterdeckref03_in.j1]
            rw [if_pos trivial, w64 (x := (n : Int) + 1) (by omega) (by omega)]
            by_cases h0 : x.f0 ≥ 0
            · rw [if_pos h0]
              by_cases h1 : x.f0 < 1000
              · rw [if_pos h1, w64 (by omega) (by omega), if_neg (by omega)]; rfl
              · rw [if_neg h1]; rfl
            · rw [if_neg h0]; rfl
          · intro h0 h1 m hm hm1
            by_cases he : m = n
            · subst he; intro h; exact hh ⟨h0, h1, h⟩
            · exact hlow h0 h1 m (by omega) hm1
    · have hr : inB x a = false := by
        rw [Bool.eq_false_iff]
        intro h
        simp only [inB, Bool.and_eq_true, decide_eq_true_eq] at h
        exact hlow (by omega) (by omega) (a - x.f0).toNat (by omega) (by omega) (by omega)
      rw [hr]
      refine Ev.step (f := fun k => quarterdeckref03_in.j1 k a n false x.f0 x.f1 x.f2) (fun k => ?_) ?_
      · simp only [quarterdeckref03_in.l0]
        rw [if_neg hf]
      · refine Ev.step (f := fun _ => some false) (fun k => ?_) (Ev.now _)
        simp [quarterdeckref03_in.j1]
theorem in_ev (x : S) (a : Int) : Ev (fun k => quarterdeckref03_in.f k x.f0 x.f1 x.f2 a) (inB x a) :=
  in_l0 x a 200 0 (by omega) (fun _ _ m hm => by omega)
/-- Does a region count? -/
def cntB (a : Int) (md : Bool) (x : S) : Bool := inB x a && (x.f2 || !md)
theorem many_l0 (l : List S) (hl : l.length ≤ 1000) (a : Int) (md : Bool) (d : Nat) : ∀ (i c : Nat), i + d = l.length → c ≤ i →
    Ev (fun k => quarterdeckref03_many.l0 k l a md c i) ((c + (l.drop i).countP (cntB a md) : Nat) : Int) := by
  induction d with
  | zero =>
    intro i c hi hc
    refine Ev.step (f := fun _ => some ((c : Nat) : Int)) (fun k => ?_) ?_
    · simp only [quarterdeckref03_many.l0]
      rw [if_neg (by omega)]
    · rw [List.drop_eq_nil_of_le (by omega)]
      exact Ev.now _
  | succ d ih =>
    intro i c hi hc
    have hlt : i < l.length := by omega
    rw [drop_getD l i hlt, List.countP_cons]
    generalize hx : l.getD i z25 = x
    refine Ev.step (f := fun k => (quarterdeckref03_in.f k x.f0 x.f1 x.f2 a).bind fun t => if t = true then (if x.f2 = true then quarterdeckref03_many.l0 k l a md ((c + 1 : Nat) : Int) ((i + 1 : Nat) : Int) else if md = true then quarterdeckref03_many.l0 k l a md c ((i + 1 : Nat) : Int) else quarterdeckref03_many.l0 k l a md ((c + 1 : Nat) : Int) ((i + 1 : Nat) : Int)) else quarterdeckref03_many.l0 k l a md c ((i + 1 : Nat) : Int)) (fun k => ?_) ?_
    · simp only [quarterdeckref03_many.l0]
      rw [if_pos (by omega), if_pos (by omega), rd_nat, hx, w64 (x := (c : Int) + 1) (by omega) (by omega), w64 (x := (i : Int) + 1) (by omega) (by omega)]
      rfl
    · refine Ev.bind (in_ev x a) ?_
      have h1 := ih (i + 1) (c + 1) (by omega) (by omega)
      have h0 := ih (i + 1) c (by omega) (by omega)
      generalize (l.drop (i + 1)).countP (cntB a md) = N at *
      have e1 : c + (N + 1) = c + 1 + N := by omega
      rw [show cntB a md x = (inB x a && (x.f2 || !md)) from rfl]
      cases inB x a <;> cases x.f2 <;> cases md <;> simp only [Bool.and_true, Bool.and_false, Bool.or_true, Bool.or_false, Bool.true_and, Bool.false_and, Bool.not_true, Bool.not_false, Bool.false_eq_true, if_true, if_false, Nat.add_zero] <;> first | exact h0 | (rw [e1]; exact h1)
theorem many_ev (l : List S) (hl : l.length ≤ 1000) (a : Int) (md : Bool) : Ev (fun k => quarterdeckref03_many.f k l a md) ((l.countP (cntB a md) : Nat) : Int) := by
  have h := many_l0 l hl a md l.length 0 0 (by omega) (by omega)
  rw [List.drop_zero, Nat.zero_add] at h
  exact h
/-- What the reference says of a touch. -/
def refN (n : Nat) (l : List S) (a : Int) (md : Bool) : Int := if a < 0 ∨ (n : Int) ≤ a then 4 else if l.countP (cntB a md) = 0 then 6 else 0
theorem touch_ev (m : List Int) (l : List S) (hl : l.length ≤ 1000) (a : Int) (md : Bool) : Ev (fun k => quarterdeckref03_touch.f k m l a md) (refN m.length l a md) := by
  have hj : ∀ b : Bool, b = decide (a < 0 ∨ (m.length : Int) ≤ a) → Ev (fun k => quarterdeckref03_touch.j0 k l a md b) (refN m.length l a md) := by
    intro b hb
    unfold refN
    by_cases h : a < 0 ∨ (m.length : Int) ≤ a
    · rw [decide_eq_true h] at hb
      subst hb
      rw [if_pos h]
      refine Ev.step (f := fun _ => some 4) (fun k => ?_) (Ev.now _)
      simp [quarterdeckref03_touch.j0]
    · rw [decide_eq_false h] at hb
      subst hb
      rw [if_neg h]
      refine Ev.step (f := fun k => (quarterdeckref03_many.f k l a md).bind fun t => if t = 0 then some 6 else some 0) (fun k => ?_) ?_
      · simp [quarterdeckref03_touch.j0]
      · refine Ev.bind (many_ev l hl a md) ?_
        by_cases h0 : l.countP (cntB a md) = 0
        · rw [h0]; exact Ev.now _
        · rw [if_neg (by omega), if_neg h0]; exact Ev.now _
  unfold quarterdeckref03_touch.f
  by_cases h : a < 0
  · simp only [if_pos h]; exact hj true (by simp [h])
  · simp only [if_neg h]; exact hj _ (by simp [h])
/-- A region's word, where it may be touched, as the reference asks. -/
theorem hasB_in (x : S) (a : Int) (ha : 0 ≤ a) (ha2 : a ≤ 9223372036854775807) (h1 : x.f1 ≤ 200) (h2 : x.f0 < 1000) : hasB (rg_ x) a = inB x a := by
  unfold hasB inB rg_
  simp only
  by_cases h0 : 0 ≤ x.f0
  · by_cases h3 : x.f0 ≤ a
    · rw [w64 (by omega) (by omega)]
      simp only [h0, h3, h2, decide_true, Bool.true_and]
      by_cases h4 : a - x.f0 < x.f1
      · simp [h4]; omega
      · simp [h4]
    · simp [h3]
  · simp [h0]
theorem any_cnt (l : List S) (a : Int) (md : Bool) (ha : 0 ≤ a) (ha2 : a ≤ 9223372036854775807) (hf : ∀ x ∈ l, x.f1 ≤ 200 ∧ x.f0 < 1000) : (l.map rg_).any (mayB a md) = !decide (l.countP (cntB a md) = 0) := by
  induction l with
  | nil => simp
  | cons x l ih =>
    have hx := hf x (by simp)
    rw [List.map_cons, List.any_cons, ih (fun y hy => hf y (by simp [hy])), List.countP_cons]
    have e : mayB a md (rg_ x) = cntB a md x := by
      unfold mayB cntB
      rw [hasB_in x a ha ha2 hx.1 hx.2]
      rfl
    rw [e]
    cases cntB a md x <;> simp
theorem wrong_ref (n : Nat) (l : List S) (a : Int) (md : Bool) (hn : n ≤ 1000) (hf : ∀ x ∈ l, x.f1 ≤ 200 ∧ x.f0 < 1000) : wrongN n (l.map rg_) a md = refN n l a md := by
  unfold wrongN refN
  by_cases h : a < 0 ∨ (n : Int) ≤ a
  · rw [if_pos h, if_pos h]
  · rw [if_neg h, if_neg h, any_cnt l a md (by omega) (by omega) hf]
    by_cases h0 : l.countP (cntB a md) = 0
    · simp [h0]
    · simp [h0]
theorem few_l0 (l : List S) (hl : l.length ≤ 20) (d : Nat) : ∀ i : Nat, i + d = l.length → Ev (fun k => quarterdecklaw03_Few.l0 k l i) ((l.drop i).all fun x => decide (x.f1 ≤ 200) && decide (x.f0 < 1000)) := by
  induction d with
  | zero =>
    intro i hi
    rw [List.drop_eq_nil_of_le (by omega)]
    refine Ev.step (f := fun _ => some true) (fun k => ?_) (Ev.now _)
    simp only [quarterdecklaw03_Few.l0]
    rw [if_neg (by omega)]
  | succ d ih =>
    intro i hi
    have hlt : i < l.length := by omega
    rw [drop_getD l i hlt, List.all_cons]
    generalize hx : l.getD i z25 = x
    by_cases h1 : x.f1 > 200
    · refine Ev.step (f := fun _ => some false) (fun k => ?_) ?_
      · simp only [quarterdecklaw03_Few.l0]
        rw [if_pos (by omega), if_pos (by omega), rd_nat, hx, if_pos h1]
      · rw [show decide (x.f1 ≤ 200) = false from decide_eq_false (by omega)]; exact Ev.now _
    · by_cases h2 : x.f0 ≥ 1000
      · refine Ev.step (f := fun _ => some false) (fun k => ?_) ?_
        · simp only [quarterdecklaw03_Few.l0]
          rw [if_pos (by omega), if_pos (by omega), rd_nat, hx, if_neg h1, if_pos h2]
        · rw [show decide (x.f0 < 1000) = false from decide_eq_false (by omega), Bool.and_false]; exact Ev.now _
      · refine Ev.step (f := fun k => quarterdecklaw03_Few.l0 k l ((i + 1 : Nat) : Int)) (fun k => ?_) ?_
        · simp only [quarterdecklaw03_Few.l0]
          rw [if_pos (by omega), if_pos (by omega), rd_nat, hx, if_neg h1, if_neg h2, w64 (x := (i : Int) + 1) (by omega) (by omega)]
          rfl
        · rw [show decide (x.f1 ≤ 200) = true from decide_eq_true (by omega), show decide (x.f0 < 1000) = true from decide_eq_true (by omega)]
          exact ih (i + 1) (by omega)
def fewB (m : List Int) (l : List S) : Bool := decide (m.length ≤ 200) && decide (l.length ≤ 20) && l.all fun x => decide (x.f1 ≤ 200) && decide (x.f0 < 1000)
theorem few_ev (m : List Int) (l : List S) : Ev (fun k => quarterdecklaw03_Few.f k m l) (fewB m l) := by
  have ht : Ev (fun k => quarterdecklaw03_Few.j0 k l true) false := by
    refine Ev.step (f := fun _ => some false) (fun k => ?_) (Ev.now _)
    simp [quarterdecklaw03_Few.j0]
  unfold quarterdecklaw03_Few.f fewB
  by_cases h : m.length ≤ 200
  · simp only [if_neg (show ¬ (m.length : Int) > 200 by omega)]
    by_cases h2 : l.length ≤ 20
    · rw [show decide ((l.length : Int) > 20) = false from decide_eq_false (by omega), decide_eq_true h, decide_eq_true h2]
      refine Ev.step (f := fun k => quarterdecklaw03_Few.l0 k l ((0 : Nat) : Int)) (fun k => ?_) ?_
      · simp [quarterdecklaw03_Few.j0]
      · have := few_l0 l h2 l.length 0 (by omega)
        simpa using this
    · rw [show decide ((l.length : Int) > 20) = true from decide_eq_true (by omega), decide_eq_false h2]
      simpa using ht
  · simp only [if_pos (show (m.length : Int) > 200 by omega)]
    rw [decide_eq_false h]
    simpa using ht
theorem refload_ev (m : List Int) (l : List S) (hl : l.length ≤ 1000) (a : Int) :
    Ev (fun k => quarterdeckref03_Load.f k m l a) (if refN m.length l a false = 0 then rd m a else 0, refN m.length l a false) := by
  unfold quarterdeckref03_Load.f
  refine Ev.bind (touch_ev m l hl a false) ?_
  by_cases h : refN m.length l a false = 0
  · have ha : 0 ≤ a ∧ a < m.length := by
      unfold refN at h
      by_cases h1 : a < 0 ∨ (m.length : Int) ≤ a
      · rw [if_pos h1] at h; omega
      · omega
    rw [if_pos h, if_pos h, if_pos ha.1, if_pos ha.2, h]; exact Ev.now _
  · rw [if_neg h, if_neg h]; exact Ev.now _
theorem refstore_ev (m : List Int) (hm : m.length ≤ 1000) (l : List S) (hl : l.length ≤ 1000) (a v : Int) :
    Ev (fun k => quarterdeckref03_Store.f k m l a v) (if refN m.length l a true = 0 then m.set a.toNat v else [], refN m.length l a true) := by
  unfold quarterdeckref03_Store.f
  refine Ev.bind (touch_ev m l hl a true) ?_
  by_cases h : refN m.length l a true = 0
  · have ha : 0 ≤ a ∧ a < m.length := by
      unfold refN at h
      by_cases h1 : a < 0 ∨ (m.length : Int) ≤ a
      · rw [if_pos h1] at h; omega
      · omega
    rw [if_pos h, if_pos h, if_pos (by simp; omega), h]
    simp only [List.nil_append, Option.bind_some]
    rw [if_pos ha.1, if_pos ha.2]; exact Ev.now _
  · rw [if_neg h, if_neg h]; exact Ev.now _
end
section
open Go.Proofs.YtlphgnfjemaliaaDoor.Instr
theorem kind0 : ∀ o : Fin 20, kindN o.val 0 = 0 ∨ kindN o.val 0 = 1 := by decide
theorem lohi_all : ∀ k : Fin 5, -549755813888 ≤ (boundsT.getD k.val []).getD 0 0 ∧ (boundsT.getD k.val []).getD 1 0 ≤ 549755813888 := by decide
theorem may_facts {op a b : Int} (h : mayB op a b = true) : 0 ≤ op ∧ op < 20 ∧ 0 ≤ a ∧ a ≤ 3 ∧ -549755813888 ≤ b ∧ b ≤ 549755813888 := by
  unfold mayB at h
  simp only [Bool.and_eq_true, decide_eq_true_eq] at h
  obtain ⟨⟨⟨h0, h1⟩, h2⟩, h3⟩ := h
  have h4 : 0 ≤ a ∧ a ≤ 3 := by
    rcases kind0 ⟨op.toNat, by omega⟩ with hk | hk <;> (simp only at hk; rw [hk] at h2; simp [fitsB, boundsT] at h2; omega)
  have hk := (kind_ok ⟨op.toNat, by omega⟩ ⟨1, by omega⟩).2
  have hh := lohi_all ⟨kindN op.toNat 1, hk⟩
  unfold fitsB at h3
  simp only [Bool.and_eq_true, decide_eq_true_eq] at h3
  simp only at hh
  omega
theorem refmay_at (op a b : Int) : quarterdeckref04_May.f 5 op a b = some (mayB op a b) := by
  unfold quarterdeckref04_May.f
  have r : ∀ x, quarterdeckref04_register.f x = some (decide (0 ≤ x ∧ x < 4)) := by
    intro x
    unfold quarterdeckref04_register.f
    by_cases h : x ≥ 0
    · rw [if_pos h]; simp [h]
    · rw [if_neg h]; simp; omega
  simp only [r, Option.bind_some]
  by_cases ho : 0 ≤ op ∧ op < 20
  · have hc : op = 0 ∨ op = 1 ∨ op = 2 ∨ op = 3 ∨ op = 4 ∨ op = 5 ∨ op = 6 ∨ op = 7 ∨ op = 8 ∨ op = 9 ∨ op = 10 ∨ op = 11 ∨ op = 12 ∨ op = 13 ∨ op = 14 ∨ op = 15 ∨ op = 16 ∨ op = 17 ∨ op = 18 ∨ op = 19 := by omega
    rcases hc with rfl | rfl | rfl | rfl | rfl | rfl | rfl | rfl | rfl | rfl | rfl | rfl | rfl | rfl | rfl | rfl | rfl | rfl | rfl | rfl <;>
    (simp [quarterdeckref04_May.j0, quarterdeckref04_May.j1, quarterdeckref04_May.j2, mayB, fitsB, kindN, kindsT, boundsT]
     repeat' split
     all_goals first | omega | (simp; done) | (simp; omega) | (rw [Bool.eq_iff_iff]; simp; omega) | (simp_all; done) | (simp_all; first | omega | (intros; omega) | (rw [Bool.eq_iff_iff]; simp; omega)))
  · have hm : mayB op a b = false := by
      rw [Bool.eq_false_iff]
      intro h
      have := may_facts h
      omega
    rw [hm]
    have n : ∀ k : Int, 0 ≤ k → k < 20 → ¬ op = k := by omega
    simp [quarterdeckref04_May.j0, quarterdeckref04_May.j1, quarterdeckref04_May.j2, n 0, n 1, n 2, n 3, n 4, n 5, n 6, n 7, n 8, n 9, n 10, n 11, n 12, n 13, n 14, n 15, n 16, n 17, n 18, n 19]
theorem refmay_ev (op a b : Int) : Ev (fun k => quarterdeckref04_May.f k op a b) (mayB op a b) := Ev.of (fun k => quarterdeckref04_May.mono op a b k) (refmay_at op a b)
end

/-- What reckon comes to. -/
def recV (op x y b : Int) : Int × Int :=
  if op = 1 then (b, 0) else if op = 2 then (y, 0) else if op = 3 then (wrap64 (x + y), 0) else if op = 4 then (wrap64 (x - y), 0) else if op = 5 then (wrap64 (x * y), 0) else if op = 6 then Div.divI x y
  else if op = 7 then (CpuA.bitI (decide (x < y)), 0) else if op = 12 then (halfX x, 0) else if op = 13 then (twiceX x, 0) else if op = 14 then (flipX x, 0) else if op = 16 then (ofX x, 0) else if op = 17 then (wholeX x, 0)
  else if op = 15 then (CpuA.bitI (belowX x y), 0) else (x, 0)
theorem rbit (b : Bool) : quarterdeckref05_bit.f b = some (CpuA.bitI b) := by cases b <;> rfl
theorem reckon_ev (op x y b : Int) (hx : In64 x) (hy : In64 y) : Ev (fun k => quarterdeckref05_reckon.f k op x y b) (recV op x y b) := by
  unfold quarterdeckref05_reckon.f recV
  simp only [refdiv_eq, rbit, rhalf hx, rtwice hx, rflip hx, rbelow hx hy, quarterdeckref02_Of.f, Option.bind_some]
  by_cases h1 : op = 1
  · simp only [if_pos h1]
    exact Ev.now _
  simp only [if_neg h1]
  by_cases h2 : op = 2
  · simp only [if_pos h2]
    exact Ev.now _
  simp only [if_neg h2]
  by_cases h3 : op = 3
  · simp only [if_pos h3]
    exact Ev.now _
  simp only [if_neg h3]
  by_cases h4 : op = 4
  · simp only [if_pos h4]
    exact Ev.now _
  simp only [if_neg h4]
  by_cases h5 : op = 5
  · simp only [if_pos h5]
    exact Ev.now _
  simp only [if_neg h5]
  by_cases h6 : op = 6
  · simp only [if_pos h6]
    exact Ev.now _
  simp only [if_neg h6]
  by_cases h7 : op = 7
  · simp only [if_pos h7]
    exact Ev.now _
  simp only [if_neg h7]
  by_cases h12 : op = 12
  · simp only [if_pos h12]
    exact Ev.now _
  simp only [if_neg h12]
  by_cases h13 : op = 13
  · simp only [if_pos h13]
    exact Ev.now _
  simp only [if_neg h13]
  by_cases h14 : op = 14
  · simp only [if_pos h14]
    exact Ev.now _
  simp only [if_neg h14]
  by_cases h16 : op = 16
  · simp only [if_pos h16]
    exact Ev.now _
  simp only [if_neg h16]
  by_cases h17 : op = 17
  · simp only [if_pos h17]
    exact Ev.bind (rwhole hx) (Ev.now _)
  simp only [if_neg h17]
  by_cases h15 : op = 15
  · simp only [if_pos h15]
    exact Ev.now _
  simp only [if_neg h15]
  exact Ev.now _
end Go.Proofs.YtlphgnfjemaliaaDoor.PureC

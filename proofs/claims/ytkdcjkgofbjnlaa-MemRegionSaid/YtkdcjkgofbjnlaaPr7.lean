/- Go functions of this seat as Lean functions, each with the proof that its call comes to just that, and the rows over them; written by a program of this session (wip/given_print.py); the conditions are the premises that each theorem names. -/
import Derived.Test.YtkdcjkgofbjnlaaPr0
import Derived.Test.YtkdcjkgofbjnlaaPr1
import Derived.Test.YtkdcjkgofbjnlaaPr4
namespace Go.Proofs.Ytkdcjkgofbjnlaa.Pr
open Go.RowKit Go.Proofs.YtkdcjkgofbjnlaaW.PrintWords Go.Proofs.YtkdcjkgofbjnlaaW.PrintLast Go.Proofs.YtkdcjkgofbjnlaaW.PrintMore
attribute [local go_sem] max2_int min2_int max_two min_two max_three min_three max_four min_four   -- for this text's walks alone
set_option linter.unusedVariables false
set_option linter.unusedSimpArgs false

/-! ### quarterdecklaw03_MemRegion: function 8 -/
mutual
def quarterdecklaw03_MemRegion.j0 : Nat → List Int → Bool → List (S26) → Bool → Int → Int → Bool → Option (Bool)
  | 0, _, _, _, _, _, _, _ => none
  | k + 1, x0, x5, x6, x29, x201000, x201001, x201002 => if x29 = true then (some x5) else (quarterdecklaw03_MemRegion.l0 k x0 x6 0 0 x201000 x201001 x201002)
def quarterdecklaw03_MemRegion.l0 : Nat → List Int → List (S26) → Int → Int → Int → Int → Bool → Option (Bool)
  | 0, _, _, _, _, _, _, _ => none
  | k + 1, x0, x6, x7, x8, x201000, x201001, x201002 => if x8 < (x0.length : Int) then ((mem_Load.f x0 x6 x8).bind fun bt206 => ((mem_Store.f x0 x6 x8 0).bind fun bt208 => (if x8 ≥ x201000 then (if ((bt206.2 == 0) != (decide (x8 < (wrap64 (x201000 + x201001))))) = true then (quarterdecklaw03_MemRegion.j2 k x0 x6 x7 x8 bt206.2 true x201000 x201001 x201002) else (if bt206.2 = 0 then (quarterdecklaw03_MemRegion.j2 k x0 x6 x7 x8 bt206.2 ((bt208.2 == 0) != x201002) x201000 x201001 x201002) else (quarterdecklaw03_MemRegion.j2 k x0 x6 x7 x8 bt206.2 ((bt208.2 == 0) != false) x201000 x201001 x201002))) else (if ((bt206.2 == 0) != false) = true then (quarterdecklaw03_MemRegion.j2 k x0 x6 x7 x8 bt206.2 true x201000 x201001 x201002) else (if bt206.2 = 0 then (quarterdecklaw03_MemRegion.j2 k x0 x6 x7 x8 bt206.2 ((bt208.2 == 0) != x201002) x201000 x201001 x201002) else (quarterdecklaw03_MemRegion.j2 k x0 x6 x7 x8 bt206.2 ((bt208.2 == 0) != false) x201000 x201001 x201002)))))) else (some (x7 == x201001))
def quarterdecklaw03_MemRegion.j2 : Nat → List Int → List (S26) → Int → Int → Int → Bool → Int → Int → Bool → Option (Bool)
  | 0, _, _, _, _, _, _, _, _, _ => none
  | k + 1, x0, x6, x7, x8, x10, x77, x201000, x201001, x201002 => if x77 = true then (some false) else (if x10 = 0 then (quarterdecklaw03_MemRegion.l0 k x0 x6 (wrap64 (x7 + 1)) (wrap64 (x8 + 1)) x201000 x201001 x201002) else (quarterdecklaw03_MemRegion.l0 k x0 x6 x7 (wrap64 (x8 + 1)) x201000 x201001 x201002))
end
def quarterdecklaw03_MemRegion.f (k : Nat) (l0 : List Int) (a1_0 : Int) (a1_1 : Int) (a1_2 : Bool) : Option (Bool) := (quarterdecklaw03_awake.f).bind fun t201 => ((some (([(⟨a1_0, a1_1, a1_2⟩ : S26)] : List (S26)) : List (S26))).bind fun y202 => (if t201 = true then (if (l0.length : Int) > 64 then (quarterdecklaw03_MemRegion.j0 k l0 t201 y202 true a1_0 a1_1 a1_2) else ((mem_May.f y202 (l0.length : Int)).bind fun t205 => (quarterdecklaw03_MemRegion.j0 k l0 t201 y202 (!t205) a1_0 a1_1 a1_2))) else (quarterdecklaw03_MemRegion.j0 k l0 t201 y202 true a1_0 a1_1 a1_2)))
theorem quarterdecklaw03_MemRegion.mono_l : ∀ k, (∀ y0 y1 y2 y3 y4 y5 y6, LeO (quarterdecklaw03_MemRegion.j0 k y0 y1 y2 y3 y4 y5 y6) (quarterdecklaw03_MemRegion.j0 (k + 1) y0 y1 y2 y3 y4 y5 y6)) ∧ (∀ y0 y1 y2 y3 y4 y5 y6, LeO (quarterdecklaw03_MemRegion.l0 k y0 y1 y2 y3 y4 y5 y6) (quarterdecklaw03_MemRegion.l0 (k + 1) y0 y1 y2 y3 y4 y5 y6)) ∧ (∀ y0 y1 y2 y3 y4 y5 y6 y7 y8, LeO (quarterdecklaw03_MemRegion.j2 k y0 y1 y2 y3 y4 y5 y6 y7 y8) (quarterdecklaw03_MemRegion.j2 (k + 1) y0 y1 y2 y3 y4 y5 y6 y7 y8))
  | 0 => ⟨fun _ _ _ _ _ _ _ r h => by simp [quarterdecklaw03_MemRegion.j0] at h, fun _ _ _ _ _ _ _ r h => by simp [quarterdecklaw03_MemRegion.l0] at h, fun _ _ _ _ _ _ _ _ _ r h => by simp [quarterdecklaw03_MemRegion.j2] at h⟩
  | k + 1 => by
    obtain ⟨ih0, ih1, ih2⟩ := quarterdecklaw03_MemRegion.mono_l k
    refine ⟨?_, ?_, ?_⟩
    · intro y0 y1 y2 y3 y4 y5 y6
      unfold quarterdecklaw03_MemRegion.j0
      repeat' first
      | (with_reducible exact ih0 _ _ _ _ _ _ _)
      | (with_reducible exact ih1 _ _ _ _ _ _ _)
      | (with_reducible exact ih2 _ _ _ _ _ _ _ _ _)
      | (with_reducible exact LeO.refl _)
      | (with_reducible exact LeO.none _)
      | (with_reducible refine LeO.ite ?_ ?_)
      | (with_reducible refine LeO.bind ?_ (fun _ => ?_))
      | exact ih0 _ _ _ _ _ _ _
      | exact ih1 _ _ _ _ _ _ _
      | exact ih2 _ _ _ _ _ _ _ _ _
      | exact LeO.none _
      | refine LeO.ite ?_ ?_
      | refine LeO.bind ?_ (fun _ => ?_)
    · intro y0 y1 y2 y3 y4 y5 y6
      unfold quarterdecklaw03_MemRegion.l0
      repeat' first
      | (with_reducible exact ih0 _ _ _ _ _ _ _)
      | (with_reducible exact ih1 _ _ _ _ _ _ _)
      | (with_reducible exact ih2 _ _ _ _ _ _ _ _ _)
      | (with_reducible exact LeO.refl _)
      | (with_reducible exact LeO.none _)
      | (with_reducible refine LeO.ite ?_ ?_)
      | (with_reducible refine LeO.bind ?_ (fun _ => ?_))
      | exact ih0 _ _ _ _ _ _ _
      | exact ih1 _ _ _ _ _ _ _
      | exact ih2 _ _ _ _ _ _ _ _ _
      | exact LeO.none _
      | refine LeO.ite ?_ ?_
      | refine LeO.bind ?_ (fun _ => ?_)
    · intro y0 y1 y2 y3 y4 y5 y6 y7 y8
      unfold quarterdecklaw03_MemRegion.j2
      repeat' first
      | (with_reducible exact ih0 _ _ _ _ _ _ _)
      | (with_reducible exact ih1 _ _ _ _ _ _ _)
      | (with_reducible exact ih2 _ _ _ _ _ _ _ _ _)
      | (with_reducible exact LeO.refl _)
      | (with_reducible exact LeO.none _)
      | (with_reducible refine LeO.ite ?_ ?_)
      | (with_reducible refine LeO.bind ?_ (fun _ => ?_))
      | exact ih0 _ _ _ _ _ _ _
      | exact ih1 _ _ _ _ _ _ _
      | exact ih2 _ _ _ _ _ _ _ _ _
      | exact LeO.none _
      | refine LeO.ite ?_ ?_
      | refine LeO.bind ?_ (fun _ => ?_)
theorem quarterdecklaw03_MemRegion.mono : ∀ a0 a1 a2 a3 k, LeO (quarterdecklaw03_MemRegion.f k a0 a1 a2 a3) (quarterdecklaw03_MemRegion.f (k + 1) a0 a1 a2 a3) := by
  intro a0 a1 a2 a3 k
  obtain ⟨ih0, ih1, ih2⟩ := quarterdecklaw03_MemRegion.mono_l k
  unfold quarterdecklaw03_MemRegion.f
  repeat' first
      | (with_reducible exact ih0 _ _ _ _ _ _ _)
      | (with_reducible exact ih1 _ _ _ _ _ _ _)
      | (with_reducible exact ih2 _ _ _ _ _ _ _ _ _)
      | (with_reducible exact LeO.refl _)
      | (with_reducible exact LeO.none _)
      | (with_reducible refine LeO.ite ?_ ?_)
      | (with_reducible refine LeO.bind ?_ (fun _ => ?_))
      | exact ih0 _ _ _ _ _ _ _
      | exact ih1 _ _ _ _ _ _ _
      | exact ih2 _ _ _ _ _ _ _ _ _
      | exact LeO.none _
      | refine LeO.ite ?_ ?_
      | refine LeO.bind ?_ (fun _ => ?_)
set_option maxHeartbeats 8000000 in
set_option maxRecDepth 100000 in
theorem quarterdecklaw03_MemRegion.calls (k : Nat) (A0 : Option Addr) (c0 : Nat) (l0 : List Int) (a1_0 : Int) (a1_1 : Int) (a1_2 : Bool) (r : Bool) (w : World) (hr0 : Kd.C (Kd.int .i64) w A0 l0.length l0) (hc0 : l0.length ≤ c0) (h : quarterdecklaw03_MemRegion.f k l0 a1_0 a1_1 a1_2 = some r) :
    Calls Try.prog 8 #[.slice A0 l0.length c0, .agg #[.int .i64 a1_0, .int .i64 a1_1, .bool a1_2]] w fun e w' => e = .returned (.bool r) ∧ Below w.heap.size w w' := by
  have hu26 := Try.underlying26
  have HR0 := Aside0.mk hr0
  have HC0 := Aside0.mk hc0
  clear hr0 hc0
  have HB := Aside0.mk (Below.refl w.heap.size w)
  have H : ((quarterdecklaw03_awake.f).bind fun t201 => ((some (([(⟨a1_0, a1_1, a1_2⟩ : S26)] : List (S26)) : List (S26))).bind fun y202 => (if t201 = true then (if (l0.length : Int) > 64 then (quarterdecklaw03_MemRegion.j0 k l0 t201 y202 true a1_0 a1_1 a1_2) else ((mem_May.f y202 (l0.length : Int)).bind fun t205 => (quarterdecklaw03_MemRegion.j0 k l0 t201 y202 (!t205) a1_0 a1_1 a1_2))) else (quarterdecklaw03_MemRegion.j0 k l0 t201 y202 true a1_0 a1_1 a1_2)))) = some r := h
  clear h
  replace H := Option.bind_eq_some_iff.mp H
  obtain ⟨t201, A30, H⟩ := H
  replace H : ((some (([(⟨a1_0, a1_1, a1_2⟩ : S26)] : List (S26)) : List (S26))).bind fun y202 => (if t201 = true then (if (l0.length : Int) > 64 then (quarterdecklaw03_MemRegion.j0 k l0 t201 y202 true a1_0 a1_1 a1_2) else ((mem_May.f y202 (l0.length : Int)).bind fun t205 => (quarterdecklaw03_MemRegion.j0 k l0 t201 y202 (!t205) a1_0 a1_1 a1_2))) else (quarterdecklaw03_MemRegion.j0 k l0 t201 y202 true a1_0 a1_1 a1_2))) = some r := H
  have A3 := Aside0.mk A30
  clear A30
  obtain ⟨y202, hy202⟩ : ∃ y_ : List (S26), y_ = (([(⟨a1_0, a1_1, a1_2⟩ : S26)] : List (S26))) := ⟨_, rfl⟩
  replace H : (if t201 = true then (if (l0.length : Int) > 64 then (quarterdecklaw03_MemRegion.j0 k l0 t201 y202 true a1_0 a1_1 a1_2) else ((mem_May.f y202 (l0.length : Int)).bind fun t205 => (quarterdecklaw03_MemRegion.j0 k l0 t201 y202 (!t205) a1_0 a1_1 a1_2))) else (quarterdecklaw03_MemRegion.j0 k l0 t201 y202 true a1_0 a1_1 a1_2)) = some r := by first | (rw [hy202]; with_reducible exact H) | (have H2_ := (Option.bind_some _ _).symm.trans H; rw [hy202]; with_reducible exact H2_) | (have H2_ := (Option.bind_some _ _).symm.trans H; with_reducible exact H2_) | with_reducible exact H | (rw [hy202]; exact H) | exact H
  have Ny202 := Aside0.mk hy202
  clear hy202
  have HC4 := Aside0.mk H
  clear H
  go_enter Try.func8, Try.ntmps8
  go_upto_region 3 with (first | ((with_reducible refine gate_dst (N := 3) rfl ?_); (try (refine gate_guard (by rfl) ?_; dsimp only)); refine box_event ?hg (N := 3) ?hd (cs := #[.int .i64 a1_0, .int .i64 a1_1, .bool a1_2]) (t := 26) ?hr ?_; (case hd => rfl); (case hg => rfl); (case hr => first | (go_simp; done) | (go_simp; rfl)); intro gb200 hg w5 hbox hb; have n0_ := Aside0.mk (below_step (by repeat (first | (with_reducible first | exact HB.out | apply below_alloc | apply pw_below_drewN | apply below_drew1) | exact HB.out)) hb); have n1_ := Aside0.mk (hbox); have n2_ := Aside0.mk ((by rw [hg]; exact (below_size (by repeat (first | (with_reducible first | exact HB.out | apply below_alloc | apply pw_below_drewN | apply below_drew1) | exact HB.out))) : w.heap.size ≤ gb200)); have n3_ := Aside0.mk ((by rw [hg]; exact (below_size (by repeat (first | (with_reducible first | exact HB.out | apply below_alloc | apply pw_below_drewN | apply below_drew1) | exact HB.out))) : w.heap.size ≤ gb200)); clear HB; have HB := n0_; have BK200 := n1_; have GW200 := n2_; have GE200 := n3_; clear n0_ n1_ n2_ n3_; clear hb hbox hg) | ((with_reducible refine gate_callee (f := 9) rfl ?_); refine goesL_ (some 13) rfl rfl Try.func9 (by kernel_rfl) rfl #[] rfl (by (try simp only [List.map_toArray, List.map_cons, List.map_nil]); first | done | rfl | (simp only [List.length_drop, List.length_take]; rfl)) ?_; (with_reducible refine (quarterdecklaw03_awake.calls  t201 _ A3.out).mono ?_); rintro e w6 ⟨rfl, hb⟩; refine ⟨_, rfl, ?_⟩; have n0_ := Aside0.mk (blk_below (g := gb200) (o := .cells #[.int .i64 a1_0, .int .i64 a1_1, .bool a1_2] 26 (0, 0)) (by (with_reducible repeat (first | refine blk_drewN ?_ _ | refine blk_drew ?_ | refine blk_alloc ?_ _)); exact BK200.out) hb); have n1_ := Aside0.mk (below_step (by repeat (first | (with_reducible first | exact HB.out | apply below_alloc | apply pw_below_drewN | apply below_drew1 | refine below_set ?_ GE200.out) | exact HB.out)) hb); clear BK200; clear HB; have BK200 := n0_; have HB := n1_; clear n0_ n1_; (try clear hb); (try clear hb2); (try clear hk); (try clear hi); have hcz7_0 : w6.cell? ⟨gb200, 0, none⟩ = some (.int .i64 a1_0) := (blk_cell BK200.out 0).trans rfl; have hcz7_1 : w6.cell? ⟨gb200, 1, none⟩ = some (.int .i64 a1_1) := (blk_cell BK200.out 1).trans rfl; have hcz7_2 : w6.cell? ⟨gb200, 2, none⟩ = some (.bool a1_2) := (blk_cell BK200.out 2).trans rfl; have hfz7_0 := blk_frozen BK200.out 0; have hfz7_1 := blk_frozen BK200.out 1; have hfz7_2 := blk_frozen BK200.out 2) | ((with_reducible refine gate_dst (N := 15) rfl ?_); (try (refine gate_guard (by rfl) ?_; dsimp only)); refine Kd.R_lit k26 _ 26 ?hg (N := 15) ?hd (xs := ([(⟨a1_0, a1_1, a1_2⟩ : S26)] : List (S26))) (inner := [.int .i64 a1_0, .int .i64 a1_1, .bool a1_2]) (ok := fun _ => True) (okp := fun _ => True) ?hr ?hp (fun _ hk => hk) trivial (Below.refl _ _) (Nat.le_refl _) (by simp) ?_; (case hd => rfl); (case hg => rfl); (case hr => first | (go_simp; done) | (go_simp; rfl)); (case hp => exact (Reps.c3 (show Kd.M k26 _ _ _ (⟨a1_0, a1_1, a1_2⟩ : S26) [.int .i64 a1_0, .int .i64 a1_1, .bool a1_2] from (k26_mkM _ _ _ (⟨a1_0, a1_1, a1_2⟩ : S26) )) (Reps.none _ _))); intro v203 w8 ho9 hb hg_ hnew_; clear hg_ hnew_; (first | rw [← Ny202.out] at ho9 | (simp only [Int.reduceToNat] at ho9; rw [← Ny202.out] at ho9)); have n0_ := Aside0.mk (Kd.R_lower (Kd.R_newB ho9 (g := gb200) (o := .cells #[.int .i64 a1_0, .int .i64 a1_1, .bool a1_2] 26 (0, 0)) (by (with_reducible repeat (first | refine blk_drewN ?_ _ | refine blk_drew ?_ | refine blk_alloc ?_ _)); exact BK200.out)) (below_size (by repeat (first | (with_reducible first | exact HB.out | apply below_alloc | apply pw_below_drewN | apply below_drew1 | refine below_set ?_ GE200.out) | exact HB.out)))); have n1_ := Aside0.mk (blk_below (g := gb200) (o := .cells #[.int .i64 a1_0, .int .i64 a1_1, .bool a1_2] 26 (0, 0)) (by (with_reducible repeat (first | refine blk_drewN ?_ _ | refine blk_drew ?_ | refine blk_alloc ?_ _)); exact BK200.out) hb); have n2_ := Aside0.mk (below_step (by repeat (first | (with_reducible first | exact HB.out | apply below_alloc | apply pw_below_drewN | apply below_drew1 | refine below_set ?_ GE200.out) | exact HB.out)) hb); clear BK200; clear HB; have HO204 := n0_; have BK200 := n1_; have HB := n2_; clear n0_ n1_ n2_; clear hb ho9))
  (try simp only [Act.put, List.setIfInBounds_toArray, List.set_cons_zero, List.set_cons_succ])
  go_cut [29] (fun v29 wc => ∃ (kq : Nat) (x29_3 : Bool), v29 = .bool x29_3 ∧ Aside0 (quarterdecklaw03_MemRegion.j0 kq l0 t201 y202 x29_3 a1_0 a1_1 a1_2 = some r) ∧ Aside0 (kq ≤ k) ∧ Aside0 (Kd.R k26 26 wc w.heap.size (fun k_ => k_ ≠ gb200) v203 y202) ∧ Aside0 (wc.heap[gb200]? = some (.cells #[.int .i64 a1_0, .int .i64 a1_1, .bool a1_2] 26 (0, 0))) ∧ Aside0 (Below w.heap.size w wc))
  case first =>
    have H := HC4.out
    clear HC4
    by_cases c10 : t201 = true
    · subst c10
      have H1 : (if (l0.length : Int) > 64 then (quarterdecklaw03_MemRegion.j0 k l0 true y202 true a1_0 a1_1 a1_2) else ((mem_May.f y202 (l0.length : Int)).bind fun t205 => (quarterdecklaw03_MemRegion.j0 k l0 true y202 (!t205) a1_0 a1_1 a1_2))) = some r := by rw [if_pos rfl] at H; exact H
      clear H
      have H := H1
      clear H1
      by_cases c11 : (l0.length : Int) > 64
      · rw [if_pos c11] at H
        have c11b0 : decide (64 < (l0.length : Int)) = true := decide_eq_true c11
        have c11b1 : decide (64 < l0.length) = true := decide_eq_true (by omega)
        clear c11
        (first | rw [c11b0] | (simp only [i64_w, i32_w]; rw [c11b0]) | skip)
        have H' := Aside0.mk H
        clear H
        go_wp2
        go_meet
        case rel => exact ⟨_, (true), (by first | rfl | (simp; done) | (simp [*]; done)), H', ⟨by first | omega | exact Nat.le_refl _⟩, ⟨by (with_reducible repeat (first | apply Kd.R_alloc | apply Kd.R_drewN | apply Kd.R_drew)); exact Kd.R_mono HO204.out (fun _ hk => hk.2)⟩, ⟨by (with_reducible repeat (first | refine blk_drewN ?_ _ | refine blk_drew ?_ | refine blk_alloc ?_ _)); exact BK200.out⟩, ⟨by repeat (first | (with_reducible first | exact HB.out | apply below_alloc | apply pw_below_drewN | apply below_drew1 | refine below_set ?_ GE200.out) | exact HB.out)⟩⟩
      · rw [if_neg c11] at H
        have c11b0 : decide (64 < (l0.length : Int)) = false := decide_eq_false c11
        have c11b1 : decide (64 < l0.length) = false := decide_eq_false (by omega)
        clear c11
        (first | rw [c11b0] | (simp only [i64_w, i32_w]; rw [c11b0]) | skip)
        replace H := Option.bind_eq_some_iff.mp H
        obtain ⟨t205, A120, H⟩ := H
        replace H : (quarterdecklaw03_MemRegion.j0 k l0 true y202 (!t205) a1_0 a1_1 a1_2) = some r := H
        have A12 := Aside0.mk A120
        clear A120
        have H' := Aside0.mk H
        clear H
        obtain ⟨Ao13, co13, eo13⟩ := Kd.R_slice HO204.out
        subst eo13
        go_wp2_with (first | (go_at_call 10; (with_reducible refine (mem_May.calls _ _ y202 (l0.length : Int) t205 _ ?side1 ?side2 A12.out).mono ?_); (case side1 => repeat (first | exact (Kd.R_reads' HO204.out).2.2 | (with_reducible refine Kd.C_alloc ?_ _) | (with_reducible refine Kd.C_drewN ?_ _) | (with_reducible refine Kd.C_drew ?_))); (case side2 => exact (Kd.R_reads' HO204.out).2.1); rintro e w14 ⟨rfl, hb⟩; have n0_ := Aside0.mk (Kd.R_below (by (with_reducible repeat (first | apply Kd.R_alloc | apply Kd.R_drewN | apply Kd.R_drew)); exact HO204.out) hb); have n1_ := Aside0.mk (blk_below (g := gb200) (o := .cells #[.int .i64 a1_0, .int .i64 a1_1, .bool a1_2] 26 (0, 0)) (by (with_reducible repeat (first | refine blk_drewN ?_ _ | refine blk_drew ?_ | refine blk_alloc ?_ _)); exact BK200.out) hb); have n2_ := Aside0.mk (below_step (by repeat (first | (with_reducible first | exact HB.out | apply below_alloc | apply pw_below_drewN | apply below_drew1 | refine below_set ?_ GE200.out) | exact HB.out)) hb); clear HO204; clear BK200; clear HB; have HO204 := n0_; have BK200 := n1_; have HB := n2_; clear n0_ n1_ n2_; (try clear hb); (try clear hb2); (try clear hk); (try clear hi)))
        go_meet
        case rel => exact ⟨_, (!t205), (by first | rfl | (simp; done) | (simp [*]; done)), H', ⟨by first | omega | exact Nat.le_refl _⟩, ⟨by (with_reducible repeat (first | apply Kd.R_alloc | apply Kd.R_drewN | apply Kd.R_drew)); exact Kd.R_mono HO204.out (fun _ hk => hk.2)⟩, ⟨by (with_reducible repeat (first | refine blk_drewN ?_ _ | refine blk_drew ?_ | refine blk_alloc ?_ _)); exact BK200.out⟩, ⟨by repeat (first | (with_reducible first | exact HB.out | apply below_alloc | apply pw_below_drewN | apply below_drew1 | refine below_set ?_ GE200.out) | exact HB.out)⟩⟩
    · replace c10 := Bool.eq_false_iff.mpr c10
      subst c10
      have H1 : (quarterdecklaw03_MemRegion.j0 k l0 false y202 true a1_0 a1_1 a1_2) = some r := by rw [if_neg (show ¬ (false = true) by decide)] at H; exact H
      clear H
      have H := H1
      clear H1
      have H' := Aside0.mk H
      clear H
      go_wp2
      go_meet
      case rel => exact ⟨_, (true), (by first | rfl | (simp; done) | (simp [*]; done)), H', ⟨by first | omega | exact Nat.le_refl _⟩, ⟨by (with_reducible repeat (first | apply Kd.R_alloc | apply Kd.R_drewN | apply Kd.R_drew)); exact Kd.R_mono HO204.out (fun _ hk => hk.2)⟩, ⟨by (with_reducible repeat (first | refine blk_drewN ?_ _ | refine blk_drew ?_ | refine blk_alloc ?_ _)); exact BK200.out⟩, ⟨by repeat (first | (with_reducible first | exact HB.out | apply below_alloc | apply pw_below_drewN | apply below_drew1 | refine below_set ?_ GE200.out) | exact HB.out)⟩⟩
  case rest =>
    clear HC4
    try clear c1
    try clear p2
    try clear c3
    try clear c8
    try clear c9
    try clear c10
    try clear c11
    try clear c11b0
    try clear c11b1
    try clear hcz7_0
    try clear hcz7_1
    try clear hcz7_2
    try clear hfz7_0
    try clear hfz7_1
    try clear hfz7_2
    obtain ⟨kq, x29_3, rfl, HA, HJ3, HO_6, BK200, HB⟩ := hcut
    cases kq with
    | zero => exact absurd HA.out (by simp [quarterdecklaw03_MemRegion.j0])
    | succ kj3 =>
      have H := HA.out
      clear HA
      simp only [quarterdecklaw03_MemRegion.j0] at H
      by_cases c15 : x29_3 = true
      · subst c15
        have H1 : (some t201) = some r := by rw [if_pos rfl] at H; exact H
        clear H
        have H := H1
        clear H1
        obtain rfl := Option.some.inj H
        go_wp2
        go_ret
        exact ⟨by first | rfl | (simp [errW_none, errW_some] <;> rfl) | (simp [*, errW_none, errW_some] <;> rfl), by repeat (first | (with_reducible first | exact HB.out | apply below_alloc | apply pw_below_drewN | apply below_drew1 | refine below_set ?_ GE200.out) | exact HB.out)⟩
      · replace c15 := Bool.eq_false_iff.mpr c15
        subst c15
        have H1 : (quarterdecklaw03_MemRegion.l0 kj3 l0 y202 0 0 a1_0 a1_1 a1_2) = some r := by rw [if_neg (show ¬ (false = true) by decide)] at H; exact H
        clear H
        have H := H1
        clear H1
        have H' := Aside0.mk H
        clear H
        go_wp2
        go_loopg [7, 8] kj3 (fun kq v7 v8 w' => ∃ (x7_2 : Int) (x8_2 : Int), v7 = .int .i64 x7_2 ∧ v8 = .int .i64 x8_2 ∧ Aside0 (quarterdecklaw03_MemRegion.l0 kq l0 y202 x7_2 x8_2 a1_0 a1_1 a1_2 = some r) ∧ Aside0 (kq ≤ kj3) ∧ Aside0 (Kd.R k26 26 w' w.heap.size (fun k_ => k_ ≠ gb200) v203 y202) ∧ Aside0 (w'.heap[gb200]? = some (.cells #[.int .i64 a1_0, .int .i64 a1_1, .bool a1_2] 26 (0, 0))) ∧ Aside0 (Below w.heap.size w w'))
        case atStart => exact ⟨(0), (0), (by first | rfl | (simp; done) | (simp [*]; done)), (by first | rfl | (simp; done) | (simp [*]; done)), H', ⟨Nat.le_refl _⟩, ⟨by (with_reducible repeat (first | apply Kd.R_alloc | apply Kd.R_drewN | apply Kd.R_drew)); exact HO_6.out⟩, ⟨by (with_reducible repeat (first | refine blk_drewN ?_ _ | refine blk_drew ?_ | refine blk_alloc ?_ _)); exact BK200.out⟩, ⟨by repeat (first | (with_reducible first | exact HB.out | apply below_alloc | apply pw_below_drewN | apply below_drew1 | refine below_set ?_ GE200.out) | exact HB.out)⟩⟩
        case round =>
          clear H'
          try clear c1
          try clear p2
          try clear c3
          try clear c8
          try clear c9
          try clear c10
          try clear c11
          try clear c11b0
          try clear c11b1
          try clear c15
          try clear hcz7_0
          try clear hcz7_1
          try clear hcz7_2
          try clear hfz7_0
          try clear hfz7_1
          try clear hfz7_2
          try clear p2
          obtain ⟨x7_2, x8_2, rfl, rfl, HA, HK2, HO_6, BK200, HB⟩ := hrel
          cases gk with
          | zero => exact absurd HA.out (by simp [quarterdecklaw03_MemRegion.l0])
          | succ k2 =>
            have H := HA.out
            clear HA
            simp only [quarterdecklaw03_MemRegion.l0] at H
            by_cases c16 : x8_2 < (l0.length : Int)
            · rw [if_pos c16] at H
              have c16b0 : decide (x8_2 < (l0.length : Int)) = true := decide_eq_true c16
              clear c16
              replace H := Option.bind_eq_some_iff.mp H
              obtain ⟨⟨t206, t207⟩, A170, H⟩ := H
              replace H : ((mem_Store.f l0 y202 x8_2 0).bind fun bt208 => (if x8_2 ≥ a1_0 then (if ((t207 == 0) != (decide (x8_2 < (wrap64 (a1_0 + a1_1))))) = true then (quarterdecklaw03_MemRegion.j2 k2 l0 y202 x7_2 x8_2 t207 true a1_0 a1_1 a1_2) else (if t207 = 0 then (quarterdecklaw03_MemRegion.j2 k2 l0 y202 x7_2 x8_2 t207 ((bt208.2 == 0) != a1_2) a1_0 a1_1 a1_2) else (quarterdecklaw03_MemRegion.j2 k2 l0 y202 x7_2 x8_2 t207 ((bt208.2 == 0) != false) a1_0 a1_1 a1_2))) else (if ((t207 == 0) != false) = true then (quarterdecklaw03_MemRegion.j2 k2 l0 y202 x7_2 x8_2 t207 true a1_0 a1_1 a1_2) else (if t207 = 0 then (quarterdecklaw03_MemRegion.j2 k2 l0 y202 x7_2 x8_2 t207 ((bt208.2 == 0) != a1_2) a1_0 a1_1 a1_2) else (quarterdecklaw03_MemRegion.j2 k2 l0 y202 x7_2 x8_2 t207 ((bt208.2 == 0) != false) a1_0 a1_1 a1_2))))) = some r := H
              have A17 := Aside0.mk A170
              clear A170
              replace H := Option.bind_eq_some_iff.mp H
              obtain ⟨⟨t208, t209⟩, A180, H⟩ := H
              replace H : (if x8_2 ≥ a1_0 then (if ((t207 == 0) != (decide (x8_2 < (wrap64 (a1_0 + a1_1))))) = true then (quarterdecklaw03_MemRegion.j2 k2 l0 y202 x7_2 x8_2 t207 true a1_0 a1_1 a1_2) else (if t207 = 0 then (quarterdecklaw03_MemRegion.j2 k2 l0 y202 x7_2 x8_2 t207 ((t209 == 0) != a1_2) a1_0 a1_1 a1_2) else (quarterdecklaw03_MemRegion.j2 k2 l0 y202 x7_2 x8_2 t207 ((t209 == 0) != false) a1_0 a1_1 a1_2))) else (if ((t207 == 0) != false) = true then (quarterdecklaw03_MemRegion.j2 k2 l0 y202 x7_2 x8_2 t207 true a1_0 a1_1 a1_2) else (if t207 = 0 then (quarterdecklaw03_MemRegion.j2 k2 l0 y202 x7_2 x8_2 t207 ((t209 == 0) != a1_2) a1_0 a1_1 a1_2) else (quarterdecklaw03_MemRegion.j2 k2 l0 y202 x7_2 x8_2 t207 ((t209 == 0) != false) a1_0 a1_1 a1_2)))) = some r := H
              have A18 := Aside0.mk A180
              clear A180
              have HC19 := Aside0.mk H
              clear H
              obtain ⟨Ao20, co20, eo20⟩ := Kd.R_slice HO_6.out
              subst eo20
              go_upto_region 11 with (first | ((with_reducible refine gate_callee (f := 13) rfl ?_); refine goesL_ (some 41) rfl rfl Try.func13 (by kernel_rfl) rfl #[.slice A0 l0.length c0, .slice Ao20 y202.length co20, .int .i64 x8_2] rfl (by (try simp only [List.map_toArray, List.map_cons, List.map_nil]); first | done | rfl | (simp only [List.length_drop, List.length_take]; rfl)) ?_; (with_reducible refine (mem_Load.calls _ _ l0 _ _ y202 x8_2 t206 t207 _ ?side1 ?side2 ?side3 ?side4 A17.out).mono ?_); (case side1 => repeat (first | exact (Kd.C_below HR0.out HB.out) | (with_reducible refine Kd.C_alloc ?_ _) | (with_reducible refine Kd.C_drewN ?_ _) | (with_reducible refine Kd.C_drew ?_))); (case side2 => exact HC0.out); (case side3 => repeat (first | exact (Kd.R_reads' HO_6.out).2.2 | (with_reducible refine Kd.C_alloc ?_ _) | (with_reducible refine Kd.C_drewN ?_ _) | (with_reducible refine Kd.C_drew ?_))); (case side4 => exact (Kd.R_reads' HO_6.out).2.1); rintro e w21 ⟨rfl, hb⟩; refine ⟨_, rfl, ?_⟩; have n0_ := Aside0.mk (Kd.R_below (by (with_reducible repeat (first | apply Kd.R_alloc | apply Kd.R_drewN | apply Kd.R_drew)); exact HO_6.out) hb); have n1_ := Aside0.mk (blk_below (g := gb200) (o := .cells #[.int .i64 a1_0, .int .i64 a1_1, .bool a1_2] 26 (0, 0)) (by (with_reducible repeat (first | refine blk_drewN ?_ _ | refine blk_drew ?_ | refine blk_alloc ?_ _)); exact BK200.out) hb); have n2_ := Aside0.mk (below_step (by repeat (first | (with_reducible first | exact HB.out | apply below_alloc | apply pw_below_drewN | apply below_drew1 | refine below_set ?_ GE200.out) | exact HB.out)) hb); clear HO_6; clear BK200; clear HB; have HO_6 := n0_; have BK200 := n1_; have HB := n2_; clear n0_ n1_ n2_; (try clear hb); (try clear hb2); (try clear hk); (try clear hi)) | ((with_reducible refine gate_callee (f := 15) rfl ?_); refine goesL_ (some 48) rfl rfl Try.func15 (by kernel_rfl) rfl #[.slice A0 l0.length c0, .slice Ao20 y202.length co20, .int .i64 x8_2, .int .i64 0] rfl (by (try simp only [List.map_toArray, List.map_cons, List.map_nil]); first | done | rfl | (simp only [List.length_drop, List.length_take]; rfl)) ?_; (with_reducible refine (mem_Store.calls _ _ l0 _ _ y202 x8_2 0 t208 t209 _ ?side1 ?side2 ?side3 ?side4 A18.out).mono ?_); (case side1 => repeat (first | exact (Kd.C_below HR0.out HB.out) | (with_reducible refine Kd.C_alloc ?_ _) | (with_reducible refine Kd.C_drewN ?_ _) | (with_reducible refine Kd.C_drew ?_))); (case side2 => exact HC0.out); (case side3 => repeat (first | exact (Kd.R_reads' HO_6.out).2.2 | (with_reducible refine Kd.C_alloc ?_ _) | (with_reducible refine Kd.C_drewN ?_ _) | (with_reducible refine Kd.C_drew ?_))); (case side4 => exact (Kd.R_reads' HO_6.out).2.1); rintro e w22 ⟨v210, rfl, ho0, hb⟩; refine ⟨_, rfl, ?_⟩; have n0_ := Aside0.mk (Kd.R_below (by (with_reducible repeat (first | apply Kd.R_alloc | apply Kd.R_drewN | apply Kd.R_drew)); exact HO_6.out) hb); have n1_ := Aside0.mk (Kd.R_lower ho0 (below_size (by repeat (first | (with_reducible first | exact HB.out | apply below_alloc | apply pw_below_drewN | apply below_drew1 | refine below_set ?_ GE200.out) | exact HB.out)))); have n2_ := Aside0.mk (blk_below (g := gb200) (o := .cells #[.int .i64 a1_0, .int .i64 a1_1, .bool a1_2] 26 (0, 0)) (by (with_reducible repeat (first | refine blk_drewN ?_ _ | refine blk_drew ?_ | refine blk_alloc ?_ _)); exact BK200.out) hb); have n3_ := Aside0.mk (below_step (by repeat (first | (with_reducible first | exact HB.out | apply below_alloc | apply pw_below_drewN | apply below_drew1 | refine below_set ?_ GE200.out) | exact HB.out)) hb); clear HO_6; clear BK200; clear HB; have HO_6 := n0_; have HO211 := n1_; have BK200 := n2_; have HB := n3_; clear n0_ n1_ n2_ n3_; (try clear hb); (try clear hb2); (try clear hk); (try clear hi); (try clear ho0)))
              (try simp only [Act.put, List.setIfInBounds_toArray, List.set_cons_zero, List.set_cons_succ])
              go_cut [77] (fun v77 wc => ∃ (kq : Nat) (x77_18 : Bool), v77 = .bool x77_18 ∧ Aside0 (quarterdecklaw03_MemRegion.j2 kq l0 y202 x7_2 x8_2 t207 x77_18 a1_0 a1_1 a1_2 = some r) ∧ Aside0 (kq ≤ k2) ∧ Aside0 (Kd.R k26 26 wc w.heap.size (fun k_ => k_ ≠ gb200) (.slice Ao20 y202.length co20) y202) ∧ Aside0 (wc.heap[gb200]? = some (.cells #[.int .i64 a1_0, .int .i64 a1_1, .bool a1_2] 26 (0, 0))) ∧ Aside0 (Below w.heap.size w wc))
              case first =>
                have H := HC19.out
                clear HC19
                by_cases c23 : x8_2 ≥ a1_0
                · rw [if_pos c23] at H
                  have c23b0 : decide (a1_0 ≤ x8_2) = true := decide_eq_true c23
                  clear c23
                  (first | rw [c23b0] | (simp only [i64_w, i32_w]; rw [c23b0]) | skip)
                  by_cases c24 : ((t207 == 0) != (decide (x8_2 < (wrap64 (a1_0 + a1_1))))) = true
                  · rw [if_pos c24] at H
                    have c24b0 : ((t207 == 0) != (decide (x8_2 < (wrap64 (a1_0 + a1_1))))) = true := c24
                    (try (have c24b1 : decide ((t207 == 0) = (decide (x8_2 < (wrap64 (a1_0 + a1_1))))) = false := by simpa using c24))
                    (try (have c24b2 : ((t207 == 0) == (decide (x8_2 < (wrap64 (a1_0 + a1_1))))) = false := by simpa using c24))
                    (try (have c24b3 : ¬ ((t207 == 0) = (decide (x8_2 < (wrap64 (a1_0 + a1_1))))) := by simpa using c24))
                    clear c24
                    have H' := Aside0.mk H
                    clear H
                    have hcz25_0 : w22.cell? ⟨gb200, 0, none⟩ = some (.int .i64 a1_0) := (blk_cell BK200.out 0).trans rfl
                    have hcz25_1 : w22.cell? ⟨gb200, 1, none⟩ = some (.int .i64 a1_1) := (blk_cell BK200.out 1).trans rfl
                    have hcz25_2 : w22.cell? ⟨gb200, 2, none⟩ = some (.bool a1_2) := (blk_cell BK200.out 2).trans rfl
                    have hfz25_0 := blk_frozen BK200.out 0
                    have hfz25_1 := blk_frozen BK200.out 1
                    have hfz25_2 := blk_frozen BK200.out 2
                    go_wp2
                    go_meet
                    case rel => exact ⟨_, (true), (by first | rfl | (simp; done) | (simp [*]; done)), H', ⟨by have := HJ3.out; have := HK2.out; first | omega | exact Nat.le_refl _⟩, ⟨by (with_reducible repeat (first | apply Kd.R_alloc | apply Kd.R_drewN | apply Kd.R_drew)); exact HO_6.out⟩, ⟨by (with_reducible repeat (first | refine blk_drewN ?_ _ | refine blk_drew ?_ | refine blk_alloc ?_ _)); exact BK200.out⟩, ⟨by repeat (first | (with_reducible first | exact HB.out | apply below_alloc | apply pw_below_drewN | apply below_drew1 | refine below_set ?_ GE200.out) | exact HB.out)⟩⟩
                  · rw [if_neg c24] at H
                    have c24b0 : ((t207 == 0) != (decide (x8_2 < (wrap64 (a1_0 + a1_1))))) = false := by simpa using c24
                    (try (have c24b1 : decide ((t207 == 0) = (decide (x8_2 < (wrap64 (a1_0 + a1_1))))) = true := by simpa using c24))
                    (try (have c24b2 : ((t207 == 0) == (decide (x8_2 < (wrap64 (a1_0 + a1_1))))) = true := by simpa using c24))
                    clear c24
                    by_cases c26 : t207 = 0
                    · rw [if_pos c26] at H
                      have c26b0 : (t207 == 0) = true := beq_iff_eq.mpr c26
                      have c26b1 : (t207 != 0) = false := bne_eq_false_iff_eq.mpr c26
                      clear c26
                      have H' := Aside0.mk H
                      clear H
                      have hcz27_0 : w22.cell? ⟨gb200, 0, none⟩ = some (.int .i64 a1_0) := (blk_cell BK200.out 0).trans rfl
                      have hcz27_1 : w22.cell? ⟨gb200, 1, none⟩ = some (.int .i64 a1_1) := (blk_cell BK200.out 1).trans rfl
                      have hcz27_2 : w22.cell? ⟨gb200, 2, none⟩ = some (.bool a1_2) := (blk_cell BK200.out 2).trans rfl
                      have hfz27_0 := blk_frozen BK200.out 0
                      have hfz27_1 := blk_frozen BK200.out 1
                      have hfz27_2 := blk_frozen BK200.out 2
                      (try have hd_ := (bne_eq_false_iff_eq.mp c24b0).symm.trans c26b0)
                      cases hq_ : ((t209 == 0) != a1_2)
                      · (try (have hq1_ : decide ((t209 == 0) = a1_2) = true := by simpa using hq_))
                        (try (have hq2_ : ((t209 == 0) == a1_2) = true := by simpa using hq_))
                        (first | exact absurd (c31b0 ▸ c29b0 : (true != false) = false) (by decide) | (go_wp2; go_meet; (case rel => exact ⟨_, (((t209 == 0) != a1_2)), (by first | rfl | (simp; done) | (simp [*]; done)), H', ⟨by have := HJ3.out; have := HK2.out; first | omega | exact Nat.le_refl _⟩, ⟨by (with_reducible repeat (first | apply Kd.R_alloc | apply Kd.R_drewN | apply Kd.R_drew)); exact HO_6.out⟩, ⟨by (with_reducible repeat (first | refine blk_drewN ?_ _ | refine blk_drew ?_ | refine blk_alloc ?_ _)); exact BK200.out⟩, ⟨by repeat (first | (with_reducible first | exact HB.out | apply below_alloc | apply pw_below_drewN | apply below_drew1 | refine below_set ?_ GE200.out) | exact HB.out)⟩⟩)))
                      · (try (have hq1_ : decide ((t209 == 0) = a1_2) = false := by simpa using hq_))
                        (try (have hq2_ : ((t209 == 0) == a1_2) = false := by simpa using hq_))
                        (first | exact absurd (c31b0 ▸ c29b0 : (true != false) = false) (by decide) | (go_wp2; go_meet; (case rel => exact ⟨_, (((t209 == 0) != a1_2)), (by first | rfl | (simp; done) | (simp [*]; done)), H', ⟨by have := HJ3.out; have := HK2.out; first | omega | exact Nat.le_refl _⟩, ⟨by (with_reducible repeat (first | apply Kd.R_alloc | apply Kd.R_drewN | apply Kd.R_drew)); exact HO_6.out⟩, ⟨by (with_reducible repeat (first | refine blk_drewN ?_ _ | refine blk_drew ?_ | refine blk_alloc ?_ _)); exact BK200.out⟩, ⟨by repeat (first | (with_reducible first | exact HB.out | apply below_alloc | apply pw_below_drewN | apply below_drew1 | refine below_set ?_ GE200.out) | exact HB.out)⟩⟩)))
                    · rw [if_neg c26] at H
                      have c26b0 : (t207 == 0) = false := beq_eq_false_iff_ne.mpr c26
                      have c26b1 : (t207 != 0) = true := bne_iff_ne.mpr c26
                      have H' := Aside0.mk H
                      clear H
                      have hcz28_0 : w22.cell? ⟨gb200, 0, none⟩ = some (.int .i64 a1_0) := (blk_cell BK200.out 0).trans rfl
                      have hcz28_1 : w22.cell? ⟨gb200, 1, none⟩ = some (.int .i64 a1_1) := (blk_cell BK200.out 1).trans rfl
                      have hcz28_2 : w22.cell? ⟨gb200, 2, none⟩ = some (.bool a1_2) := (blk_cell BK200.out 2).trans rfl
                      have hfz28_0 := blk_frozen BK200.out 0
                      have hfz28_1 := blk_frozen BK200.out 1
                      have hfz28_2 := blk_frozen BK200.out 2
                      (try have hd_ := (bne_eq_false_iff_eq.mp c24b0).symm.trans c26b0)
                      cases hq_ : ((t209 == 0) != false)
                      · (try (have hq1_ : decide ((t209 == 0) = false) = true := by simpa using hq_))
                        (try (have hq2_ : ((t209 == 0) == false) = true := by simpa using hq_))
                        (first | exact absurd (c31b0 ▸ c29b0 : (true != false) = false) (by decide) | (go_wp2; go_meet; (case rel => exact ⟨_, (((t209 == 0) != false)), (by first | rfl | (simp; done) | (simp [*]; done)), H', ⟨by have := HJ3.out; have := HK2.out; first | omega | exact Nat.le_refl _⟩, ⟨by (with_reducible repeat (first | apply Kd.R_alloc | apply Kd.R_drewN | apply Kd.R_drew)); exact HO_6.out⟩, ⟨by (with_reducible repeat (first | refine blk_drewN ?_ _ | refine blk_drew ?_ | refine blk_alloc ?_ _)); exact BK200.out⟩, ⟨by repeat (first | (with_reducible first | exact HB.out | apply below_alloc | apply pw_below_drewN | apply below_drew1 | refine below_set ?_ GE200.out) | exact HB.out)⟩⟩)))
                      · (try (have hq1_ : decide ((t209 == 0) = false) = false := by simpa using hq_))
                        (try (have hq2_ : ((t209 == 0) == false) = false := by simpa using hq_))
                        (first | exact absurd (c31b0 ▸ c29b0 : (true != false) = false) (by decide) | (go_wp2; go_meet; (case rel => exact ⟨_, (((t209 == 0) != false)), (by first | rfl | (simp; done) | (simp [*]; done)), H', ⟨by have := HJ3.out; have := HK2.out; first | omega | exact Nat.le_refl _⟩, ⟨by (with_reducible repeat (first | apply Kd.R_alloc | apply Kd.R_drewN | apply Kd.R_drew)); exact HO_6.out⟩, ⟨by (with_reducible repeat (first | refine blk_drewN ?_ _ | refine blk_drew ?_ | refine blk_alloc ?_ _)); exact BK200.out⟩, ⟨by repeat (first | (with_reducible first | exact HB.out | apply below_alloc | apply pw_below_drewN | apply below_drew1 | refine below_set ?_ GE200.out) | exact HB.out)⟩⟩)))
                · rw [if_neg c23] at H
                  have c23b0 : decide (a1_0 ≤ x8_2) = false := decide_eq_false c23
                  clear c23
                  (first | rw [c23b0] | (simp only [i64_w, i32_w]; rw [c23b0]) | skip)
                  by_cases c29 : ((t207 == 0) != false) = true
                  · rw [if_pos c29] at H
                    have c29b0 : ((t207 == 0) != false) = true := c29
                    (try (have c29b1 : decide ((t207 == 0) = false) = false := by simpa using c29))
                    (try (have c29b2 : ((t207 == 0) == false) = false := by simpa using c29))
                    (try (have c29b3 : ¬ ((t207 == 0) = false) := by simpa using c29))
                    clear c29
                    have H' := Aside0.mk H
                    clear H
                    have hcz30_0 : w22.cell? ⟨gb200, 0, none⟩ = some (.int .i64 a1_0) := (blk_cell BK200.out 0).trans rfl
                    have hcz30_1 : w22.cell? ⟨gb200, 1, none⟩ = some (.int .i64 a1_1) := (blk_cell BK200.out 1).trans rfl
                    have hcz30_2 : w22.cell? ⟨gb200, 2, none⟩ = some (.bool a1_2) := (blk_cell BK200.out 2).trans rfl
                    have hfz30_0 := blk_frozen BK200.out 0
                    have hfz30_1 := blk_frozen BK200.out 1
                    have hfz30_2 := blk_frozen BK200.out 2
                    go_wp2
                    go_meet
                    case rel => exact ⟨_, (true), (by first | rfl | (simp; done) | (simp [*]; done)), H', ⟨by have := HJ3.out; have := HK2.out; first | omega | exact Nat.le_refl _⟩, ⟨by (with_reducible repeat (first | apply Kd.R_alloc | apply Kd.R_drewN | apply Kd.R_drew)); exact HO_6.out⟩, ⟨by (with_reducible repeat (first | refine blk_drewN ?_ _ | refine blk_drew ?_ | refine blk_alloc ?_ _)); exact BK200.out⟩, ⟨by repeat (first | (with_reducible first | exact HB.out | apply below_alloc | apply pw_below_drewN | apply below_drew1 | refine below_set ?_ GE200.out) | exact HB.out)⟩⟩
                  · rw [if_neg c29] at H
                    have c29b0 : ((t207 == 0) != false) = false := by simpa using c29
                    (try (have c29b1 : decide ((t207 == 0) = false) = true := by simpa using c29))
                    (try (have c29b2 : ((t207 == 0) == false) = true := by simpa using c29))
                    clear c29
                    by_cases c31 : t207 = 0
                    · rw [if_pos c31] at H
                      have c31b0 : (t207 == 0) = true := beq_iff_eq.mpr c31
                      have c31b1 : (t207 != 0) = false := bne_eq_false_iff_eq.mpr c31
                      clear c31
                      have H' := Aside0.mk H
                      clear H
                      have hcz32_0 : w22.cell? ⟨gb200, 0, none⟩ = some (.int .i64 a1_0) := (blk_cell BK200.out 0).trans rfl
                      have hcz32_1 : w22.cell? ⟨gb200, 1, none⟩ = some (.int .i64 a1_1) := (blk_cell BK200.out 1).trans rfl
                      have hcz32_2 : w22.cell? ⟨gb200, 2, none⟩ = some (.bool a1_2) := (blk_cell BK200.out 2).trans rfl
                      have hfz32_0 := blk_frozen BK200.out 0
                      have hfz32_1 := blk_frozen BK200.out 1
                      have hfz32_2 := blk_frozen BK200.out 2
                      (try have hd_ := (bne_eq_false_iff_eq.mp c24b0).symm.trans c26b0)
                      cases hq_ : ((t209 == 0) != a1_2)
                      · (try (have hq1_ : decide ((t209 == 0) = a1_2) = true := by simpa using hq_))
                        (try (have hq2_ : ((t209 == 0) == a1_2) = true := by simpa using hq_))
                        (first | exact absurd (c31b0 ▸ c29b0 : (true != false) = false) (by decide) | (go_wp2; go_meet; (case rel => exact ⟨_, (((t209 == 0) != a1_2)), (by first | rfl | (simp; done) | (simp [*]; done)), H', ⟨by have := HJ3.out; have := HK2.out; first | omega | exact Nat.le_refl _⟩, ⟨by (with_reducible repeat (first | apply Kd.R_alloc | apply Kd.R_drewN | apply Kd.R_drew)); exact HO_6.out⟩, ⟨by (with_reducible repeat (first | refine blk_drewN ?_ _ | refine blk_drew ?_ | refine blk_alloc ?_ _)); exact BK200.out⟩, ⟨by repeat (first | (with_reducible first | exact HB.out | apply below_alloc | apply pw_below_drewN | apply below_drew1 | refine below_set ?_ GE200.out) | exact HB.out)⟩⟩)))
                      · (try (have hq1_ : decide ((t209 == 0) = a1_2) = false := by simpa using hq_))
                        (try (have hq2_ : ((t209 == 0) == a1_2) = false := by simpa using hq_))
                        (first | exact absurd (c31b0 ▸ c29b0 : (true != false) = false) (by decide) | (go_wp2; go_meet; (case rel => exact ⟨_, (((t209 == 0) != a1_2)), (by first | rfl | (simp; done) | (simp [*]; done)), H', ⟨by have := HJ3.out; have := HK2.out; first | omega | exact Nat.le_refl _⟩, ⟨by (with_reducible repeat (first | apply Kd.R_alloc | apply Kd.R_drewN | apply Kd.R_drew)); exact HO_6.out⟩, ⟨by (with_reducible repeat (first | refine blk_drewN ?_ _ | refine blk_drew ?_ | refine blk_alloc ?_ _)); exact BK200.out⟩, ⟨by repeat (first | (with_reducible first | exact HB.out | apply below_alloc | apply pw_below_drewN | apply below_drew1 | refine below_set ?_ GE200.out) | exact HB.out)⟩⟩)))
                    · rw [if_neg c31] at H
                      have c31b0 : (t207 == 0) = false := beq_eq_false_iff_ne.mpr c31
                      have c31b1 : (t207 != 0) = true := bne_iff_ne.mpr c31
                      have H' := Aside0.mk H
                      clear H
                      have hcz33_0 : w22.cell? ⟨gb200, 0, none⟩ = some (.int .i64 a1_0) := (blk_cell BK200.out 0).trans rfl
                      have hcz33_1 : w22.cell? ⟨gb200, 1, none⟩ = some (.int .i64 a1_1) := (blk_cell BK200.out 1).trans rfl
                      have hcz33_2 : w22.cell? ⟨gb200, 2, none⟩ = some (.bool a1_2) := (blk_cell BK200.out 2).trans rfl
                      have hfz33_0 := blk_frozen BK200.out 0
                      have hfz33_1 := blk_frozen BK200.out 1
                      have hfz33_2 := blk_frozen BK200.out 2
                      (try have hd_ := (bne_eq_false_iff_eq.mp c24b0).symm.trans c26b0)
                      cases hq_ : ((t209 == 0) != false)
                      · (try (have hq1_ : decide ((t209 == 0) = false) = true := by simpa using hq_))
                        (try (have hq2_ : ((t209 == 0) == false) = true := by simpa using hq_))
                        (first | exact absurd (c31b0 ▸ c29b0 : (true != false) = false) (by decide) | (go_wp2; go_meet; (case rel => exact ⟨_, (((t209 == 0) != false)), (by first | rfl | (simp; done) | (simp [*]; done)), H', ⟨by have := HJ3.out; have := HK2.out; first | omega | exact Nat.le_refl _⟩, ⟨by (with_reducible repeat (first | apply Kd.R_alloc | apply Kd.R_drewN | apply Kd.R_drew)); exact HO_6.out⟩, ⟨by (with_reducible repeat (first | refine blk_drewN ?_ _ | refine blk_drew ?_ | refine blk_alloc ?_ _)); exact BK200.out⟩, ⟨by repeat (first | (with_reducible first | exact HB.out | apply below_alloc | apply pw_below_drewN | apply below_drew1 | refine below_set ?_ GE200.out) | exact HB.out)⟩⟩)))
                      · (try (have hq1_ : decide ((t209 == 0) = false) = false := by simpa using hq_))
                        (try (have hq2_ : ((t209 == 0) == false) = false := by simpa using hq_))
                        (first | exact absurd (c31b0 ▸ c29b0 : (true != false) = false) (by decide) | (go_wp2; go_meet; (case rel => exact ⟨_, (((t209 == 0) != false)), (by first | rfl | (simp; done) | (simp [*]; done)), H', ⟨by have := HJ3.out; have := HK2.out; first | omega | exact Nat.le_refl _⟩, ⟨by (with_reducible repeat (first | apply Kd.R_alloc | apply Kd.R_drewN | apply Kd.R_drew)); exact HO_6.out⟩, ⟨by (with_reducible repeat (first | refine blk_drewN ?_ _ | refine blk_drew ?_ | refine blk_alloc ?_ _)); exact BK200.out⟩, ⟨by repeat (first | (with_reducible first | exact HB.out | apply below_alloc | apply pw_below_drewN | apply below_drew1 | refine below_set ?_ GE200.out) | exact HB.out)⟩⟩)))
              case rest =>
                clear HC19
                try clear c1
                try clear c2
                try clear p2
                try clear c3
                try clear p6
                try clear c8
                try clear c9
                try clear c10
                try clear c11
                try clear c11b0
                try clear c11b1
                try clear c13
                try clear c15
                try clear c16
                try clear c16b0
                try clear c23
                try clear c23b0
                try clear c24
                try clear c24b0
                try clear c24b1
                try clear c24b2
                try clear c26
                try clear c26b0
                try clear c26b1
                try clear c29
                try clear c29b0
                try clear c29b1
                try clear c29b2
                try clear c31
                try clear c31b0
                try clear c31b1
                try clear hcz25_0
                try clear hcz25_1
                try clear hcz25_2
                try clear hcz27_0
                try clear hcz27_1
                try clear hcz27_2
                try clear hcz28_0
                try clear hcz28_1
                try clear hcz28_2
                try clear hcz30_0
                try clear hcz30_1
                try clear hcz30_2
                try clear hcz32_0
                try clear hcz32_1
                try clear hcz32_2
                try clear hcz33_0
                try clear hcz33_1
                try clear hcz33_2
                try clear hcz7_0
                try clear hcz7_1
                try clear hcz7_2
                try clear hfz25_0
                try clear hfz25_1
                try clear hfz25_2
                try clear hfz27_0
                try clear hfz27_1
                try clear hfz27_2
                try clear hfz28_0
                try clear hfz28_1
                try clear hfz28_2
                try clear hfz30_0
                try clear hfz30_1
                try clear hfz30_2
                try clear hfz32_0
                try clear hfz32_1
                try clear hfz32_2
                try clear hfz33_0
                try clear hfz33_1
                try clear hfz33_2
                try clear hfz7_0
                try clear hfz7_1
                try clear hfz7_2
                try clear p2
                obtain ⟨kq, x77_18, rfl, HA, HJ18, HO_6, BK200, HB⟩ := hcut
                cases kq with
                | zero => exact absurd HA.out (by simp [quarterdecklaw03_MemRegion.j2])
                | succ kj18 =>
                  have H := HA.out
                  clear HA
                  simp only [quarterdecklaw03_MemRegion.j2] at H
                  by_cases c34 : x77_18 = true
                  · subst c34
                    have H1 : (some false) = some r := by rw [if_pos rfl] at H; exact H
                    clear H
                    have H := H1
                    clear H1
                    obtain rfl := Option.some.inj H
                    go_wp2
                    go_ret
                    exact ⟨by first | rfl | (simp [errW_none, errW_some] <;> rfl) | (simp [*, errW_none, errW_some] <;> rfl), by repeat (first | (with_reducible first | exact HB.out | apply below_alloc | apply pw_below_drewN | apply below_drew1 | refine below_set ?_ GE200.out) | exact HB.out)⟩
                  · replace c34 := Bool.eq_false_iff.mpr c34
                    subst c34
                    have H1 : (if t207 = 0 then (quarterdecklaw03_MemRegion.l0 kj18 l0 y202 (wrap64 (x7_2 + 1)) (wrap64 (x8_2 + 1)) a1_0 a1_1 a1_2) else (quarterdecklaw03_MemRegion.l0 kj18 l0 y202 x7_2 (wrap64 (x8_2 + 1)) a1_0 a1_1 a1_2)) = some r := by rw [if_neg (show ¬ (false = true) by decide)] at H; exact H
                    clear H
                    have H := H1
                    clear H1
                    by_cases c35 : t207 = 0
                    · rw [if_pos c35] at H
                      have c35b0 : (t207 == 0) = true := beq_iff_eq.mpr c35
                      have c35b1 : (t207 != 0) = false := bne_eq_false_iff_eq.mpr c35
                      clear c35
                      have H' := Aside0.mk H
                      clear H
                      go_wp2
                      go_roundg kj18
                      case measure => have := HJ3.out; have := HK2.out; have := HJ18.out; omega
                      case rel => exact ⟨(wrap64 (x7_2 + 1)), (wrap64 (x8_2 + 1)), (by first | rfl | (simp; done) | (simp [*]; done)), (by first | rfl | (simp; done) | (simp [*]; done)), H', ⟨by have := HJ3.out; have := HK2.out; have := HJ18.out; omega⟩, ⟨by (with_reducible repeat (first | apply Kd.R_alloc | apply Kd.R_drewN | apply Kd.R_drew)); exact HO_6.out⟩, ⟨by (with_reducible repeat (first | refine blk_drewN ?_ _ | refine blk_drew ?_ | refine blk_alloc ?_ _)); exact BK200.out⟩, ⟨by repeat (first | (with_reducible first | exact HB.out | apply below_alloc | apply pw_below_drewN | apply below_drew1 | refine below_set ?_ GE200.out) | exact HB.out)⟩⟩
                    · rw [if_neg c35] at H
                      have c35b0 : (t207 == 0) = false := beq_eq_false_iff_ne.mpr c35
                      have c35b1 : (t207 != 0) = true := bne_iff_ne.mpr c35
                      have H' := Aside0.mk H
                      clear H
                      go_wp2
                      go_roundg kj18
                      case measure => have := HJ3.out; have := HK2.out; have := HJ18.out; omega
                      case rel => exact ⟨(x7_2), (wrap64 (x8_2 + 1)), (by first | rfl | (simp; done) | (simp [*]; done)), (by first | rfl | (simp; done) | (simp [*]; done)), H', ⟨by have := HJ3.out; have := HK2.out; have := HJ18.out; omega⟩, ⟨by (with_reducible repeat (first | apply Kd.R_alloc | apply Kd.R_drewN | apply Kd.R_drew)); exact HO_6.out⟩, ⟨by (with_reducible repeat (first | refine blk_drewN ?_ _ | refine blk_drew ?_ | refine blk_alloc ?_ _)); exact BK200.out⟩, ⟨by repeat (first | (with_reducible first | exact HB.out | apply below_alloc | apply pw_below_drewN | apply below_drew1 | refine below_set ?_ GE200.out) | exact HB.out)⟩⟩
            · rw [if_neg c16] at H
              have c16b0 : decide (x8_2 < (l0.length : Int)) = false := decide_eq_false c16
              clear c16
              obtain rfl := Option.some.inj H
              have hcz36_0 : wr.cell? ⟨gb200, 0, none⟩ = some (.int .i64 a1_0) := (blk_cell BK200.out 0).trans rfl
              have hcz36_1 : wr.cell? ⟨gb200, 1, none⟩ = some (.int .i64 a1_1) := (blk_cell BK200.out 1).trans rfl
              have hcz36_2 : wr.cell? ⟨gb200, 2, none⟩ = some (.bool a1_2) := (blk_cell BK200.out 2).trans rfl
              have hfz36_0 := blk_frozen BK200.out 0
              have hfz36_1 := blk_frozen BK200.out 1
              have hfz36_2 := blk_frozen BK200.out 2
              go_wp2
              go_ret
              exact ⟨by first | rfl | (simp [errW_none, errW_some] <;> rfl) | (simp [*, errW_none, errW_some] <;> rfl), by repeat (first | (with_reducible first | exact HB.out | apply below_alloc | apply pw_below_drewN | apply below_drew1 | refine below_set ?_ GE200.out) | exact HB.out)⟩

end Go.Proofs.Ytkdcjkgofbjnlaa.Pr

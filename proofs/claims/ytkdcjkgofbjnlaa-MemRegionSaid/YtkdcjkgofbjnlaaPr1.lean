/- Go functions of this seat as Lean functions, each with the proof that its call comes to just that, and the rows over them; written by a program of this session (wip/given_print.py); the conditions are the premises that each theorem names. -/
import Derived.Test.YtkdcjkgofbjnlaaPr0
namespace Go.Proofs.Ytkdcjkgofbjnlaa.Pr
open Go.RowKit Go.Proofs.YtkdcjkgofbjnlaaW.PrintWords Go.Proofs.YtkdcjkgofbjnlaaW.PrintLast Go.Proofs.YtkdcjkgofbjnlaaW.PrintMore
attribute [local go_sem] max2_int min2_int max_two min_two max_three min_three max_four min_four   -- for this text's walks alone
set_option linter.unusedVariables false
set_option linter.unusedSimpArgs false

-- NOT PRINTED: function 25 (api_Region_25)

-- NOT PRINTED: function 19 (api_Region_19)


def rg_ (x : S26) : Go.Proofs.Ytkdcjkgofbjnlaa.Mem.Rg := (x.f0, x.f1, x.f2)
theorem regs_at {w : World} {A : Option Addr} {l : List S26} (h : Kd.C k26 w A l.length l) : Go.Proofs.Ytkdcjkgofbjnlaa.Mem.RegsAt w A (l.map rg_) := by
  refine ⟨by rw [List.length_map]; exact h.2.1, fun hn => ?_⟩
  rw [List.length_map] at hn
  obtain ⟨ad, c0, rfl, _, _, _⟩ := Kd.C_get h z26 0 (by omega) (by omega)
  refine ⟨ad, rfl, fun i x hx => ?_⟩
  rw [List.getElem?_map] at hx
  obtain ⟨y, hy, rfl⟩ := Option.map_eq_some_iff.1 hx
  have hi : i < l.length := (List.getElem?_eq_some_iff.1 hy).1
  obtain ⟨ad2, c, e, _, hK, hc0⟩ := Kd.C_get h z26 (i : Int) (by omega) (by omega)
  injection e with e
  subst e
  rw [Int.toNat_natCast, List.getD_eq_getElem?_getD, hy, Option.getD_some] at hK
  rw [Int.toNat_natCast] at hc0
  have hc : ∀ j u, c[j]? = some u → w.cell? (ad.add (i * 3 + j)) = some u := hc0
  obtain rfl := k26_open hK
  exact ⟨hc 0 _ rfl, by rw [← add_field _ _ 1 (by omega)]; exact hc 1 _ rfl, by rw [← add_field _ _ 2 (by omega)]; exact hc 2 _ rfl⟩

/-! ### mem_May: function 10, given -/
def mem_May.f (l0 : List (S26)) (a1 : Int) : Option Bool := some (Go.Proofs.Ytkdcjkgofbjnlaa.Mem.mayV a1 (l0.map rg_))
theorem mem_May.calls (A0 : Option Addr) (c0 : Nat) (l0 : List (S26)) (a1 : Int) (r : Bool) (w : World) (hr0 : Kd.C k26 w A0 l0.length l0) (hc0 : l0.length ≤ c0) (h : mem_May.f l0 a1 = some r) :
    Calls Try.prog 10 #[.slice A0 l0.length c0, .int .i64 a1] w fun e w' => e = .returned (.bool r) ∧ Below w.heap.size w w' := by
  unfold mem_May.f at h
  injection h with h
  subst h
  have h := Go.Proofs.Ytkdcjkgofbjnlaa.Mem.may_any A0 c0 (l0.map rg_) a1 w (regs_at hr0) (by rw [List.length_map]; exact hc0)
  rw [List.length_map] at h
  exact h

-- NOT PRINTED: function 21 (mem_touch)

-- NOT PRINTED: function 22 (mem_told)


/-! ### mem_Load: function 13, given -/
def mem_Load.f (l0 : List Int) (l1 : List (S26)) (a2 : Int) : Option (Int × Int) := some (Go.Proofs.Ytkdcjkgofbjnlaa.Mem.loadV l0 (l1.map rg_) a2, Go.Proofs.Ytkdcjkgofbjnlaa.Mem.wrongN l0.length (l1.map rg_) a2 false)
theorem mem_Load.calls (A0 : Option Addr) (c0 : Nat) (l0 : List Int) (A1 : Option Addr) (c1 : Nat) (l1 : List (S26)) (a2 : Int) (r1 : Int) (r2 : Int) (w : World) (hr0 : Kd.C (Kd.int .i64) w A0 l0.length l0) (hc0 : l0.length ≤ c0) (hr1 : Kd.C k26 w A1 l1.length l1) (hc1 : l1.length ≤ c1) (h : mem_Load.f l0 l1 a2 = some (r1, r2)) :
    Calls Try.prog 13 #[.slice A0 l0.length c0, .slice A1 l1.length c1, .int .i64 a2] w fun e w' => e = .returned (.tuple #[.int .i64 r1, .int .i64 r2]) ∧ Below w.heap.size w w' := by
  unfold mem_Load.f at h
  injection h with h
  injection h with h1 h2
  subst h1 h2
  have h := Go.Proofs.Ytkdcjkgofbjnlaa.Mem.load_any A0 c0 l0 A1 c1 (l1.map rg_) a2 w hr0 (regs_at hr1)
  rw [List.length_map] at h
  exact h

/-! ### quarterdecklaw03_awake: function 9 -/
def quarterdecklaw03_awake.f  : Option (Bool) := (some (([(⟨2, 2, false⟩ : S26)] : List (S26)) : List (S26))).bind fun y101 => ((some (([5, 6, 7, 8] : List Int) : List Int)).bind fun y104 => ((mem_Load.f y104 y101 1).bind fun bt107 => ((mem_Load.f y104 y101 3).bind fun bt109 => (if bt107.2 = 6 then (if bt109.2 = 0 then (if bt109.1 = 8 then ((mem_May.f y101 4).bind fun t111 => (some t111)) else (some false)) else (some false)) else (some false)))))
set_option maxHeartbeats 8000000 in
set_option maxRecDepth 100000 in
theorem quarterdecklaw03_awake.calls  (r : Bool) (w : World) (h : quarterdecklaw03_awake.f  = some r) :
    Calls Try.prog 9 #[] w fun e w' => e = .returned (.bool r) ∧ Below w.heap.size w w' := by
  have hu26 := Try.underlying26
  have HB := Aside0.mk (Below.refl w.heap.size w)
  have H : ((some (([(⟨2, 2, false⟩ : S26)] : List (S26)) : List (S26))).bind fun y101 => ((some (([5, 6, 7, 8] : List Int) : List Int)).bind fun y104 => ((mem_Load.f y104 y101 1).bind fun bt107 => ((mem_Load.f y104 y101 3).bind fun bt109 => (if bt107.2 = 6 then (if bt109.2 = 0 then (if bt109.1 = 8 then ((mem_May.f y101 4).bind fun t111 => (some t111)) else (some false)) else (some false)) else (some false)))))) = some r := h
  clear h
  obtain ⟨y101, hy101⟩ : ∃ y_ : List (S26), y_ = (([(⟨2, 2, false⟩ : S26)] : List (S26))) := ⟨_, rfl⟩
  replace H : ((some (([5, 6, 7, 8] : List Int) : List Int)).bind fun y104 => ((mem_Load.f y104 y101 1).bind fun bt107 => ((mem_Load.f y104 y101 3).bind fun bt109 => (if bt107.2 = 6 then (if bt109.2 = 0 then (if bt109.1 = 8 then ((mem_May.f y101 4).bind fun t111 => (some t111)) else (some false)) else (some false)) else (some false))))) = some r := by first | (rw [hy101]; with_reducible exact H) | (have H2_ := (Option.bind_some _ _).symm.trans H; rw [hy101]; with_reducible exact H2_) | (have H2_ := (Option.bind_some _ _).symm.trans H; with_reducible exact H2_) | with_reducible exact H | (rw [hy101]; exact H) | exact H
  have Ny101 := Aside0.mk hy101
  clear hy101
  obtain ⟨y104, hy104⟩ : ∃ y_ : List Int, y_ = (([5, 6, 7, 8] : List Int)) := ⟨_, rfl⟩
  replace H : ((mem_Load.f y104 y101 1).bind fun bt107 => ((mem_Load.f y104 y101 3).bind fun bt109 => (if bt107.2 = 6 then (if bt109.2 = 0 then (if bt109.1 = 8 then ((mem_May.f y101 4).bind fun t111 => (some t111)) else (some false)) else (some false)) else (some false)))) = some r := by first | (rw [hy104]; with_reducible exact H) | (have H2_ := (Option.bind_some _ _).symm.trans H; rw [hy104]; with_reducible exact H2_) | (have H2_ := (Option.bind_some _ _).symm.trans H; with_reducible exact H2_) | with_reducible exact H | (rw [hy104]; exact H) | exact H
  have Ny104 := Aside0.mk hy104
  clear hy104
  replace H := Option.bind_eq_some_iff.mp H
  obtain ⟨⟨t107, t108⟩, A10, H⟩ := H
  replace H : ((mem_Load.f y104 y101 3).bind fun bt109 => (if t108 = 6 then (if bt109.2 = 0 then (if bt109.1 = 8 then ((mem_May.f y101 4).bind fun t111 => (some t111)) else (some false)) else (some false)) else (some false))) = some r := H
  have A1 := Aside0.mk A10
  clear A10
  replace H := Option.bind_eq_some_iff.mp H
  obtain ⟨⟨t109, t110⟩, A20, H⟩ := H
  replace H : (if t108 = 6 then (if t110 = 0 then (if t109 = 8 then ((mem_May.f y101 4).bind fun t111 => (some t111)) else (some false)) else (some false)) else (some false)) = some r := H
  have A2 := Aside0.mk A20
  clear A20
  by_cases c3 : t108 = 6
  · rw [if_pos c3] at H
    have c3b0 : (t108 == 6) = true := beq_iff_eq.mpr c3
    have c3b1 : (t108 != 6) = false := bne_eq_false_iff_eq.mpr c3
    clear c3
    by_cases c4 : t110 = 0
    · rw [if_pos c4] at H
      have c4b0 : (t110 == 0) = true := beq_iff_eq.mpr c4
      have c4b1 : (t110 != 0) = false := bne_eq_false_iff_eq.mpr c4
      clear c4
      by_cases c5 : t109 = 8
      · rw [if_pos c5] at H
        have c5b0 : (t109 == 8) = true := beq_iff_eq.mpr c5
        have c5b1 : (t109 != 8) = false := bne_eq_false_iff_eq.mpr c5
        clear c5
        replace H := Option.bind_eq_some_iff.mp H
        obtain ⟨t111, A60, H⟩ := H
        replace H : (some t111) = some r := H
        have A6 := Aside0.mk A60
        clear A60
        obtain rfl := Option.some.inj H
        go_enter Try.func9, Try.ntmps9
        go_wp2_with (first | ((with_reducible refine gate_dst (N := 8) rfl ?_); refine Kd.R_lit k26 _ 26 ?hg (N := 8) ?hd (xs := ([(⟨2, 2, false⟩ : S26)] : List (S26))) (inner := [.int .i64 2, .int .i64 2, .bool false]) (ok := fun _ => True) (okp := fun _ => True) ?hr ?hp (fun _ hk => hk) trivial (Below.refl _ _) (Nat.le_refl _) (by simp) ?_; (case hd => rfl); (case hg => rfl); (case hr => first | (go_simp; done) | (go_simp; rfl)); (case hp => exact (Reps.c3 (show Kd.M k26 _ _ _ (⟨2, 2, false⟩ : S26) [.int .i64 2, .int .i64 2, .bool false] from (k26_mkM _ _ _ (⟨2, 2, false⟩ : S26) )) (Reps.none _ _))); intro v102 w7 ho8 hb hg_ hnew_; clear hg_ hnew_; (first | rw [← Ny101.out] at ho8 | (simp only [Int.reduceToNat] at ho8; rw [← Ny101.out] at ho8)); have n0_ := Aside0.mk (Kd.R_lower ho8 (below_size (by repeat (first | (with_reducible first | exact HB.out | apply below_alloc | apply pw_below_drewN | apply below_drew1) | exact HB.out)))); have n1_ := Aside0.mk (below_step (by repeat (first | (with_reducible first | exact HB.out | apply below_alloc | apply pw_below_drewN | apply below_drew1) | exact HB.out)) hb); clear HB; have HO103 := n0_; have HB := n1_; clear n0_ n1_; clear hb ho8) | ((with_reducible refine gate_dst (N := 9) rfl ?_); refine Kd.R_lit (Kd.int .i64) _ 3 ?hg (N := 9) ?hd (xs := ([5, 6, 7, 8] : List Int)) (inner := [.int .i64 5, .int .i64 6, .int .i64 7, .int .i64 8]) (ok := fun _ => True) (okp := fun _ => True) ?hr ?hp (fun _ hk => hk) trivial (Below.refl _ _) (Nat.le_refl _) (by simp) ?_; (case hd => rfl); (case hg => rfl); (case hr => first | (go_simp; done) | (go_simp; rfl)); (case hp => exact (Reps.one (show Kd.M (Kd.int .i64) _ _ _ 5 [.int .i64 5] from rfl) (Reps.one (show Kd.M (Kd.int .i64) _ _ _ 6 [.int .i64 6] from rfl) (Reps.one (show Kd.M (Kd.int .i64) _ _ _ 7 [.int .i64 7] from rfl) (Reps.one (show Kd.M (Kd.int .i64) _ _ _ 8 [.int .i64 8] from rfl) (Reps.none _ _)))))); intro v105 w9 ho10 hb hg_ hnew_; clear hg_ hnew_; (first | rw [← Ny104.out] at ho10 | (simp only [Int.reduceToNat] at ho10; rw [← Ny104.out] at ho10)); have n0_ := Aside0.mk (Kd.R_below (by (with_reducible repeat (first | apply Kd.R_alloc | apply Kd.R_drewN | apply Kd.R_drew)); exact HO103.out) hb); have n1_ := Aside0.mk (Kd.R_lower ho10 (below_size (by repeat (first | (with_reducible first | exact HB.out | apply below_alloc | apply pw_below_drewN | apply below_drew1) | exact HB.out)))); have n2_ := Aside0.mk (below_step (by repeat (first | (with_reducible first | exact HB.out | apply below_alloc | apply pw_below_drewN | apply below_drew1) | exact HB.out)) hb); clear HO103; clear HB; have HO103 := n0_; have HO106 := n1_; have HB := n2_; clear n0_ n1_ n2_; clear hb ho10; obtain ⟨Ao11, co11, eo11⟩ := Kd.R_slice HO106.out; subst eo11; obtain ⟨Ao12, co12, eo12⟩ := Kd.R_slice HO103.out; subst eo12) | ((with_reducible refine gate_callee (f := 13) rfl ?_); refine goesL_ (some 13) rfl rfl Try.func13 (by kernel_rfl) rfl #[.slice Ao11 y104.length co11, .slice Ao12 y101.length co12, .int .i64 1] rfl (by (try simp only [List.map_toArray, List.map_cons, List.map_nil]); first | done | rfl | (simp only [List.length_drop, List.length_take]; rfl)) ?_; (with_reducible refine (mem_Load.calls _ _ y104 _ _ y101 1 t107 t108 _ ?side1 ?side2 ?side3 ?side4 A1.out).mono ?_); (case side1 => repeat (first | exact (Kd.R_reads' HO106.out).2.2 | (with_reducible refine Kd.C_alloc ?_ _) | (with_reducible refine Kd.C_drewN ?_ _) | (with_reducible refine Kd.C_drew ?_))); (case side2 => exact (Kd.R_reads' HO106.out).2.1); (case side3 => repeat (first | exact (Kd.R_reads' HO103.out).2.2 | (with_reducible refine Kd.C_alloc ?_ _) | (with_reducible refine Kd.C_drewN ?_ _) | (with_reducible refine Kd.C_drew ?_))); (case side4 => exact (Kd.R_reads' HO103.out).2.1); rintro e w13 ⟨rfl, hb⟩; refine ⟨_, rfl, ?_⟩; have n0_ := Aside0.mk (Kd.R_below (by (with_reducible repeat (first | apply Kd.R_alloc | apply Kd.R_drewN | apply Kd.R_drew)); exact HO103.out) hb); have n1_ := Aside0.mk (Kd.R_below (by (with_reducible repeat (first | apply Kd.R_alloc | apply Kd.R_drewN | apply Kd.R_drew)); exact HO106.out) hb); have n2_ := Aside0.mk (below_step (by repeat (first | (with_reducible first | exact HB.out | apply below_alloc | apply pw_below_drewN | apply below_drew1) | exact HB.out)) hb); clear HO103; clear HO106; clear HB; have HO103 := n0_; have HO106 := n1_; have HB := n2_; clear n0_ n1_ n2_; (try clear hb); (try clear hb2); (try clear hk); (try clear hi)) | ((with_reducible refine gate_callee (f := 13) rfl ?_); refine goesL_ (some 19) rfl rfl Try.func13 (by kernel_rfl) rfl #[.slice Ao11 y104.length co11, .slice Ao12 y101.length co12, .int .i64 3] rfl (by (try simp only [List.map_toArray, List.map_cons, List.map_nil]); first | done | rfl | (simp only [List.length_drop, List.length_take]; rfl)) ?_; (with_reducible refine (mem_Load.calls _ _ y104 _ _ y101 3 t109 t110 _ ?side1 ?side2 ?side3 ?side4 A2.out).mono ?_); (case side1 => repeat (first | exact (Kd.R_reads' HO106.out).2.2 | (with_reducible refine Kd.C_alloc ?_ _) | (with_reducible refine Kd.C_drewN ?_ _) | (with_reducible refine Kd.C_drew ?_))); (case side2 => exact (Kd.R_reads' HO106.out).2.1); (case side3 => repeat (first | exact (Kd.R_reads' HO103.out).2.2 | (with_reducible refine Kd.C_alloc ?_ _) | (with_reducible refine Kd.C_drewN ?_ _) | (with_reducible refine Kd.C_drew ?_))); (case side4 => exact (Kd.R_reads' HO103.out).2.1); rintro e w14 ⟨rfl, hb⟩; refine ⟨_, rfl, ?_⟩; have n0_ := Aside0.mk (Kd.R_below (by (with_reducible repeat (first | apply Kd.R_alloc | apply Kd.R_drewN | apply Kd.R_drew)); exact HO103.out) hb); have n1_ := Aside0.mk (Kd.R_below (by (with_reducible repeat (first | apply Kd.R_alloc | apply Kd.R_drewN | apply Kd.R_drew)); exact HO106.out) hb); have n2_ := Aside0.mk (below_step (by repeat (first | (with_reducible first | exact HB.out | apply below_alloc | apply pw_below_drewN | apply below_drew1) | exact HB.out)) hb); clear HO103; clear HO106; clear HB; have HO103 := n0_; have HO106 := n1_; have HB := n2_; clear n0_ n1_ n2_; (try clear hb); (try clear hb2); (try clear hk); (try clear hi)) | (go_at_call 10; (with_reducible refine (mem_May.calls _ _ y101 4 t111 _ ?side1 ?side2 A6.out).mono ?_); (case side1 => repeat (first | exact (Kd.R_reads' HO103.out).2.2 | (with_reducible refine Kd.C_alloc ?_ _) | (with_reducible refine Kd.C_drewN ?_ _) | (with_reducible refine Kd.C_drew ?_))); (case side2 => exact (Kd.R_reads' HO103.out).2.1); rintro e w15 ⟨rfl, hb⟩; have n0_ := Aside0.mk (Kd.R_below (by (with_reducible repeat (first | apply Kd.R_alloc | apply Kd.R_drewN | apply Kd.R_drew)); exact HO103.out) hb); have n1_ := Aside0.mk (Kd.R_below (by (with_reducible repeat (first | apply Kd.R_alloc | apply Kd.R_drewN | apply Kd.R_drew)); exact HO106.out) hb); have n2_ := Aside0.mk (below_step (by repeat (first | (with_reducible first | exact HB.out | apply below_alloc | apply pw_below_drewN | apply below_drew1) | exact HB.out)) hb); clear HO103; clear HO106; clear HB; have HO103 := n0_; have HO106 := n1_; have HB := n2_; clear n0_ n1_ n2_; (try clear hb); (try clear hb2); (try clear hk); (try clear hi)))
        go_ret
        exact ⟨by first | rfl | (simp [errW_none, errW_some] <;> rfl) | (simp [*, errW_none, errW_some] <;> rfl), by repeat (first | (with_reducible first | exact HB.out | apply below_alloc | apply pw_below_drewN | apply below_drew1) | exact HB.out)⟩
      · rw [if_neg c5] at H
        have c5b0 : (t109 == 8) = false := beq_eq_false_iff_ne.mpr c5
        have c5b1 : (t109 != 8) = true := bne_iff_ne.mpr c5
        obtain rfl := Option.some.inj H
        go_enter Try.func9, Try.ntmps9
        go_wp2_with (first | ((with_reducible refine gate_dst (N := 8) rfl ?_); refine Kd.R_lit k26 _ 26 ?hg (N := 8) ?hd (xs := ([(⟨2, 2, false⟩ : S26)] : List (S26))) (inner := [.int .i64 2, .int .i64 2, .bool false]) (ok := fun _ => True) (okp := fun _ => True) ?hr ?hp (fun _ hk => hk) trivial (Below.refl _ _) (Nat.le_refl _) (by simp) ?_; (case hd => rfl); (case hg => rfl); (case hr => first | (go_simp; done) | (go_simp; rfl)); (case hp => exact (Reps.c3 (show Kd.M k26 _ _ _ (⟨2, 2, false⟩ : S26) [.int .i64 2, .int .i64 2, .bool false] from (k26_mkM _ _ _ (⟨2, 2, false⟩ : S26) )) (Reps.none _ _))); intro v102 w16 ho17 hb hg_ hnew_; clear hg_ hnew_; (first | rw [← Ny101.out] at ho17 | (simp only [Int.reduceToNat] at ho17; rw [← Ny101.out] at ho17)); have n0_ := Aside0.mk (Kd.R_lower ho17 (below_size (by repeat (first | (with_reducible first | exact HB.out | apply below_alloc | apply pw_below_drewN | apply below_drew1) | exact HB.out)))); have n1_ := Aside0.mk (below_step (by repeat (first | (with_reducible first | exact HB.out | apply below_alloc | apply pw_below_drewN | apply below_drew1) | exact HB.out)) hb); clear HB; have HO103 := n0_; have HB := n1_; clear n0_ n1_; clear hb ho17) | ((with_reducible refine gate_dst (N := 9) rfl ?_); refine Kd.R_lit (Kd.int .i64) _ 3 ?hg (N := 9) ?hd (xs := ([5, 6, 7, 8] : List Int)) (inner := [.int .i64 5, .int .i64 6, .int .i64 7, .int .i64 8]) (ok := fun _ => True) (okp := fun _ => True) ?hr ?hp (fun _ hk => hk) trivial (Below.refl _ _) (Nat.le_refl _) (by simp) ?_; (case hd => rfl); (case hg => rfl); (case hr => first | (go_simp; done) | (go_simp; rfl)); (case hp => exact (Reps.one (show Kd.M (Kd.int .i64) _ _ _ 5 [.int .i64 5] from rfl) (Reps.one (show Kd.M (Kd.int .i64) _ _ _ 6 [.int .i64 6] from rfl) (Reps.one (show Kd.M (Kd.int .i64) _ _ _ 7 [.int .i64 7] from rfl) (Reps.one (show Kd.M (Kd.int .i64) _ _ _ 8 [.int .i64 8] from rfl) (Reps.none _ _)))))); intro v105 w18 ho19 hb hg_ hnew_; clear hg_ hnew_; (first | rw [← Ny104.out] at ho19 | (simp only [Int.reduceToNat] at ho19; rw [← Ny104.out] at ho19)); have n0_ := Aside0.mk (Kd.R_below (by (with_reducible repeat (first | apply Kd.R_alloc | apply Kd.R_drewN | apply Kd.R_drew)); exact HO103.out) hb); have n1_ := Aside0.mk (Kd.R_lower ho19 (below_size (by repeat (first | (with_reducible first | exact HB.out | apply below_alloc | apply pw_below_drewN | apply below_drew1) | exact HB.out)))); have n2_ := Aside0.mk (below_step (by repeat (first | (with_reducible first | exact HB.out | apply below_alloc | apply pw_below_drewN | apply below_drew1) | exact HB.out)) hb); clear HO103; clear HB; have HO103 := n0_; have HO106 := n1_; have HB := n2_; clear n0_ n1_ n2_; clear hb ho19; obtain ⟨Ao20, co20, eo20⟩ := Kd.R_slice HO106.out; subst eo20; obtain ⟨Ao21, co21, eo21⟩ := Kd.R_slice HO103.out; subst eo21) | ((with_reducible refine gate_callee (f := 13) rfl ?_); refine goesL_ (some 13) rfl rfl Try.func13 (by kernel_rfl) rfl #[.slice Ao20 y104.length co20, .slice Ao21 y101.length co21, .int .i64 1] rfl (by (try simp only [List.map_toArray, List.map_cons, List.map_nil]); first | done | rfl | (simp only [List.length_drop, List.length_take]; rfl)) ?_; (with_reducible refine (mem_Load.calls _ _ y104 _ _ y101 1 t107 t108 _ ?side1 ?side2 ?side3 ?side4 A1.out).mono ?_); (case side1 => repeat (first | exact (Kd.R_reads' HO106.out).2.2 | (with_reducible refine Kd.C_alloc ?_ _) | (with_reducible refine Kd.C_drewN ?_ _) | (with_reducible refine Kd.C_drew ?_))); (case side2 => exact (Kd.R_reads' HO106.out).2.1); (case side3 => repeat (first | exact (Kd.R_reads' HO103.out).2.2 | (with_reducible refine Kd.C_alloc ?_ _) | (with_reducible refine Kd.C_drewN ?_ _) | (with_reducible refine Kd.C_drew ?_))); (case side4 => exact (Kd.R_reads' HO103.out).2.1); rintro e w22 ⟨rfl, hb⟩; refine ⟨_, rfl, ?_⟩; have n0_ := Aside0.mk (Kd.R_below (by (with_reducible repeat (first | apply Kd.R_alloc | apply Kd.R_drewN | apply Kd.R_drew)); exact HO103.out) hb); have n1_ := Aside0.mk (Kd.R_below (by (with_reducible repeat (first | apply Kd.R_alloc | apply Kd.R_drewN | apply Kd.R_drew)); exact HO106.out) hb); have n2_ := Aside0.mk (below_step (by repeat (first | (with_reducible first | exact HB.out | apply below_alloc | apply pw_below_drewN | apply below_drew1) | exact HB.out)) hb); clear HO103; clear HO106; clear HB; have HO103 := n0_; have HO106 := n1_; have HB := n2_; clear n0_ n1_ n2_; (try clear hb); (try clear hb2); (try clear hk); (try clear hi)) | ((with_reducible refine gate_callee (f := 13) rfl ?_); refine goesL_ (some 19) rfl rfl Try.func13 (by kernel_rfl) rfl #[.slice Ao20 y104.length co20, .slice Ao21 y101.length co21, .int .i64 3] rfl (by (try simp only [List.map_toArray, List.map_cons, List.map_nil]); first | done | rfl | (simp only [List.length_drop, List.length_take]; rfl)) ?_; (with_reducible refine (mem_Load.calls _ _ y104 _ _ y101 3 t109 t110 _ ?side1 ?side2 ?side3 ?side4 A2.out).mono ?_); (case side1 => repeat (first | exact (Kd.R_reads' HO106.out).2.2 | (with_reducible refine Kd.C_alloc ?_ _) | (with_reducible refine Kd.C_drewN ?_ _) | (with_reducible refine Kd.C_drew ?_))); (case side2 => exact (Kd.R_reads' HO106.out).2.1); (case side3 => repeat (first | exact (Kd.R_reads' HO103.out).2.2 | (with_reducible refine Kd.C_alloc ?_ _) | (with_reducible refine Kd.C_drewN ?_ _) | (with_reducible refine Kd.C_drew ?_))); (case side4 => exact (Kd.R_reads' HO103.out).2.1); rintro e w23 ⟨rfl, hb⟩; refine ⟨_, rfl, ?_⟩; have n0_ := Aside0.mk (Kd.R_below (by (with_reducible repeat (first | apply Kd.R_alloc | apply Kd.R_drewN | apply Kd.R_drew)); exact HO103.out) hb); have n1_ := Aside0.mk (Kd.R_below (by (with_reducible repeat (first | apply Kd.R_alloc | apply Kd.R_drewN | apply Kd.R_drew)); exact HO106.out) hb); have n2_ := Aside0.mk (below_step (by repeat (first | (with_reducible first | exact HB.out | apply below_alloc | apply pw_below_drewN | apply below_drew1) | exact HB.out)) hb); clear HO103; clear HO106; clear HB; have HO103 := n0_; have HO106 := n1_; have HB := n2_; clear n0_ n1_ n2_; (try clear hb); (try clear hb2); (try clear hk); (try clear hi)))
        go_ret
        exact ⟨by first | rfl | (simp [errW_none, errW_some] <;> rfl) | (simp [*, errW_none, errW_some] <;> rfl), by repeat (first | (with_reducible first | exact HB.out | apply below_alloc | apply pw_below_drewN | apply below_drew1) | exact HB.out)⟩
    · rw [if_neg c4] at H
      have c4b0 : (t110 == 0) = false := beq_eq_false_iff_ne.mpr c4
      have c4b1 : (t110 != 0) = true := bne_iff_ne.mpr c4
      obtain rfl := Option.some.inj H
      go_enter Try.func9, Try.ntmps9
      go_wp2_with (first | ((with_reducible refine gate_dst (N := 8) rfl ?_); refine Kd.R_lit k26 _ 26 ?hg (N := 8) ?hd (xs := ([(⟨2, 2, false⟩ : S26)] : List (S26))) (inner := [.int .i64 2, .int .i64 2, .bool false]) (ok := fun _ => True) (okp := fun _ => True) ?hr ?hp (fun _ hk => hk) trivial (Below.refl _ _) (Nat.le_refl _) (by simp) ?_; (case hd => rfl); (case hg => rfl); (case hr => first | (go_simp; done) | (go_simp; rfl)); (case hp => exact (Reps.c3 (show Kd.M k26 _ _ _ (⟨2, 2, false⟩ : S26) [.int .i64 2, .int .i64 2, .bool false] from (k26_mkM _ _ _ (⟨2, 2, false⟩ : S26) )) (Reps.none _ _))); intro v102 w24 ho25 hb hg_ hnew_; clear hg_ hnew_; (first | rw [← Ny101.out] at ho25 | (simp only [Int.reduceToNat] at ho25; rw [← Ny101.out] at ho25)); have n0_ := Aside0.mk (Kd.R_lower ho25 (below_size (by repeat (first | (with_reducible first | exact HB.out | apply below_alloc | apply pw_below_drewN | apply below_drew1) | exact HB.out)))); have n1_ := Aside0.mk (below_step (by repeat (first | (with_reducible first | exact HB.out | apply below_alloc | apply pw_below_drewN | apply below_drew1) | exact HB.out)) hb); clear HB; have HO103 := n0_; have HB := n1_; clear n0_ n1_; clear hb ho25) | ((with_reducible refine gate_dst (N := 9) rfl ?_); refine Kd.R_lit (Kd.int .i64) _ 3 ?hg (N := 9) ?hd (xs := ([5, 6, 7, 8] : List Int)) (inner := [.int .i64 5, .int .i64 6, .int .i64 7, .int .i64 8]) (ok := fun _ => True) (okp := fun _ => True) ?hr ?hp (fun _ hk => hk) trivial (Below.refl _ _) (Nat.le_refl _) (by simp) ?_; (case hd => rfl); (case hg => rfl); (case hr => first | (go_simp; done) | (go_simp; rfl)); (case hp => exact (Reps.one (show Kd.M (Kd.int .i64) _ _ _ 5 [.int .i64 5] from rfl) (Reps.one (show Kd.M (Kd.int .i64) _ _ _ 6 [.int .i64 6] from rfl) (Reps.one (show Kd.M (Kd.int .i64) _ _ _ 7 [.int .i64 7] from rfl) (Reps.one (show Kd.M (Kd.int .i64) _ _ _ 8 [.int .i64 8] from rfl) (Reps.none _ _)))))); intro v105 w26 ho27 hb hg_ hnew_; clear hg_ hnew_; (first | rw [← Ny104.out] at ho27 | (simp only [Int.reduceToNat] at ho27; rw [← Ny104.out] at ho27)); have n0_ := Aside0.mk (Kd.R_below (by (with_reducible repeat (first | apply Kd.R_alloc | apply Kd.R_drewN | apply Kd.R_drew)); exact HO103.out) hb); have n1_ := Aside0.mk (Kd.R_lower ho27 (below_size (by repeat (first | (with_reducible first | exact HB.out | apply below_alloc | apply pw_below_drewN | apply below_drew1) | exact HB.out)))); have n2_ := Aside0.mk (below_step (by repeat (first | (with_reducible first | exact HB.out | apply below_alloc | apply pw_below_drewN | apply below_drew1) | exact HB.out)) hb); clear HO103; clear HB; have HO103 := n0_; have HO106 := n1_; have HB := n2_; clear n0_ n1_ n2_; clear hb ho27; obtain ⟨Ao28, co28, eo28⟩ := Kd.R_slice HO106.out; subst eo28; obtain ⟨Ao29, co29, eo29⟩ := Kd.R_slice HO103.out; subst eo29) | ((with_reducible refine gate_callee (f := 13) rfl ?_); refine goesL_ (some 13) rfl rfl Try.func13 (by kernel_rfl) rfl #[.slice Ao28 y104.length co28, .slice Ao29 y101.length co29, .int .i64 1] rfl (by (try simp only [List.map_toArray, List.map_cons, List.map_nil]); first | done | rfl | (simp only [List.length_drop, List.length_take]; rfl)) ?_; (with_reducible refine (mem_Load.calls _ _ y104 _ _ y101 1 t107 t108 _ ?side1 ?side2 ?side3 ?side4 A1.out).mono ?_); (case side1 => repeat (first | exact (Kd.R_reads' HO106.out).2.2 | (with_reducible refine Kd.C_alloc ?_ _) | (with_reducible refine Kd.C_drewN ?_ _) | (with_reducible refine Kd.C_drew ?_))); (case side2 => exact (Kd.R_reads' HO106.out).2.1); (case side3 => repeat (first | exact (Kd.R_reads' HO103.out).2.2 | (with_reducible refine Kd.C_alloc ?_ _) | (with_reducible refine Kd.C_drewN ?_ _) | (with_reducible refine Kd.C_drew ?_))); (case side4 => exact (Kd.R_reads' HO103.out).2.1); rintro e w30 ⟨rfl, hb⟩; refine ⟨_, rfl, ?_⟩; have n0_ := Aside0.mk (Kd.R_below (by (with_reducible repeat (first | apply Kd.R_alloc | apply Kd.R_drewN | apply Kd.R_drew)); exact HO103.out) hb); have n1_ := Aside0.mk (Kd.R_below (by (with_reducible repeat (first | apply Kd.R_alloc | apply Kd.R_drewN | apply Kd.R_drew)); exact HO106.out) hb); have n2_ := Aside0.mk (below_step (by repeat (first | (with_reducible first | exact HB.out | apply below_alloc | apply pw_below_drewN | apply below_drew1) | exact HB.out)) hb); clear HO103; clear HO106; clear HB; have HO103 := n0_; have HO106 := n1_; have HB := n2_; clear n0_ n1_ n2_; (try clear hb); (try clear hb2); (try clear hk); (try clear hi)) | ((with_reducible refine gate_callee (f := 13) rfl ?_); refine goesL_ (some 19) rfl rfl Try.func13 (by kernel_rfl) rfl #[.slice Ao28 y104.length co28, .slice Ao29 y101.length co29, .int .i64 3] rfl (by (try simp only [List.map_toArray, List.map_cons, List.map_nil]); first | done | rfl | (simp only [List.length_drop, List.length_take]; rfl)) ?_; (with_reducible refine (mem_Load.calls _ _ y104 _ _ y101 3 t109 t110 _ ?side1 ?side2 ?side3 ?side4 A2.out).mono ?_); (case side1 => repeat (first | exact (Kd.R_reads' HO106.out).2.2 | (with_reducible refine Kd.C_alloc ?_ _) | (with_reducible refine Kd.C_drewN ?_ _) | (with_reducible refine Kd.C_drew ?_))); (case side2 => exact (Kd.R_reads' HO106.out).2.1); (case side3 => repeat (first | exact (Kd.R_reads' HO103.out).2.2 | (with_reducible refine Kd.C_alloc ?_ _) | (with_reducible refine Kd.C_drewN ?_ _) | (with_reducible refine Kd.C_drew ?_))); (case side4 => exact (Kd.R_reads' HO103.out).2.1); rintro e w31 ⟨rfl, hb⟩; refine ⟨_, rfl, ?_⟩; have n0_ := Aside0.mk (Kd.R_below (by (with_reducible repeat (first | apply Kd.R_alloc | apply Kd.R_drewN | apply Kd.R_drew)); exact HO103.out) hb); have n1_ := Aside0.mk (Kd.R_below (by (with_reducible repeat (first | apply Kd.R_alloc | apply Kd.R_drewN | apply Kd.R_drew)); exact HO106.out) hb); have n2_ := Aside0.mk (below_step (by repeat (first | (with_reducible first | exact HB.out | apply below_alloc | apply pw_below_drewN | apply below_drew1) | exact HB.out)) hb); clear HO103; clear HO106; clear HB; have HO103 := n0_; have HO106 := n1_; have HB := n2_; clear n0_ n1_ n2_; (try clear hb); (try clear hb2); (try clear hk); (try clear hi)))
      go_ret
      exact ⟨by first | rfl | (simp [errW_none, errW_some] <;> rfl) | (simp [*, errW_none, errW_some] <;> rfl), by repeat (first | (with_reducible first | exact HB.out | apply below_alloc | apply pw_below_drewN | apply below_drew1) | exact HB.out)⟩
  · rw [if_neg c3] at H
    have c3b0 : (t108 == 6) = false := beq_eq_false_iff_ne.mpr c3
    have c3b1 : (t108 != 6) = true := bne_iff_ne.mpr c3
    obtain rfl := Option.some.inj H
    go_enter Try.func9, Try.ntmps9
    go_wp2_with (first | ((with_reducible refine gate_dst (N := 8) rfl ?_); refine Kd.R_lit k26 _ 26 ?hg (N := 8) ?hd (xs := ([(⟨2, 2, false⟩ : S26)] : List (S26))) (inner := [.int .i64 2, .int .i64 2, .bool false]) (ok := fun _ => True) (okp := fun _ => True) ?hr ?hp (fun _ hk => hk) trivial (Below.refl _ _) (Nat.le_refl _) (by simp) ?_; (case hd => rfl); (case hg => rfl); (case hr => first | (go_simp; done) | (go_simp; rfl)); (case hp => exact (Reps.c3 (show Kd.M k26 _ _ _ (⟨2, 2, false⟩ : S26) [.int .i64 2, .int .i64 2, .bool false] from (k26_mkM _ _ _ (⟨2, 2, false⟩ : S26) )) (Reps.none _ _))); intro v102 w32 ho33 hb hg_ hnew_; clear hg_ hnew_; (first | rw [← Ny101.out] at ho33 | (simp only [Int.reduceToNat] at ho33; rw [← Ny101.out] at ho33)); have n0_ := Aside0.mk (Kd.R_lower ho33 (below_size (by repeat (first | (with_reducible first | exact HB.out | apply below_alloc | apply pw_below_drewN | apply below_drew1) | exact HB.out)))); have n1_ := Aside0.mk (below_step (by repeat (first | (with_reducible first | exact HB.out | apply below_alloc | apply pw_below_drewN | apply below_drew1) | exact HB.out)) hb); clear HB; have HO103 := n0_; have HB := n1_; clear n0_ n1_; clear hb ho33) | ((with_reducible refine gate_dst (N := 9) rfl ?_); refine Kd.R_lit (Kd.int .i64) _ 3 ?hg (N := 9) ?hd (xs := ([5, 6, 7, 8] : List Int)) (inner := [.int .i64 5, .int .i64 6, .int .i64 7, .int .i64 8]) (ok := fun _ => True) (okp := fun _ => True) ?hr ?hp (fun _ hk => hk) trivial (Below.refl _ _) (Nat.le_refl _) (by simp) ?_; (case hd => rfl); (case hg => rfl); (case hr => first | (go_simp; done) | (go_simp; rfl)); (case hp => exact (Reps.one (show Kd.M (Kd.int .i64) _ _ _ 5 [.int .i64 5] from rfl) (Reps.one (show Kd.M (Kd.int .i64) _ _ _ 6 [.int .i64 6] from rfl) (Reps.one (show Kd.M (Kd.int .i64) _ _ _ 7 [.int .i64 7] from rfl) (Reps.one (show Kd.M (Kd.int .i64) _ _ _ 8 [.int .i64 8] from rfl) (Reps.none _ _)))))); intro v105 w34 ho35 hb hg_ hnew_; clear hg_ hnew_; (first | rw [← Ny104.out] at ho35 | (simp only [Int.reduceToNat] at ho35; rw [← Ny104.out] at ho35)); have n0_ := Aside0.mk (Kd.R_below (by (with_reducible repeat (first | apply Kd.R_alloc | apply Kd.R_drewN | apply Kd.R_drew)); exact HO103.out) hb); have n1_ := Aside0.mk (Kd.R_lower ho35 (below_size (by repeat (first | (with_reducible first | exact HB.out | apply below_alloc | apply pw_below_drewN | apply below_drew1) | exact HB.out)))); have n2_ := Aside0.mk (below_step (by repeat (first | (with_reducible first | exact HB.out | apply below_alloc | apply pw_below_drewN | apply below_drew1) | exact HB.out)) hb); clear HO103; clear HB; have HO103 := n0_; have HO106 := n1_; have HB := n2_; clear n0_ n1_ n2_; clear hb ho35; obtain ⟨Ao36, co36, eo36⟩ := Kd.R_slice HO106.out; subst eo36; obtain ⟨Ao37, co37, eo37⟩ := Kd.R_slice HO103.out; subst eo37) | ((with_reducible refine gate_callee (f := 13) rfl ?_); refine goesL_ (some 13) rfl rfl Try.func13 (by kernel_rfl) rfl #[.slice Ao36 y104.length co36, .slice Ao37 y101.length co37, .int .i64 1] rfl (by (try simp only [List.map_toArray, List.map_cons, List.map_nil]); first | done | rfl | (simp only [List.length_drop, List.length_take]; rfl)) ?_; (with_reducible refine (mem_Load.calls _ _ y104 _ _ y101 1 t107 t108 _ ?side1 ?side2 ?side3 ?side4 A1.out).mono ?_); (case side1 => repeat (first | exact (Kd.R_reads' HO106.out).2.2 | (with_reducible refine Kd.C_alloc ?_ _) | (with_reducible refine Kd.C_drewN ?_ _) | (with_reducible refine Kd.C_drew ?_))); (case side2 => exact (Kd.R_reads' HO106.out).2.1); (case side3 => repeat (first | exact (Kd.R_reads' HO103.out).2.2 | (with_reducible refine Kd.C_alloc ?_ _) | (with_reducible refine Kd.C_drewN ?_ _) | (with_reducible refine Kd.C_drew ?_))); (case side4 => exact (Kd.R_reads' HO103.out).2.1); rintro e w38 ⟨rfl, hb⟩; refine ⟨_, rfl, ?_⟩; have n0_ := Aside0.mk (Kd.R_below (by (with_reducible repeat (first | apply Kd.R_alloc | apply Kd.R_drewN | apply Kd.R_drew)); exact HO103.out) hb); have n1_ := Aside0.mk (Kd.R_below (by (with_reducible repeat (first | apply Kd.R_alloc | apply Kd.R_drewN | apply Kd.R_drew)); exact HO106.out) hb); have n2_ := Aside0.mk (below_step (by repeat (first | (with_reducible first | exact HB.out | apply below_alloc | apply pw_below_drewN | apply below_drew1) | exact HB.out)) hb); clear HO103; clear HO106; clear HB; have HO103 := n0_; have HO106 := n1_; have HB := n2_; clear n0_ n1_ n2_; (try clear hb); (try clear hb2); (try clear hk); (try clear hi)) | ((with_reducible refine gate_callee (f := 13) rfl ?_); refine goesL_ (some 19) rfl rfl Try.func13 (by kernel_rfl) rfl #[.slice Ao36 y104.length co36, .slice Ao37 y101.length co37, .int .i64 3] rfl (by (try simp only [List.map_toArray, List.map_cons, List.map_nil]); first | done | rfl | (simp only [List.length_drop, List.length_take]; rfl)) ?_; (with_reducible refine (mem_Load.calls _ _ y104 _ _ y101 3 t109 t110 _ ?side1 ?side2 ?side3 ?side4 A2.out).mono ?_); (case side1 => repeat (first | exact (Kd.R_reads' HO106.out).2.2 | (with_reducible refine Kd.C_alloc ?_ _) | (with_reducible refine Kd.C_drewN ?_ _) | (with_reducible refine Kd.C_drew ?_))); (case side2 => exact (Kd.R_reads' HO106.out).2.1); (case side3 => repeat (first | exact (Kd.R_reads' HO103.out).2.2 | (with_reducible refine Kd.C_alloc ?_ _) | (with_reducible refine Kd.C_drewN ?_ _) | (with_reducible refine Kd.C_drew ?_))); (case side4 => exact (Kd.R_reads' HO103.out).2.1); rintro e w39 ⟨rfl, hb⟩; refine ⟨_, rfl, ?_⟩; have n0_ := Aside0.mk (Kd.R_below (by (with_reducible repeat (first | apply Kd.R_alloc | apply Kd.R_drewN | apply Kd.R_drew)); exact HO103.out) hb); have n1_ := Aside0.mk (Kd.R_below (by (with_reducible repeat (first | apply Kd.R_alloc | apply Kd.R_drewN | apply Kd.R_drew)); exact HO106.out) hb); have n2_ := Aside0.mk (below_step (by repeat (first | (with_reducible first | exact HB.out | apply below_alloc | apply pw_below_drewN | apply below_drew1) | exact HB.out)) hb); clear HO103; clear HO106; clear HB; have HO103 := n0_; have HO106 := n1_; have HB := n2_; clear n0_ n1_ n2_; (try clear hb); (try clear hb2); (try clear hk); (try clear hi)))
    go_ret
    exact ⟨by first | rfl | (simp [errW_none, errW_some] <;> rfl) | (simp [*, errW_none, errW_some] <;> rfl), by repeat (first | (with_reducible first | exact HB.out | apply below_alloc | apply pw_below_drewN | apply below_drew1) | exact HB.out)⟩

/-! ### quarterdeckref03_in: function 26 -/
mutual
def quarterdeckref03_in.l0 : Nat → Int → Int → Int → Int → Bool → Option (Bool)
  | 0, _, _, _, _, _ => none
  | k + 1, x1, x5, x113000, x113001, x113002 => if x5 < x113001 then (quarterdeckref03_in.j1 k x1 x5 (decide (x5 < 200)) x113000 x113001 x113002) else (quarterdeckref03_in.j1 k x1 x5 false x113000 x113001 x113002)
def quarterdeckref03_in.j1 : Nat → Int → Int → Bool → Int → Int → Bool → Option (Bool)
  | 0, _, _, _, _, _, _ => none
  | k + 1, x1, x5, x13, x113000, x113001, x113002 => if x13 = true then (if x113000 ≥ 0 then (if x113000 < 1000 then (if (wrap64 (x113000 + x5)) = x1 then (some true) else (quarterdeckref03_in.l0 k x1 (wrap64 (x5 + 1)) x113000 x113001 x113002)) else (quarterdeckref03_in.l0 k x1 (wrap64 (x5 + 1)) x113000 x113001 x113002)) else (quarterdeckref03_in.l0 k x1 (wrap64 (x5 + 1)) x113000 x113001 x113002)) else (some false)
end
def quarterdeckref03_in.f (k : Nat) (a0_0 : Int) (a0_1 : Int) (a0_2 : Bool) (a1 : Int) : Option (Bool) := quarterdeckref03_in.l0 k a1 0 a0_0 a0_1 a0_2
theorem quarterdeckref03_in.mono_l : ∀ k, (∀ y0 y1 y2 y3 y4, LeO (quarterdeckref03_in.l0 k y0 y1 y2 y3 y4) (quarterdeckref03_in.l0 (k + 1) y0 y1 y2 y3 y4)) ∧ (∀ y0 y1 y2 y3 y4 y5, LeO (quarterdeckref03_in.j1 k y0 y1 y2 y3 y4 y5) (quarterdeckref03_in.j1 (k + 1) y0 y1 y2 y3 y4 y5))
  | 0 => ⟨fun _ _ _ _ _ r h => by simp [quarterdeckref03_in.l0] at h, fun _ _ _ _ _ _ r h => by simp [quarterdeckref03_in.j1] at h⟩
  | k + 1 => by
    obtain ⟨ih0, ih1⟩ := quarterdeckref03_in.mono_l k
    refine ⟨?_, ?_⟩
    · intro y0 y1 y2 y3 y4
      unfold quarterdeckref03_in.l0
      repeat' first
      | (with_reducible exact ih0 _ _ _ _ _)
      | (with_reducible exact ih1 _ _ _ _ _ _)
      | (with_reducible exact LeO.refl _)
      | (with_reducible exact LeO.none _)
      | (with_reducible refine LeO.ite ?_ ?_)
      | (with_reducible refine LeO.bind ?_ (fun _ => ?_))
      | exact ih0 _ _ _ _ _
      | exact ih1 _ _ _ _ _ _
      | exact LeO.none _
      | refine LeO.ite ?_ ?_
      | refine LeO.bind ?_ (fun _ => ?_)
    · intro y0 y1 y2 y3 y4 y5
      unfold quarterdeckref03_in.j1
      repeat' first
      | (with_reducible exact ih0 _ _ _ _ _)
      | (with_reducible exact ih1 _ _ _ _ _ _)
      | (with_reducible exact LeO.refl _)
      | (with_reducible exact LeO.none _)
      | (with_reducible refine LeO.ite ?_ ?_)
      | (with_reducible refine LeO.bind ?_ (fun _ => ?_))
      | exact ih0 _ _ _ _ _
      | exact ih1 _ _ _ _ _ _
      | exact LeO.none _
      | refine LeO.ite ?_ ?_
      | refine LeO.bind ?_ (fun _ => ?_)
theorem quarterdeckref03_in.mono : ∀ a0 a1 a2 a3 k, LeO (quarterdeckref03_in.f k a0 a1 a2 a3) (quarterdeckref03_in.f (k + 1) a0 a1 a2 a3) := by
  intro a0 a1 a2 a3 k
  obtain ⟨ih0, ih1⟩ := quarterdeckref03_in.mono_l k
  unfold quarterdeckref03_in.f
  repeat' first
      | (with_reducible exact ih0 _ _ _ _ _)
      | (with_reducible exact ih1 _ _ _ _ _ _)
      | (with_reducible exact LeO.refl _)
      | (with_reducible exact LeO.none _)
      | (with_reducible refine LeO.ite ?_ ?_)
      | (with_reducible refine LeO.bind ?_ (fun _ => ?_))
      | exact ih0 _ _ _ _ _
      | exact ih1 _ _ _ _ _ _
      | exact LeO.none _
      | refine LeO.ite ?_ ?_
      | refine LeO.bind ?_ (fun _ => ?_)
set_option maxHeartbeats 8000000 in
set_option maxRecDepth 100000 in
theorem quarterdeckref03_in.calls (k : Nat) (a0_0 : Int) (a0_1 : Int) (a0_2 : Bool) (a1 : Int) (r : Bool) (w : World) (h : quarterdeckref03_in.f k a0_0 a0_1 a0_2 a1 = some r) :
    Calls Try.prog 26 #[.agg #[.int .i64 a0_0, .int .i64 a0_1, .bool a0_2], .int .i64 a1] w fun e w' => e = .returned (.bool r) ∧ Below w.heap.size w w' := by
  have hu26 := Try.underlying26
  have HB := Aside0.mk (Below.refl w.heap.size w)
  have H : (quarterdeckref03_in.l0 k a1 0 a0_0 a0_1 a0_2) = some r := h
  clear h
  have H' := Aside0.mk H
  clear H
  go_enter Try.func26, Try.ntmps26
  go_wp2_with (first | ((with_reducible refine gate_dst (N := 2) rfl ?_); refine box_event ?hg (N := 2) ?hd (cs := #[.int .i64 a0_0, .int .i64 a0_1, .bool a0_2]) (t := 26) ?hr ?_; (case hd => rfl); (case hg => rfl); (case hr => first | (go_simp; done) | (go_simp; rfl)); intro gb112 hg w3 hbox hb; have n0_ := Aside0.mk (below_step (by repeat (first | (with_reducible first | exact HB.out | apply below_alloc | apply pw_below_drewN | apply below_drew1) | exact HB.out)) hb); have n1_ := Aside0.mk (hbox); have n2_ := Aside0.mk ((by rw [hg]; exact (below_size (by repeat (first | (with_reducible first | exact HB.out | apply below_alloc | apply pw_below_drewN | apply below_drew1) | exact HB.out))) : w.heap.size ≤ gb112)); have n3_ := Aside0.mk ((by rw [hg]; exact (below_size (by repeat (first | (with_reducible first | exact HB.out | apply below_alloc | apply pw_below_drewN | apply below_drew1) | exact HB.out))) : w.heap.size ≤ gb112)); clear HB; have HB := n0_; have BK112 := n1_; have GW112 := n2_; have GE112 := n3_; clear n0_ n1_ n2_ n3_; clear hb hbox hg))
  go_loopg [5] k (fun kq v5 w' => ∃ (x5_1 : Int), v5 = .int .i64 x5_1 ∧ Aside0 (quarterdeckref03_in.l0 kq a1 x5_1 a0_0 a0_1 a0_2 = some r) ∧ Aside0 (kq ≤ k) ∧ Aside0 (w'.heap[gb112]? = some (.cells #[.int .i64 a0_0, .int .i64 a0_1, .bool a0_2] 26 (0, 0))) ∧ Aside0 (Below w.heap.size w w'))
  case atStart => exact ⟨(0), (by first | rfl | (simp; done) | (simp [*]; done)), H', ⟨Nat.le_refl _⟩, ⟨by (with_reducible repeat (first | refine blk_drewN ?_ _ | refine blk_drew ?_ | refine blk_alloc ?_ _)); exact BK112.out⟩, ⟨by repeat (first | (with_reducible first | exact HB.out | apply below_alloc | apply pw_below_drewN | apply below_drew1 | refine below_set ?_ GE112.out) | exact HB.out)⟩⟩
  case round =>
    clear H'
    try clear c2
    try clear p2
    obtain ⟨x5_1, rfl, HA, HK1, BK112, HB⟩ := hrel
    cases gk with
    | zero => exact absurd HA.out (by simp [quarterdeckref03_in.l0])
    | succ k1 =>
      have H := HA.out
      clear HA
      simp only [quarterdeckref03_in.l0] at H
      have HC4 := Aside0.mk H
      clear H
      go_upto_region 2 with (fail)
      go_cut [13] (fun v13 wc => ∃ (kq : Nat) (x13_3 : Bool), v13 = .bool x13_3 ∧ Aside0 (quarterdeckref03_in.j1 kq a1 x5_1 x13_3 a0_0 a0_1 a0_2 = some r) ∧ Aside0 (kq ≤ k1) ∧ Aside0 (wc.heap[gb112]? = some (.cells #[.int .i64 a0_0, .int .i64 a0_1, .bool a0_2] 26 (0, 0))) ∧ Aside0 (Below w.heap.size w wc))
      case first =>
        have H := HC4.out
        clear HC4
        by_cases c5 : x5_1 < a0_1
        · rw [if_pos c5] at H
          have c5b0 : decide (x5_1 < a0_1) = true := decide_eq_true c5
          clear c5
          (first | rw [c5b0] | (simp only [i64_w, i32_w]; rw [c5b0]) | skip)
          have H' := Aside0.mk H
          clear H
          have hcz6_0 : wr.cell? ⟨gb112, 0, none⟩ = some (.int .i64 a0_0) := (blk_cell BK112.out 0).trans rfl
          have hcz6_1 : wr.cell? ⟨gb112, 1, none⟩ = some (.int .i64 a0_1) := (blk_cell BK112.out 1).trans rfl
          have hcz6_2 : wr.cell? ⟨gb112, 2, none⟩ = some (.bool a0_2) := (blk_cell BK112.out 2).trans rfl
          have hfz6_0 := blk_frozen BK112.out 0
          have hfz6_1 := blk_frozen BK112.out 1
          have hfz6_2 := blk_frozen BK112.out 2
          go_wp2
          go_meet
          case rel => exact ⟨_, (decide (x5_1 < 200)), (by first | rfl | (simp; done) | (simp [*]; done)), H', ⟨by have := HK1.out; first | omega | exact Nat.le_refl _⟩, ⟨by (with_reducible repeat (first | refine blk_drewN ?_ _ | refine blk_drew ?_ | refine blk_alloc ?_ _)); exact BK112.out⟩, ⟨by repeat (first | (with_reducible first | exact HB.out | apply below_alloc | apply pw_below_drewN | apply below_drew1 | refine below_set ?_ GE112.out) | exact HB.out)⟩⟩
        · rw [if_neg c5] at H
          have c5b0 : decide (x5_1 < a0_1) = false := decide_eq_false c5
          clear c5
          (first | rw [c5b0] | (simp only [i64_w, i32_w]; rw [c5b0]) | skip)
          have H' := Aside0.mk H
          clear H
          have hcz7_0 : wr.cell? ⟨gb112, 0, none⟩ = some (.int .i64 a0_0) := (blk_cell BK112.out 0).trans rfl
          have hcz7_1 : wr.cell? ⟨gb112, 1, none⟩ = some (.int .i64 a0_1) := (blk_cell BK112.out 1).trans rfl
          have hcz7_2 : wr.cell? ⟨gb112, 2, none⟩ = some (.bool a0_2) := (blk_cell BK112.out 2).trans rfl
          have hfz7_0 := blk_frozen BK112.out 0
          have hfz7_1 := blk_frozen BK112.out 1
          have hfz7_2 := blk_frozen BK112.out 2
          go_wp2
          go_meet
          case rel => exact ⟨_, (false), (by first | rfl | (simp; done) | (simp [*]; done)), H', ⟨by have := HK1.out; first | omega | exact Nat.le_refl _⟩, ⟨by (with_reducible repeat (first | refine blk_drewN ?_ _ | refine blk_drew ?_ | refine blk_alloc ?_ _)); exact BK112.out⟩, ⟨by repeat (first | (with_reducible first | exact HB.out | apply below_alloc | apply pw_below_drewN | apply below_drew1 | refine below_set ?_ GE112.out) | exact HB.out)⟩⟩
      case rest =>
        clear HC4
        try clear c2
        try clear p2
        try clear c5
        try clear c5b0
        try clear hcz6_0
        try clear hcz6_1
        try clear hcz6_2
        try clear hcz7_0
        try clear hcz7_1
        try clear hcz7_2
        try clear hfz6_0
        try clear hfz6_1
        try clear hfz6_2
        try clear hfz7_0
        try clear hfz7_1
        try clear hfz7_2
        try clear p2
        obtain ⟨kq, x13_3, rfl, HA, HJ3, BK112, HB⟩ := hcut
        cases kq with
        | zero => exact absurd HA.out (by simp [quarterdeckref03_in.j1])
        | succ kj3 =>
          have H := HA.out
          clear HA
          simp only [quarterdeckref03_in.j1] at H
          by_cases c8 : x13_3 = true
          · subst c8
            have H1 : (if a0_0 ≥ 0 then (if a0_0 < 1000 then (if (wrap64 (a0_0 + x5_1)) = a1 then (some true) else (quarterdeckref03_in.l0 kj3 a1 (wrap64 (x5_1 + 1)) a0_0 a0_1 a0_2)) else (quarterdeckref03_in.l0 kj3 a1 (wrap64 (x5_1 + 1)) a0_0 a0_1 a0_2)) else (quarterdeckref03_in.l0 kj3 a1 (wrap64 (x5_1 + 1)) a0_0 a0_1 a0_2)) = some r := by rw [if_pos rfl] at H; exact H
            clear H
            have H := H1
            clear H1
            by_cases c9 : a0_0 ≥ 0
            · rw [if_pos c9] at H
              have c9b0 : decide (0 ≤ a0_0) = true := decide_eq_true c9
              clear c9
              by_cases c10 : a0_0 < 1000
              · rw [if_pos c10] at H
                have c10b0 : decide (a0_0 < 1000) = true := decide_eq_true c10
                clear c10
                by_cases c11 : (wrap64 (a0_0 + x5_1)) = a1
                · rw [if_pos c11] at H
                  have c11b0 : ((wrap64 (a0_0 + x5_1)) == a1) = true := beq_iff_eq.mpr c11
                  have c11b1 : ((wrap64 (a0_0 + x5_1)) != a1) = false := bne_eq_false_iff_eq.mpr c11
                  clear c11
                  obtain rfl := Option.some.inj H
                  have hcz12_0 : wc.cell? ⟨gb112, 0, none⟩ = some (.int .i64 a0_0) := (blk_cell BK112.out 0).trans rfl
                  have hcz12_1 : wc.cell? ⟨gb112, 1, none⟩ = some (.int .i64 a0_1) := (blk_cell BK112.out 1).trans rfl
                  have hcz12_2 : wc.cell? ⟨gb112, 2, none⟩ = some (.bool a0_2) := (blk_cell BK112.out 2).trans rfl
                  have hfz12_0 := blk_frozen BK112.out 0
                  have hfz12_1 := blk_frozen BK112.out 1
                  have hfz12_2 := blk_frozen BK112.out 2
                  go_wp2
                  go_ret
                  exact ⟨by first | rfl | (simp [errW_none, errW_some] <;> rfl) | (simp [*, errW_none, errW_some] <;> rfl), by repeat (first | (with_reducible first | exact HB.out | apply below_alloc | apply pw_below_drewN | apply below_drew1 | refine below_set ?_ GE112.out) | exact HB.out)⟩
                · rw [if_neg c11] at H
                  have c11b0 : ((wrap64 (a0_0 + x5_1)) == a1) = false := beq_eq_false_iff_ne.mpr c11
                  have c11b1 : ((wrap64 (a0_0 + x5_1)) != a1) = true := bne_iff_ne.mpr c11
                  have H' := Aside0.mk H
                  clear H
                  have hcz13_0 : wc.cell? ⟨gb112, 0, none⟩ = some (.int .i64 a0_0) := (blk_cell BK112.out 0).trans rfl
                  have hcz13_1 : wc.cell? ⟨gb112, 1, none⟩ = some (.int .i64 a0_1) := (blk_cell BK112.out 1).trans rfl
                  have hcz13_2 : wc.cell? ⟨gb112, 2, none⟩ = some (.bool a0_2) := (blk_cell BK112.out 2).trans rfl
                  have hfz13_0 := blk_frozen BK112.out 0
                  have hfz13_1 := blk_frozen BK112.out 1
                  have hfz13_2 := blk_frozen BK112.out 2
                  go_wp2
                  go_roundg kj3
                  case measure => have := HK1.out; have := HJ3.out; omega
                  case rel => exact ⟨(wrap64 (x5_1 + 1)), (by first | rfl | (simp; done) | (simp [*]; done)), H', ⟨by have := HK1.out; have := HJ3.out; omega⟩, ⟨by (with_reducible repeat (first | refine blk_drewN ?_ _ | refine blk_drew ?_ | refine blk_alloc ?_ _)); exact BK112.out⟩, ⟨by repeat (first | (with_reducible first | exact HB.out | apply below_alloc | apply pw_below_drewN | apply below_drew1 | refine below_set ?_ GE112.out) | exact HB.out)⟩⟩
              · rw [if_neg c10] at H
                have c10b0 : decide (a0_0 < 1000) = false := decide_eq_false c10
                clear c10
                have H' := Aside0.mk H
                clear H
                have hcz14_0 : wc.cell? ⟨gb112, 0, none⟩ = some (.int .i64 a0_0) := (blk_cell BK112.out 0).trans rfl
                have hcz14_1 : wc.cell? ⟨gb112, 1, none⟩ = some (.int .i64 a0_1) := (blk_cell BK112.out 1).trans rfl
                have hcz14_2 : wc.cell? ⟨gb112, 2, none⟩ = some (.bool a0_2) := (blk_cell BK112.out 2).trans rfl
                have hfz14_0 := blk_frozen BK112.out 0
                have hfz14_1 := blk_frozen BK112.out 1
                have hfz14_2 := blk_frozen BK112.out 2
                go_wp2
                go_roundg kj3
                case measure => have := HK1.out; have := HJ3.out; omega
                case rel => exact ⟨(wrap64 (x5_1 + 1)), (by first | rfl | (simp; done) | (simp [*]; done)), H', ⟨by have := HK1.out; have := HJ3.out; omega⟩, ⟨by (with_reducible repeat (first | refine blk_drewN ?_ _ | refine blk_drew ?_ | refine blk_alloc ?_ _)); exact BK112.out⟩, ⟨by repeat (first | (with_reducible first | exact HB.out | apply below_alloc | apply pw_below_drewN | apply below_drew1 | refine below_set ?_ GE112.out) | exact HB.out)⟩⟩
            · rw [if_neg c9] at H
              have c9b0 : decide (0 ≤ a0_0) = false := decide_eq_false c9
              clear c9
              have H' := Aside0.mk H
              clear H
              have hcz15_0 : wc.cell? ⟨gb112, 0, none⟩ = some (.int .i64 a0_0) := (blk_cell BK112.out 0).trans rfl
              have hcz15_1 : wc.cell? ⟨gb112, 1, none⟩ = some (.int .i64 a0_1) := (blk_cell BK112.out 1).trans rfl
              have hcz15_2 : wc.cell? ⟨gb112, 2, none⟩ = some (.bool a0_2) := (blk_cell BK112.out 2).trans rfl
              have hfz15_0 := blk_frozen BK112.out 0
              have hfz15_1 := blk_frozen BK112.out 1
              have hfz15_2 := blk_frozen BK112.out 2
              go_wp2
              go_roundg kj3
              case measure => have := HK1.out; have := HJ3.out; omega
              case rel => exact ⟨(wrap64 (x5_1 + 1)), (by first | rfl | (simp; done) | (simp [*]; done)), H', ⟨by have := HK1.out; have := HJ3.out; omega⟩, ⟨by (with_reducible repeat (first | refine blk_drewN ?_ _ | refine blk_drew ?_ | refine blk_alloc ?_ _)); exact BK112.out⟩, ⟨by repeat (first | (with_reducible first | exact HB.out | apply below_alloc | apply pw_below_drewN | apply below_drew1 | refine below_set ?_ GE112.out) | exact HB.out)⟩⟩
          · replace c8 := Bool.eq_false_iff.mpr c8
            subst c8
            have H1 : (some false) = some r := by rw [if_neg (show ¬ (false = true) by decide)] at H; exact H
            clear H
            have H := H1
            clear H1
            obtain rfl := Option.some.inj H
            go_wp2
            go_ret
            exact ⟨by first | rfl | (simp [errW_none, errW_some] <;> rfl) | (simp [*, errW_none, errW_some] <;> rfl), by repeat (first | (with_reducible first | exact HB.out | apply below_alloc | apply pw_below_drewN | apply below_drew1 | refine below_set ?_ GE112.out) | exact HB.out)⟩

/-! ### quarterdeckref03_many: function 20 -/
def quarterdeckref03_many.l0 : Nat → List (S26) → Int → Bool → Int → Int → Option (Int)
  | 0, _, _, _, _, _ => none
  | k + 1, x0, x1, x2, x7, x8 => if x8 < (x0.length : Int) then (if 0 ≤ x8 then ((quarterdeckref03_in.f k ((rd_T26 x0 x8).f0) ((rd_T26 x0 x8).f1) ((rd_T26 x0 x8).f2) x1).bind fun t114 => (if t114 = true then (if (rd_T26 x0 x8).f2 = true then (quarterdeckref03_many.l0 k x0 x1 x2 (wrap64 (x7 + 1)) (wrap64 (x8 + 1))) else (if x2 = true then (quarterdeckref03_many.l0 k x0 x1 x2 x7 (wrap64 (x8 + 1))) else (quarterdeckref03_many.l0 k x0 x1 x2 (wrap64 (x7 + 1)) (wrap64 (x8 + 1))))) else (quarterdeckref03_many.l0 k x0 x1 x2 x7 (wrap64 (x8 + 1))))) else (none)) else (some x7)
def quarterdeckref03_many.f (k : Nat) (l0 : List (S26)) (a1 : Int) (a2 : Bool) : Option (Int) := quarterdeckref03_many.l0 k l0 a1 a2 0 0
theorem quarterdeckref03_many.mono_l : ∀ k, (∀ y0 y1 y2 y3 y4, LeO (quarterdeckref03_many.l0 k y0 y1 y2 y3 y4) (quarterdeckref03_many.l0 (k + 1) y0 y1 y2 y3 y4))
  | 0 => fun _ _ _ _ _ r h => by simp [quarterdeckref03_many.l0] at h
  | k + 1 => by
    have ih0 := quarterdeckref03_many.mono_l k
    · intro y0 y1 y2 y3 y4
      unfold quarterdeckref03_many.l0
      repeat' first
      | (with_reducible exact ih0 _ _ _ _ _)
      | (with_reducible exact quarterdeckref03_in.mono _ _ _ _ _)
      | (with_reducible exact LeO.refl _)
      | (with_reducible exact LeO.none _)
      | (with_reducible refine LeO.ite ?_ ?_)
      | (with_reducible refine LeO.bind ?_ (fun _ => ?_))
      | exact ih0 _ _ _ _ _
      | exact quarterdeckref03_in.mono _ _ _ _ _
      | exact LeO.none _
      | refine LeO.ite ?_ ?_
      | refine LeO.bind ?_ (fun _ => ?_)
theorem quarterdeckref03_many.mono : ∀ a0 a1 a2 k, LeO (quarterdeckref03_many.f k a0 a1 a2) (quarterdeckref03_many.f (k + 1) a0 a1 a2) := by
  intro a0 a1 a2 k
  have ih0 := quarterdeckref03_many.mono_l k
  unfold quarterdeckref03_many.f
  repeat' first
      | (with_reducible exact ih0 _ _ _ _ _)
      | (with_reducible exact quarterdeckref03_in.mono _ _ _ _ _)
      | (with_reducible exact LeO.refl _)
      | (with_reducible exact LeO.none _)
      | (with_reducible refine LeO.ite ?_ ?_)
      | (with_reducible refine LeO.bind ?_ (fun _ => ?_))
      | exact ih0 _ _ _ _ _
      | exact quarterdeckref03_in.mono _ _ _ _ _
      | exact LeO.none _
      | refine LeO.ite ?_ ?_
      | refine LeO.bind ?_ (fun _ => ?_)
set_option maxHeartbeats 8000000 in
set_option maxRecDepth 100000 in
theorem quarterdeckref03_many.calls (k : Nat) (A0 : Option Addr) (c0 : Nat) (l0 : List (S26)) (a1 : Int) (a2 : Bool) (r : Int) (w : World) (hr0 : Kd.C k26 w A0 l0.length l0) (hc0 : l0.length ≤ c0) (h : quarterdeckref03_many.f k l0 a1 a2 = some r) :
    Calls Try.prog 20 #[.slice A0 l0.length c0, .int .i64 a1, .bool a2] w fun e w' => e = .returned (.int .i64 r) ∧ Below w.heap.size w w' := by
  have hu26 := Try.underlying26
  have HR0 := Aside0.mk hr0
  have HC0 := Aside0.mk hc0
  clear hr0 hc0
  have HB := Aside0.mk (Below.refl w.heap.size w)
  have H : (quarterdeckref03_many.l0 k l0 a1 a2 0 0) = some r := h
  clear h
  have H' := Aside0.mk H
  clear H
  go_enter Try.func20, Try.ntmps20
  go_wp2
  go_loopg [7, 8] k (fun kq v7 v8 w' => ∃ (x7_1 : Int) (x8_1 : Int), v7 = .int .i64 x7_1 ∧ v8 = .int .i64 x8_1 ∧ Aside0 (quarterdeckref03_many.l0 kq l0 a1 a2 x7_1 x8_1 = some r) ∧ Aside0 (kq ≤ k) ∧ Aside0 (Below w.heap.size w w'))
  case atStart => exact ⟨(0), (0), (by first | rfl | (simp; done) | (simp [*]; done)), (by first | rfl | (simp; done) | (simp [*]; done)), H', ⟨Nat.le_refl _⟩, ⟨by repeat (first | (with_reducible first | exact HB.out | apply below_alloc | apply pw_below_drewN | apply below_drew1) | exact HB.out)⟩⟩
  case round =>
    clear H'
    try clear c2
    try clear p2
    obtain ⟨x7_1, x8_1, rfl, rfl, HA, HK1, HB⟩ := hrel
    cases gk with
    | zero => exact absurd HA.out (by simp [quarterdeckref03_many.l0])
    | succ k1 =>
      have H := HA.out
      clear HA
      simp only [quarterdeckref03_many.l0] at H
      by_cases c4 : x8_1 < (l0.length : Int)
      · rw [if_pos c4] at H
        have c4b0 : decide (x8_1 < (l0.length : Int)) = true := decide_eq_true c4
        clear c4
        by_cases c5 : 0 ≤ x8_1
        · rw [if_pos c5] at H
          have c5b0 : decide (0 ≤ x8_1) = true := decide_eq_true c5
          clear c5
          replace H := Option.bind_eq_some_iff.mp H
          obtain ⟨t114, A60, H⟩ := H
          replace H : (if t114 = true then (if (rd_T26 l0 x8_1).f2 = true then (quarterdeckref03_many.l0 k1 l0 a1 a2 (wrap64 (x7_1 + 1)) (wrap64 (x8_1 + 1))) else (if a2 = true then (quarterdeckref03_many.l0 k1 l0 a1 a2 x7_1 (wrap64 (x8_1 + 1))) else (quarterdeckref03_many.l0 k1 l0 a1 a2 (wrap64 (x7_1 + 1)) (wrap64 (x8_1 + 1))))) else (quarterdeckref03_many.l0 k1 l0 a1 a2 x7_1 (wrap64 (x8_1 + 1)))) = some r := H
          have A6 := Aside0.mk A60
          clear A60
          by_cases c7 : t114 = true
          · subst c7
            have H1 : (if (rd_T26 l0 x8_1).f2 = true then (quarterdeckref03_many.l0 k1 l0 a1 a2 (wrap64 (x7_1 + 1)) (wrap64 (x8_1 + 1))) else (if a2 = true then (quarterdeckref03_many.l0 k1 l0 a1 a2 x7_1 (wrap64 (x8_1 + 1))) else (quarterdeckref03_many.l0 k1 l0 a1 a2 (wrap64 (x7_1 + 1)) (wrap64 (x8_1 + 1))))) = some r := by rw [if_pos rfl] at H; exact H
            clear H
            have H := H1
            clear H1
            obtain ⟨bq8, hbq8⟩ : ∃ b_ : Bool, b_ = ((rd_T26 l0 x8_1).f2) := ⟨_, rfl⟩
            replace H : (if bq8 = true then (quarterdeckref03_many.l0 k1 l0 a1 a2 (wrap64 (x7_1 + 1)) (wrap64 (x8_1 + 1))) else (if a2 = true then (quarterdeckref03_many.l0 k1 l0 a1 a2 x7_1 (wrap64 (x8_1 + 1))) else (quarterdeckref03_many.l0 k1 l0 a1 a2 (wrap64 (x7_1 + 1)) (wrap64 (x8_1 + 1))))) = some r := by rw [← hbq8] at H; exact H
            have Nbq8 := Aside0.mk hbq8
            clear hbq8
            by_cases c9 : bq8 = true
            · subst c9
              have H1 : (quarterdeckref03_many.l0 k1 l0 a1 a2 (wrap64 (x7_1 + 1)) (wrap64 (x8_1 + 1))) = some r := by rw [if_pos rfl] at H; exact H
              clear H
              have H := H1
              clear H1
              have H' := Aside0.mk H
              clear H
              have p113 : 0 ≤ (x8_1 : Int) := of_decide_eq_true (by first | (with_reducible assumption) | assumption)
              have q113 : x8_1 < (l0.length : Int) := of_decide_eq_true (by first | (with_reducible assumption) | assumption)
              obtain ⟨ad113, e113, hx113_0, hx113_1, hx113_2⟩ := at_T26 HR0.out x8_1 p113 q113
              (try rw [← Nbq8.out] at hx113_2)
              cases e113
              replace hx113_0 := (HB.out.cell (World.block_lt_of_cell? w _ hx113_0)).trans hx113_0
              replace hx113_1 := (HB.out.cell (World.block_lt_of_cell? w _ hx113_1)).trans hx113_1
              replace hx113_2 := (HB.out.cell (World.block_lt_of_cell? w _ hx113_2)).trans hx113_2
              replace p113 := eq_true p113
              replace q113 := eq_true q113
              go_wp2_with (first | ((with_reducible refine gate_callee (f := 26) rfl ?_); refine goesL_ (some 21) rfl rfl Try.func26 (by kernel_rfl) rfl #[.agg #[.int .i64 ((rd_T26 l0 x8_1).f0), .int .i64 ((rd_T26 l0 x8_1).f1), .bool true], .int .i64 a1] rfl (by (try simp only [List.map_toArray, List.map_cons, List.map_nil]); first | done | rfl | (simp only [List.length_drop, List.length_take]; rfl)) ?_; (with_reducible refine (quarterdeckref03_in.calls k1 ((rd_T26 l0 x8_1).f0) ((rd_T26 l0 x8_1).f1) true a1 true _ (by have h_ := A6.out; rw [← Nbq8.out] at h_; exact h_)).mono ?_); rintro e w10 ⟨rfl, hb⟩; refine ⟨_, rfl, ?_⟩; have n0_ := Aside0.mk (below_step (by repeat (first | (with_reducible first | exact HB.out | apply below_alloc | apply pw_below_drewN | apply below_drew1) | exact HB.out)) hb); clear HB; have HB := n0_; clear n0_; (try clear hb); (try clear hb2); (try clear hk); (try clear hi); have p115 : 0 ≤ (x8_1 : Int) := of_decide_eq_true (by first | (with_reducible assumption) | assumption); have q115 : x8_1 < (l0.length : Int) := of_decide_eq_true (by first | (with_reducible assumption) | assumption); obtain ⟨ad115, e115, hx115_0, hx115_1, hx115_2⟩ := at_T26 HR0.out x8_1 p115 q115; (try rw [← Nbq8.out] at hx115_2); obtain rfl : ad113 = ad115 := (by injection e115); replace hx115_0 := (HB.out.cell (World.block_lt_of_cell? w _ hx115_0)).trans hx115_0; replace hx115_1 := (HB.out.cell (World.block_lt_of_cell? w _ hx115_1)).trans hx115_1; replace hx115_2 := (HB.out.cell (World.block_lt_of_cell? w _ hx115_2)).trans hx115_2; replace p115 := eq_true p115; replace q115 := eq_true q115))
              go_roundg k1
              case measure => have := HK1.out; omega
              case rel => exact ⟨(wrap64 (x7_1 + 1)), (wrap64 (x8_1 + 1)), (by first | rfl | (simp; done) | (simp [*]; done)), (by first | rfl | (simp; done) | (simp [*]; done)), H', ⟨by have := HK1.out; omega⟩, ⟨by repeat (first | (with_reducible first | exact HB.out | apply below_alloc | apply pw_below_drewN | apply below_drew1) | exact HB.out)⟩⟩
            · replace c9 := Bool.eq_false_iff.mpr c9
              subst c9
              have H1 : (if a2 = true then (quarterdeckref03_many.l0 k1 l0 a1 a2 x7_1 (wrap64 (x8_1 + 1))) else (quarterdeckref03_many.l0 k1 l0 a1 a2 (wrap64 (x7_1 + 1)) (wrap64 (x8_1 + 1)))) = some r := by rw [if_neg (show ¬ (false = true) by decide)] at H; exact H
              clear H
              have H := H1
              clear H1
              by_cases c11 : a2 = true
              · subst c11
                have H1 : (quarterdeckref03_many.l0 k1 l0 a1 true x7_1 (wrap64 (x8_1 + 1))) = some r := by rw [if_pos rfl] at H; exact H
                clear H
                have H := H1
                clear H1
                have H' := Aside0.mk H
                clear H
                have p113 : 0 ≤ (x8_1 : Int) := of_decide_eq_true (by first | (with_reducible assumption) | assumption)
                have q113 : x8_1 < (l0.length : Int) := of_decide_eq_true (by first | (with_reducible assumption) | assumption)
                obtain ⟨ad113, e113, hx113_0, hx113_1, hx113_2⟩ := at_T26 HR0.out x8_1 p113 q113
                (try rw [← Nbq8.out] at hx113_2)
                cases e113
                replace hx113_0 := (HB.out.cell (World.block_lt_of_cell? w _ hx113_0)).trans hx113_0
                replace hx113_1 := (HB.out.cell (World.block_lt_of_cell? w _ hx113_1)).trans hx113_1
                replace hx113_2 := (HB.out.cell (World.block_lt_of_cell? w _ hx113_2)).trans hx113_2
                replace p113 := eq_true p113
                replace q113 := eq_true q113
                go_wp2_with (first | ((with_reducible refine gate_callee (f := 26) rfl ?_); refine goesL_ (some 21) rfl rfl Try.func26 (by kernel_rfl) rfl #[.agg #[.int .i64 ((rd_T26 l0 x8_1).f0), .int .i64 ((rd_T26 l0 x8_1).f1), .bool false], .int .i64 a1] rfl (by (try simp only [List.map_toArray, List.map_cons, List.map_nil]); first | done | rfl | (simp only [List.length_drop, List.length_take]; rfl)) ?_; (with_reducible refine (quarterdeckref03_in.calls k1 ((rd_T26 l0 x8_1).f0) ((rd_T26 l0 x8_1).f1) false a1 true _ (by have h_ := A6.out; rw [← Nbq8.out] at h_; exact h_)).mono ?_); rintro e w12 ⟨rfl, hb⟩; refine ⟨_, rfl, ?_⟩; have n0_ := Aside0.mk (below_step (by repeat (first | (with_reducible first | exact HB.out | apply below_alloc | apply pw_below_drewN | apply below_drew1) | exact HB.out)) hb); clear HB; have HB := n0_; clear n0_; (try clear hb); (try clear hb2); (try clear hk); (try clear hi); have p115 : 0 ≤ (x8_1 : Int) := of_decide_eq_true (by first | (with_reducible assumption) | assumption); have q115 : x8_1 < (l0.length : Int) := of_decide_eq_true (by first | (with_reducible assumption) | assumption); obtain ⟨ad115, e115, hx115_0, hx115_1, hx115_2⟩ := at_T26 HR0.out x8_1 p115 q115; (try rw [← Nbq8.out] at hx115_2); obtain rfl : ad113 = ad115 := (by injection e115); replace hx115_0 := (HB.out.cell (World.block_lt_of_cell? w _ hx115_0)).trans hx115_0; replace hx115_1 := (HB.out.cell (World.block_lt_of_cell? w _ hx115_1)).trans hx115_1; replace hx115_2 := (HB.out.cell (World.block_lt_of_cell? w _ hx115_2)).trans hx115_2; replace p115 := eq_true p115; replace q115 := eq_true q115))
                go_roundg k1
                case measure => have := HK1.out; omega
                case rel => exact ⟨(x7_1), (wrap64 (x8_1 + 1)), (by first | rfl | (simp; done) | (simp [*]; done)), (by first | rfl | (simp; done) | (simp [*]; done)), H', ⟨by have := HK1.out; omega⟩, ⟨by repeat (first | (with_reducible first | exact HB.out | apply below_alloc | apply pw_below_drewN | apply below_drew1) | exact HB.out)⟩⟩
              · replace c11 := Bool.eq_false_iff.mpr c11
                subst c11
                have H1 : (quarterdeckref03_many.l0 k1 l0 a1 false (wrap64 (x7_1 + 1)) (wrap64 (x8_1 + 1))) = some r := by rw [if_neg (show ¬ (false = true) by decide)] at H; exact H
                clear H
                have H := H1
                clear H1
                have H' := Aside0.mk H
                clear H
                have p113 : 0 ≤ (x8_1 : Int) := of_decide_eq_true (by first | (with_reducible assumption) | assumption)
                have q113 : x8_1 < (l0.length : Int) := of_decide_eq_true (by first | (with_reducible assumption) | assumption)
                obtain ⟨ad113, e113, hx113_0, hx113_1, hx113_2⟩ := at_T26 HR0.out x8_1 p113 q113
                (try rw [← Nbq8.out] at hx113_2)
                cases e113
                replace hx113_0 := (HB.out.cell (World.block_lt_of_cell? w _ hx113_0)).trans hx113_0
                replace hx113_1 := (HB.out.cell (World.block_lt_of_cell? w _ hx113_1)).trans hx113_1
                replace hx113_2 := (HB.out.cell (World.block_lt_of_cell? w _ hx113_2)).trans hx113_2
                replace p113 := eq_true p113
                replace q113 := eq_true q113
                go_wp2_with (first | ((with_reducible refine gate_callee (f := 26) rfl ?_); refine goesL_ (some 21) rfl rfl Try.func26 (by kernel_rfl) rfl #[.agg #[.int .i64 ((rd_T26 l0 x8_1).f0), .int .i64 ((rd_T26 l0 x8_1).f1), .bool false], .int .i64 a1] rfl (by (try simp only [List.map_toArray, List.map_cons, List.map_nil]); first | done | rfl | (simp only [List.length_drop, List.length_take]; rfl)) ?_; (with_reducible refine (quarterdeckref03_in.calls k1 ((rd_T26 l0 x8_1).f0) ((rd_T26 l0 x8_1).f1) false a1 true _ (by have h_ := A6.out; rw [← Nbq8.out] at h_; exact h_)).mono ?_); rintro e w13 ⟨rfl, hb⟩; refine ⟨_, rfl, ?_⟩; have n0_ := Aside0.mk (below_step (by repeat (first | (with_reducible first | exact HB.out | apply below_alloc | apply pw_below_drewN | apply below_drew1) | exact HB.out)) hb); clear HB; have HB := n0_; clear n0_; (try clear hb); (try clear hb2); (try clear hk); (try clear hi); have p115 : 0 ≤ (x8_1 : Int) := of_decide_eq_true (by first | (with_reducible assumption) | assumption); have q115 : x8_1 < (l0.length : Int) := of_decide_eq_true (by first | (with_reducible assumption) | assumption); obtain ⟨ad115, e115, hx115_0, hx115_1, hx115_2⟩ := at_T26 HR0.out x8_1 p115 q115; (try rw [← Nbq8.out] at hx115_2); obtain rfl : ad113 = ad115 := (by injection e115); replace hx115_0 := (HB.out.cell (World.block_lt_of_cell? w _ hx115_0)).trans hx115_0; replace hx115_1 := (HB.out.cell (World.block_lt_of_cell? w _ hx115_1)).trans hx115_1; replace hx115_2 := (HB.out.cell (World.block_lt_of_cell? w _ hx115_2)).trans hx115_2; replace p115 := eq_true p115; replace q115 := eq_true q115))
                go_roundg k1
                case measure => have := HK1.out; omega
                case rel => exact ⟨(wrap64 (x7_1 + 1)), (wrap64 (x8_1 + 1)), (by first | rfl | (simp; done) | (simp [*]; done)), (by first | rfl | (simp; done) | (simp [*]; done)), H', ⟨by have := HK1.out; omega⟩, ⟨by repeat (first | (with_reducible first | exact HB.out | apply below_alloc | apply pw_below_drewN | apply below_drew1) | exact HB.out)⟩⟩
          · replace c7 := Bool.eq_false_iff.mpr c7
            subst c7
            have H1 : (quarterdeckref03_many.l0 k1 l0 a1 a2 x7_1 (wrap64 (x8_1 + 1))) = some r := by rw [if_neg (show ¬ (false = true) by decide)] at H; exact H
            clear H
            have H := H1
            clear H1
            have H' := Aside0.mk H
            clear H
            have p113 : 0 ≤ (x8_1 : Int) := of_decide_eq_true (by first | (with_reducible assumption) | assumption)
            have q113 : x8_1 < (l0.length : Int) := of_decide_eq_true (by first | (with_reducible assumption) | assumption)
            obtain ⟨ad113, e113, hx113_0, hx113_1, hx113_2⟩ := at_T26 HR0.out x8_1 p113 q113
            cases e113
            replace hx113_0 := (HB.out.cell (World.block_lt_of_cell? w _ hx113_0)).trans hx113_0
            replace hx113_1 := (HB.out.cell (World.block_lt_of_cell? w _ hx113_1)).trans hx113_1
            replace hx113_2 := (HB.out.cell (World.block_lt_of_cell? w _ hx113_2)).trans hx113_2
            replace p113 := eq_true p113
            replace q113 := eq_true q113
            go_wp2_with (first | ((with_reducible refine gate_callee (f := 26) rfl ?_); refine goesL_ (some 21) rfl rfl Try.func26 (by kernel_rfl) rfl #[.agg #[.int .i64 ((rd_T26 l0 x8_1).f0), .int .i64 ((rd_T26 l0 x8_1).f1), .bool ((rd_T26 l0 x8_1).f2)], .int .i64 a1] rfl (by (try simp only [List.map_toArray, List.map_cons, List.map_nil]); first | done | rfl | (simp only [List.length_drop, List.length_take]; rfl)) ?_; (with_reducible refine (quarterdeckref03_in.calls k1 ((rd_T26 l0 x8_1).f0) ((rd_T26 l0 x8_1).f1) ((rd_T26 l0 x8_1).f2) a1 false _ A6.out).mono ?_); rintro e w14 ⟨rfl, hb⟩; refine ⟨_, rfl, ?_⟩; have n0_ := Aside0.mk (below_step (by repeat (first | (with_reducible first | exact HB.out | apply below_alloc | apply pw_below_drewN | apply below_drew1) | exact HB.out)) hb); clear HB; have HB := n0_; clear n0_; (try clear hb); (try clear hb2); (try clear hk); (try clear hi)))
            go_roundg k1
            case measure => have := HK1.out; omega
            case rel => exact ⟨(x7_1), (wrap64 (x8_1 + 1)), (by first | rfl | (simp; done) | (simp [*]; done)), (by first | rfl | (simp; done) | (simp [*]; done)), H', ⟨by have := HK1.out; omega⟩, ⟨by repeat (first | (with_reducible first | exact HB.out | apply below_alloc | apply pw_below_drewN | apply below_drew1) | exact HB.out)⟩⟩
        · rw [if_neg c5] at H
          exact absurd H (by simp)
      · rw [if_neg c4] at H
        have c4b0 : decide (x8_1 < (l0.length : Int)) = false := decide_eq_false c4
        clear c4
        obtain rfl := Option.some.inj H
        go_wp2
        go_ret
        exact ⟨by first | rfl | (simp [errW_none, errW_some] <;> rfl) | (simp [*, errW_none, errW_some] <;> rfl), by repeat (first | (with_reducible first | exact HB.out | apply below_alloc | apply pw_below_drewN | apply below_drew1) | exact HB.out)⟩

end Go.Proofs.Ytkdcjkgofbjnlaa.Pr

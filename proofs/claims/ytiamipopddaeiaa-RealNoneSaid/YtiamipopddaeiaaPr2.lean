/- Go functions of this seat as Lean functions, each with the proof that its call comes to just that, and the rows over them; written by a program of this session (wip/given_print.py); the conditions are the premises that each theorem names. -/
import Derived.Test.YtiamipopddaeiaaPr0
import Derived.Test.YtiamipopddaeiaaPr1
namespace Go.Proofs.Ytiamipopddaeiaa.Pr
open Go.RowKit Go.Proofs.YtiamipopddaeiaaW.PrintWords Go.Proofs.YtiamipopddaeiaaW.PrintLast Go.Proofs.YtiamipopddaeiaaW.PrintMore
attribute [local go_sem] max2_int min2_int max_two min_two max_three min_three max_four min_four   -- for this text's walks alone
set_option linter.unusedVariables false
set_option linter.unusedSimpArgs false

/-! ### quarterdecklaw02_RealOrder: function 5 -/
def quarterdecklaw02_RealOrder.j0 : Nat → Int → Int → Int → Bool → Bool → Bool → Bool → Option (Bool)
  | 0, _, _, _, _, _, _, _ => none
  | k + 1, x0, x1, x2, x11, x12, x13, x15 => if x11 = true then ((real_Below.f x0 x0).bind fun t156 => (if t156 = true then (some false) else (if x12 = true then (if x13 = true then ((real_Below.f x0 x2).bind fun t157 => (if t157 = true then ((real_Below.f x1 x0).bind fun t158 => (if t158 = true then (some false) else ((real_Flip.f x1).bind fun t159 => ((real_Flip.f x0).bind fun t160 => ((real_Below.f t159 t160).bind fun t161 => (if (t161 == x12) = true then (some x15) else (some false))))))) else (some false))) else ((real_Below.f x1 x0).bind fun t162 => (if t162 = true then (some false) else ((real_Flip.f x1).bind fun t163 => ((real_Flip.f x0).bind fun t164 => ((real_Below.f t163 t164).bind fun t165 => (if (t165 == x12) = true then (some x15) else (some false)))))))) else ((real_Flip.f x1).bind fun t166 => ((real_Flip.f x0).bind fun t167 => ((real_Below.f t166 t167).bind fun t168 => (if (t168 == x12) = true then (some x15) else (some false)))))))) else (some false)
def quarterdecklaw02_RealOrder.f (k : Nat) (a0 : Int) (a1 : Int) (a2 : Int) (a3 : Int) (a4 : Int) : Option (Bool) := (quarterdecklaw02_awake.f).bind fun t150 => ((real_Below.f a0 a1).bind fun t151 => ((real_Below.f a1 a2).bind fun t152 => (if a3 < (-9007199254740992) then (quarterdecklaw02_RealOrder.j0 k a0 a1 a2 t150 t151 t152 true) else (if a3 > 9007199254740992 then (quarterdecklaw02_RealOrder.j0 k a0 a1 a2 t150 t151 t152 true) else (if a4 < (-9007199254740992) then (quarterdecklaw02_RealOrder.j0 k a0 a1 a2 t150 t151 t152 true) else (if a4 > 9007199254740992 then (quarterdecklaw02_RealOrder.j0 k a0 a1 a2 t150 t151 t152 true) else ((real_Of.f a3).bind fun t153 => ((real_Of.f a4).bind fun t154 => ((real_Below.f t153 t154).bind fun t155 => (quarterdecklaw02_RealOrder.j0 k a0 a1 a2 t150 t151 t152 (t155 == (decide (a3 < a4)))))))))))))
theorem quarterdecklaw02_RealOrder.mono_l : ∀ k, (∀ y0 y1 y2 y3 y4 y5 y6, LeO (quarterdecklaw02_RealOrder.j0 k y0 y1 y2 y3 y4 y5 y6) (quarterdecklaw02_RealOrder.j0 (k + 1) y0 y1 y2 y3 y4 y5 y6))
  | 0 => fun _ _ _ _ _ _ _ r h => by simp [quarterdecklaw02_RealOrder.j0] at h
  | k + 1 => by
    have ih0 := quarterdecklaw02_RealOrder.mono_l k
    · intro y0 y1 y2 y3 y4 y5 y6
      unfold quarterdecklaw02_RealOrder.j0
      repeat' first
      | (with_reducible exact ih0 _ _ _ _ _ _ _)
      | (with_reducible exact LeO.refl _)
      | (with_reducible exact LeO.none _)
      | (with_reducible refine LeO.ite ?_ ?_)
      | (with_reducible refine LeO.bind ?_ (fun _ => ?_))
      | exact ih0 _ _ _ _ _ _ _
      | exact LeO.none _
      | refine LeO.ite ?_ ?_
      | refine LeO.bind ?_ (fun _ => ?_)
theorem quarterdecklaw02_RealOrder.mono : ∀ a0 a1 a2 a3 a4 k, LeO (quarterdecklaw02_RealOrder.f k a0 a1 a2 a3 a4) (quarterdecklaw02_RealOrder.f (k + 1) a0 a1 a2 a3 a4) := by
  intro a0 a1 a2 a3 a4 k
  have ih0 := quarterdecklaw02_RealOrder.mono_l k
  unfold quarterdecklaw02_RealOrder.f
  repeat' first
      | (with_reducible exact ih0 _ _ _ _ _ _ _)
      | (with_reducible exact LeO.refl _)
      | (with_reducible exact LeO.none _)
      | (with_reducible refine LeO.ite ?_ ?_)
      | (with_reducible refine LeO.bind ?_ (fun _ => ?_))
      | exact ih0 _ _ _ _ _ _ _
      | exact LeO.none _
      | refine LeO.ite ?_ ?_
      | refine LeO.bind ?_ (fun _ => ?_)
set_option maxHeartbeats 8000000 in
set_option maxRecDepth 100000 in
theorem quarterdecklaw02_RealOrder.calls (k : Nat) (a0 : Int) (a1 : Int) (a2 : Int) (a3 : Int) (a4 : Int) (r : Bool) (w : World) (h : quarterdecklaw02_RealOrder.f k a0 a1 a2 a3 a4 = some r) :
    Calls Try.prog 5 #[.int .i64 a0, .int .i64 a1, .int .i64 a2, .int .i64 a3, .int .i64 a4] w fun e w' => e = .returned (.bool r) ∧ Drawn0 w w' := by
  have H : ((quarterdecklaw02_awake.f).bind fun t150 => ((real_Below.f a0 a1).bind fun t151 => ((real_Below.f a1 a2).bind fun t152 => (if a3 < (-9007199254740992) then (quarterdecklaw02_RealOrder.j0 k a0 a1 a2 t150 t151 t152 true) else (if a3 > 9007199254740992 then (quarterdecklaw02_RealOrder.j0 k a0 a1 a2 t150 t151 t152 true) else (if a4 < (-9007199254740992) then (quarterdecklaw02_RealOrder.j0 k a0 a1 a2 t150 t151 t152 true) else (if a4 > 9007199254740992 then (quarterdecklaw02_RealOrder.j0 k a0 a1 a2 t150 t151 t152 true) else ((real_Of.f a3).bind fun t153 => ((real_Of.f a4).bind fun t154 => ((real_Below.f t153 t154).bind fun t155 => (quarterdecklaw02_RealOrder.j0 k a0 a1 a2 t150 t151 t152 (t155 == (decide (a3 < a4)))))))))))))) = some r := h
  clear h
  replace H := Option.bind_eq_some_iff.mp H
  obtain ⟨t150, A60, H⟩ := H
  replace H : ((real_Below.f a0 a1).bind fun t151 => ((real_Below.f a1 a2).bind fun t152 => (if a3 < (-9007199254740992) then (quarterdecklaw02_RealOrder.j0 k a0 a1 a2 t150 t151 t152 true) else (if a3 > 9007199254740992 then (quarterdecklaw02_RealOrder.j0 k a0 a1 a2 t150 t151 t152 true) else (if a4 < (-9007199254740992) then (quarterdecklaw02_RealOrder.j0 k a0 a1 a2 t150 t151 t152 true) else (if a4 > 9007199254740992 then (quarterdecklaw02_RealOrder.j0 k a0 a1 a2 t150 t151 t152 true) else ((real_Of.f a3).bind fun t153 => ((real_Of.f a4).bind fun t154 => ((real_Below.f t153 t154).bind fun t155 => (quarterdecklaw02_RealOrder.j0 k a0 a1 a2 t150 t151 t152 (t155 == (decide (a3 < a4))))))))))))) = some r := H
  have A6 := Aside0.mk A60
  clear A60
  replace H := Option.bind_eq_some_iff.mp H
  obtain ⟨t151, A70, H⟩ := H
  replace H : ((real_Below.f a1 a2).bind fun t152 => (if a3 < (-9007199254740992) then (quarterdecklaw02_RealOrder.j0 k a0 a1 a2 t150 t151 t152 true) else (if a3 > 9007199254740992 then (quarterdecklaw02_RealOrder.j0 k a0 a1 a2 t150 t151 t152 true) else (if a4 < (-9007199254740992) then (quarterdecklaw02_RealOrder.j0 k a0 a1 a2 t150 t151 t152 true) else (if a4 > 9007199254740992 then (quarterdecklaw02_RealOrder.j0 k a0 a1 a2 t150 t151 t152 true) else ((real_Of.f a3).bind fun t153 => ((real_Of.f a4).bind fun t154 => ((real_Below.f t153 t154).bind fun t155 => (quarterdecklaw02_RealOrder.j0 k a0 a1 a2 t150 t151 t152 (t155 == (decide (a3 < a4)))))))))))) = some r := H
  have A7 := Aside0.mk A70
  clear A70
  replace H := Option.bind_eq_some_iff.mp H
  obtain ⟨t152, A80, H⟩ := H
  replace H : (if a3 < (-9007199254740992) then (quarterdecklaw02_RealOrder.j0 k a0 a1 a2 t150 t151 t152 true) else (if a3 > 9007199254740992 then (quarterdecklaw02_RealOrder.j0 k a0 a1 a2 t150 t151 t152 true) else (if a4 < (-9007199254740992) then (quarterdecklaw02_RealOrder.j0 k a0 a1 a2 t150 t151 t152 true) else (if a4 > 9007199254740992 then (quarterdecklaw02_RealOrder.j0 k a0 a1 a2 t150 t151 t152 true) else ((real_Of.f a3).bind fun t153 => ((real_Of.f a4).bind fun t154 => ((real_Below.f t153 t154).bind fun t155 => (quarterdecklaw02_RealOrder.j0 k a0 a1 a2 t150 t151 t152 (t155 == (decide (a3 < a4))))))))))) = some r := H
  have A8 := Aside0.mk A80
  clear A80
  have HC9 := Aside0.mk H
  clear H
  go_enter Try.func5, Try.ntmps5
  go_upto_region 5 with (first | ((with_reducible refine gate_callee (f := 11) rfl ?_); refine goesL_ (some 16) rfl rfl Try.func11 (by kernel_rfl) rfl #[] rfl (by (try simp only [List.map_toArray, List.map_cons, List.map_nil]); first | done | rfl | (simp only [List.length_drop, List.length_take]; rfl)) ?_; (with_reducible refine (quarterdecklaw02_awake.calls  t150 _ A6.out).mono ?_); rintro e w' ⟨rfl, ⟨nd, rfl⟩⟩; refine ⟨_, rfl, ?_⟩) | ((with_reducible refine gate_callee (f := 13) rfl ?_); refine goesL_ (some 19) rfl rfl Try.func13 (by kernel_rfl) rfl #[.int .i64 a0, .int .i64 a1] rfl (by (try simp only [List.map_toArray, List.map_cons, List.map_nil]); first | done | rfl | (simp only [List.length_drop, List.length_take]; rfl)) ?_; (with_reducible refine (real_Below.calls a0 a1 t151 _ A7.out).mono ?_); rintro e w' ⟨rfl, ⟨nd, rfl⟩⟩; refine ⟨_, rfl, ?_⟩) | ((with_reducible refine gate_callee (f := 13) rfl ?_); refine goesL_ (some 22) rfl rfl Try.func13 (by kernel_rfl) rfl #[.int .i64 a1, .int .i64 a2] rfl (by (try simp only [List.map_toArray, List.map_cons, List.map_nil]); first | done | rfl | (simp only [List.length_drop, List.length_take]; rfl)) ?_; (with_reducible refine (real_Below.calls a1 a2 t152 _ A8.out).mono ?_); rintro e w' ⟨rfl, ⟨nd, rfl⟩⟩; refine ⟨_, rfl, ?_⟩))
  (try simp only [Act.put, List.setIfInBounds_toArray, List.set_cons_zero, List.set_cons_succ])
  go_cut [15] (fun v15 wc => ∃ (kq : Nat) (x15_8 : Bool), v15 = .bool x15_8 ∧ Aside0 (quarterdecklaw02_RealOrder.j0 kq a0 a1 a2 t150 t151 t152 x15_8 = some r) ∧ Aside0 (kq ≤ k) ∧ Drawn0 w wc)
  case first =>
    have H := HC9.out
    clear HC9
    by_cases c10 : a3 < (-9007199254740992)
    · rw [if_pos c10] at H
      have c10b0 : decide (a3 < (-9007199254740992)) = true := decide_eq_true c10
      clear c10
      (first | rw [c10b0] | (simp only [i64_w, i32_w]; rw [c10b0]) | skip)
      have H' := Aside0.mk H
      clear H
      go_wp2
      go_meet
      case rel => exact ⟨_, (true), (by first | rfl | (simp; done) | (simp [*]; done)), H', ⟨by first | omega | exact Nat.le_refl _⟩, by repeat (first | exact Drawn0.refl _ | apply Drawn0.step)⟩
    · rw [if_neg c10] at H
      have c10b0 : decide (a3 < (-9007199254740992)) = false := decide_eq_false c10
      clear c10
      (first | rw [c10b0] | (simp only [i64_w, i32_w]; rw [c10b0]) | skip)
      by_cases c11 : a3 > 9007199254740992
      · rw [if_pos c11] at H
        have c11b0 : decide (9007199254740992 < a3) = true := decide_eq_true c11
        clear c11
        have H' := Aside0.mk H
        clear H
        go_wp2
        go_meet
        case rel => exact ⟨_, (true), (by first | rfl | (simp; done) | (simp [*]; done)), H', ⟨by first | omega | exact Nat.le_refl _⟩, by repeat (first | exact Drawn0.refl _ | apply Drawn0.step)⟩
      · rw [if_neg c11] at H
        have c11b0 : decide (9007199254740992 < a3) = false := decide_eq_false c11
        clear c11
        by_cases c12 : a4 < (-9007199254740992)
        · rw [if_pos c12] at H
          have c12b0 : decide (a4 < (-9007199254740992)) = true := decide_eq_true c12
          clear c12
          have H' := Aside0.mk H
          clear H
          go_wp2
          go_meet
          case rel => exact ⟨_, (true), (by first | rfl | (simp; done) | (simp [*]; done)), H', ⟨by first | omega | exact Nat.le_refl _⟩, by repeat (first | exact Drawn0.refl _ | apply Drawn0.step)⟩
        · rw [if_neg c12] at H
          have c12b0 : decide (a4 < (-9007199254740992)) = false := decide_eq_false c12
          clear c12
          by_cases c13 : a4 > 9007199254740992
          · rw [if_pos c13] at H
            have c13b0 : decide (9007199254740992 < a4) = true := decide_eq_true c13
            clear c13
            have H' := Aside0.mk H
            clear H
            go_wp2
            go_meet
            case rel => exact ⟨_, (true), (by first | rfl | (simp; done) | (simp [*]; done)), H', ⟨by first | omega | exact Nat.le_refl _⟩, by repeat (first | exact Drawn0.refl _ | apply Drawn0.step)⟩
          · rw [if_neg c13] at H
            have c13b0 : decide (9007199254740992 < a4) = false := decide_eq_false c13
            clear c13
            replace H := Option.bind_eq_some_iff.mp H
            obtain ⟨t153, A140, H⟩ := H
            replace H : ((real_Of.f a4).bind fun t154 => ((real_Below.f t153 t154).bind fun t155 => (quarterdecklaw02_RealOrder.j0 k a0 a1 a2 t150 t151 t152 (t155 == (decide (a3 < a4)))))) = some r := H
            have A14 := Aside0.mk A140
            clear A140
            replace H := Option.bind_eq_some_iff.mp H
            obtain ⟨t154, A150, H⟩ := H
            replace H : ((real_Below.f t153 t154).bind fun t155 => (quarterdecklaw02_RealOrder.j0 k a0 a1 a2 t150 t151 t152 (t155 == (decide (a3 < a4))))) = some r := H
            have A15 := Aside0.mk A150
            clear A150
            replace H := Option.bind_eq_some_iff.mp H
            obtain ⟨t155, A160, H⟩ := H
            replace H : (quarterdecklaw02_RealOrder.j0 k a0 a1 a2 t150 t151 t152 (t155 == (decide (a3 < a4)))) = some r := H
            have A16 := Aside0.mk A160
            clear A160
            have H' := Aside0.mk H
            clear H
            go_wp2_with (first | (go_at_call 20; (with_reducible refine (real_Of.calls a3 t153 _ A14.out).mono ?_); rintro e w' ⟨rfl, ⟨nd, rfl⟩⟩) | (go_at_call 20; (with_reducible refine (real_Of.calls a4 t154 _ A15.out).mono ?_); rintro e w' ⟨rfl, ⟨nd, rfl⟩⟩) | (go_at_call 13; (with_reducible refine (real_Below.calls t153 t154 t155 _ A16.out).mono ?_); rintro e w' ⟨rfl, ⟨nd, rfl⟩⟩))
            go_meet
            case rel => exact ⟨_, ((t155 == (decide (a3 < a4)))), (by first | rfl | (simp; done) | (simp [*]; done)), H', ⟨by first | omega | exact Nat.le_refl _⟩, by repeat (first | exact Drawn0.refl _ | apply Drawn0.step)⟩
  case rest =>
    clear HC9
    try clear c1
    try clear p2
    try clear c5
    try clear c10
    try clear c10b0
    try clear c11
    try clear c11b0
    try clear c12
    try clear c12b0
    try clear c13
    try clear c13b0
    obtain ⟨kq, x15_8, rfl, HA, HJ8, ⟨mc8, rfl⟩⟩ := hcut
    cases kq with
    | zero => exact absurd HA.out (by simp [quarterdecklaw02_RealOrder.j0])
    | succ kj8 =>
      have H := HA.out
      clear HA
      simp only [quarterdecklaw02_RealOrder.j0] at H
      by_cases c17 : t150 = true
      · subst c17
        have H1 : ((real_Below.f a0 a0).bind fun t156 => (if t156 = true then (some false) else (if t151 = true then (if t152 = true then ((real_Below.f a0 a2).bind fun t157 => (if t157 = true then ((real_Below.f a1 a0).bind fun t158 => (if t158 = true then (some false) else ((real_Flip.f a1).bind fun t159 => ((real_Flip.f a0).bind fun t160 => ((real_Below.f t159 t160).bind fun t161 => (if (t161 == t151) = true then (some x15_8) else (some false))))))) else (some false))) else ((real_Below.f a1 a0).bind fun t162 => (if t162 = true then (some false) else ((real_Flip.f a1).bind fun t163 => ((real_Flip.f a0).bind fun t164 => ((real_Below.f t163 t164).bind fun t165 => (if (t165 == t151) = true then (some x15_8) else (some false)))))))) else ((real_Flip.f a1).bind fun t166 => ((real_Flip.f a0).bind fun t167 => ((real_Below.f t166 t167).bind fun t168 => (if (t168 == t151) = true then (some x15_8) else (some false)))))))) = some r := by rw [if_pos rfl] at H; exact H
        clear H
        have H := H1
        clear H1
        replace H := Option.bind_eq_some_iff.mp H
        obtain ⟨t156, A180, H⟩ := H
        replace H : (if t156 = true then (some false) else (if t151 = true then (if t152 = true then ((real_Below.f a0 a2).bind fun t157 => (if t157 = true then ((real_Below.f a1 a0).bind fun t158 => (if t158 = true then (some false) else ((real_Flip.f a1).bind fun t159 => ((real_Flip.f a0).bind fun t160 => ((real_Below.f t159 t160).bind fun t161 => (if (t161 == t151) = true then (some x15_8) else (some false))))))) else (some false))) else ((real_Below.f a1 a0).bind fun t162 => (if t162 = true then (some false) else ((real_Flip.f a1).bind fun t163 => ((real_Flip.f a0).bind fun t164 => ((real_Below.f t163 t164).bind fun t165 => (if (t165 == t151) = true then (some x15_8) else (some false)))))))) else ((real_Flip.f a1).bind fun t166 => ((real_Flip.f a0).bind fun t167 => ((real_Below.f t166 t167).bind fun t168 => (if (t168 == t151) = true then (some x15_8) else (some false))))))) = some r := H
        have A18 := Aside0.mk A180
        clear A180
        by_cases c19 : t156 = true
        · subst c19
          have H1 : (some false) = some r := by rw [if_pos rfl] at H; exact H
          clear H
          have H := H1
          clear H1
          obtain rfl := Option.some.inj H
          go_wp2_with (first | (go_at_call 13; (with_reducible refine (real_Below.calls a0 a0 true _ A18.out).mono ?_); rintro e w' ⟨rfl, ⟨nd, rfl⟩⟩))
          go_ret
          exact ⟨by first | rfl | (simp; done) | (simp [*]; done), by repeat (first | exact Drawn0.refl _ | apply Drawn0.step)⟩
        · replace c19 := Bool.eq_false_iff.mpr c19
          subst c19
          have H1 : (if t151 = true then (if t152 = true then ((real_Below.f a0 a2).bind fun t157 => (if t157 = true then ((real_Below.f a1 a0).bind fun t158 => (if t158 = true then (some false) else ((real_Flip.f a1).bind fun t159 => ((real_Flip.f a0).bind fun t160 => ((real_Below.f t159 t160).bind fun t161 => (if (t161 == t151) = true then (some x15_8) else (some false))))))) else (some false))) else ((real_Below.f a1 a0).bind fun t162 => (if t162 = true then (some false) else ((real_Flip.f a1).bind fun t163 => ((real_Flip.f a0).bind fun t164 => ((real_Below.f t163 t164).bind fun t165 => (if (t165 == t151) = true then (some x15_8) else (some false)))))))) else ((real_Flip.f a1).bind fun t166 => ((real_Flip.f a0).bind fun t167 => ((real_Below.f t166 t167).bind fun t168 => (if (t168 == t151) = true then (some x15_8) else (some false)))))) = some r := by rw [if_neg (show ¬ (false = true) by decide)] at H; exact H
          clear H
          have H := H1
          clear H1
          by_cases c20 : t151 = true
          · subst c20
            have H1 : (if t152 = true then ((real_Below.f a0 a2).bind fun t157 => (if t157 = true then ((real_Below.f a1 a0).bind fun t158 => (if t158 = true then (some false) else ((real_Flip.f a1).bind fun t159 => ((real_Flip.f a0).bind fun t160 => ((real_Below.f t159 t160).bind fun t161 => (if (t161 == true) = true then (some x15_8) else (some false))))))) else (some false))) else ((real_Below.f a1 a0).bind fun t162 => (if t162 = true then (some false) else ((real_Flip.f a1).bind fun t163 => ((real_Flip.f a0).bind fun t164 => ((real_Below.f t163 t164).bind fun t165 => (if (t165 == true) = true then (some x15_8) else (some false)))))))) = some r := by rw [if_pos rfl] at H; exact H
            clear H
            have H := H1
            clear H1
            by_cases c21 : t152 = true
            · subst c21
              have H1 : ((real_Below.f a0 a2).bind fun t157 => (if t157 = true then ((real_Below.f a1 a0).bind fun t158 => (if t158 = true then (some false) else ((real_Flip.f a1).bind fun t159 => ((real_Flip.f a0).bind fun t160 => ((real_Below.f t159 t160).bind fun t161 => (if (t161 == true) = true then (some x15_8) else (some false))))))) else (some false))) = some r := by rw [if_pos rfl] at H; exact H
              clear H
              have H := H1
              clear H1
              replace H := Option.bind_eq_some_iff.mp H
              obtain ⟨t157, A220, H⟩ := H
              replace H : (if t157 = true then ((real_Below.f a1 a0).bind fun t158 => (if t158 = true then (some false) else ((real_Flip.f a1).bind fun t159 => ((real_Flip.f a0).bind fun t160 => ((real_Below.f t159 t160).bind fun t161 => (if (t161 == true) = true then (some x15_8) else (some false))))))) else (some false)) = some r := H
              have A22 := Aside0.mk A220
              clear A220
              by_cases c23 : t157 = true
              · subst c23
                have H1 : ((real_Below.f a1 a0).bind fun t158 => (if t158 = true then (some false) else ((real_Flip.f a1).bind fun t159 => ((real_Flip.f a0).bind fun t160 => ((real_Below.f t159 t160).bind fun t161 => (if (t161 == true) = true then (some x15_8) else (some false))))))) = some r := by rw [if_pos rfl] at H; exact H
                clear H
                have H := H1
                clear H1
                replace H := Option.bind_eq_some_iff.mp H
                obtain ⟨t158, A240, H⟩ := H
                replace H : (if t158 = true then (some false) else ((real_Flip.f a1).bind fun t159 => ((real_Flip.f a0).bind fun t160 => ((real_Below.f t159 t160).bind fun t161 => (if (t161 == true) = true then (some x15_8) else (some false)))))) = some r := H
                have A24 := Aside0.mk A240
                clear A240
                by_cases c25 : t158 = true
                · subst c25
                  have H1 : (some false) = some r := by rw [if_pos rfl] at H; exact H
                  clear H
                  have H := H1
                  clear H1
                  obtain rfl := Option.some.inj H
                  go_wp2_with (first | (go_at_call 13; (with_reducible refine (real_Below.calls a0 a0 false _ A18.out).mono ?_); rintro e w' ⟨rfl, ⟨nd, rfl⟩⟩) | (go_at_call 13; (with_reducible refine (real_Below.calls a0 a2 true _ A22.out).mono ?_); rintro e w' ⟨rfl, ⟨nd, rfl⟩⟩) | (go_at_call 13; (with_reducible refine (real_Below.calls a1 a0 true _ A24.out).mono ?_); rintro e w' ⟨rfl, ⟨nd, rfl⟩⟩))
                  go_ret
                  exact ⟨by first | rfl | (simp; done) | (simp [*]; done), by repeat (first | exact Drawn0.refl _ | apply Drawn0.step)⟩
                · replace c25 := Bool.eq_false_iff.mpr c25
                  subst c25
                  have H1 : ((real_Flip.f a1).bind fun t159 => ((real_Flip.f a0).bind fun t160 => ((real_Below.f t159 t160).bind fun t161 => (if (t161 == true) = true then (some x15_8) else (some false))))) = some r := by rw [if_neg (show ¬ (false = true) by decide)] at H; exact H
                  clear H
                  have H := H1
                  clear H1
                  replace H := Option.bind_eq_some_iff.mp H
                  obtain ⟨t159, A260, H⟩ := H
                  replace H : ((real_Flip.f a0).bind fun t160 => ((real_Below.f t159 t160).bind fun t161 => (if (t161 == true) = true then (some x15_8) else (some false)))) = some r := H
                  have A26 := Aside0.mk A260
                  clear A260
                  replace H := Option.bind_eq_some_iff.mp H
                  obtain ⟨t160, A270, H⟩ := H
                  replace H : ((real_Below.f t159 t160).bind fun t161 => (if (t161 == true) = true then (some x15_8) else (some false))) = some r := H
                  have A27 := Aside0.mk A270
                  clear A270
                  replace H := Option.bind_eq_some_iff.mp H
                  obtain ⟨t161, A280, H⟩ := H
                  replace H : (if (t161 == true) = true then (some x15_8) else (some false)) = some r := H
                  have A28 := Aside0.mk A280
                  clear A280
                  by_cases c29 : (t161 == true) = true
                  · rw [if_pos c29] at H
                    have c29b0 : (t161 == true) = true := c29
                    (try (have c29b1 : decide (t161 = true) = true := by simpa using c29))
                    (try (have c29b2 : (t161 == true) = true := by simpa using c29))
                    clear c29
                    obtain rfl := Option.some.inj H
                    go_wp2_with (first | (go_at_call 13; (with_reducible refine (real_Below.calls a0 a0 false _ A18.out).mono ?_); rintro e w' ⟨rfl, ⟨nd, rfl⟩⟩) | (go_at_call 13; (with_reducible refine (real_Below.calls a0 a2 true _ A22.out).mono ?_); rintro e w' ⟨rfl, ⟨nd, rfl⟩⟩) | (go_at_call 13; (with_reducible refine (real_Below.calls a1 a0 false _ A24.out).mono ?_); rintro e w' ⟨rfl, ⟨nd, rfl⟩⟩) | (go_at_call 18; (with_reducible refine (real_Flip.calls a1 t159 _ A26.out).mono ?_); rintro e w' ⟨rfl, ⟨nd, rfl⟩⟩) | (go_at_call 18; (with_reducible refine (real_Flip.calls a0 t160 _ A27.out).mono ?_); rintro e w' ⟨rfl, ⟨nd, rfl⟩⟩) | (go_at_call 13; (with_reducible refine (real_Below.calls t159 t160 t161 _ A28.out).mono ?_); rintro e w' ⟨rfl, ⟨nd, rfl⟩⟩))
                    go_ret
                    exact ⟨by first | rfl | (simp; done) | (simp [*]; done), by repeat (first | exact Drawn0.refl _ | apply Drawn0.step)⟩
                  · rw [if_neg c29] at H
                    have c29b0 : (t161 == true) = false := by simpa using c29
                    (try (have c29b1 : decide (t161 = true) = false := by simpa using c29))
                    (try (have c29b2 : (t161 == true) = false := by simpa using c29))
                    (try (have c29b3 : ¬ (t161 = true) := by simpa using c29))
                    clear c29
                    obtain rfl := Option.some.inj H
                    go_wp2_with (first | (go_at_call 13; (with_reducible refine (real_Below.calls a0 a0 false _ A18.out).mono ?_); rintro e w' ⟨rfl, ⟨nd, rfl⟩⟩) | (go_at_call 13; (with_reducible refine (real_Below.calls a0 a2 true _ A22.out).mono ?_); rintro e w' ⟨rfl, ⟨nd, rfl⟩⟩) | (go_at_call 13; (with_reducible refine (real_Below.calls a1 a0 false _ A24.out).mono ?_); rintro e w' ⟨rfl, ⟨nd, rfl⟩⟩) | (go_at_call 18; (with_reducible refine (real_Flip.calls a1 t159 _ A26.out).mono ?_); rintro e w' ⟨rfl, ⟨nd, rfl⟩⟩) | (go_at_call 18; (with_reducible refine (real_Flip.calls a0 t160 _ A27.out).mono ?_); rintro e w' ⟨rfl, ⟨nd, rfl⟩⟩) | (go_at_call 13; (with_reducible refine (real_Below.calls t159 t160 t161 _ A28.out).mono ?_); rintro e w' ⟨rfl, ⟨nd, rfl⟩⟩))
                    go_ret
                    exact ⟨by first | rfl | (simp; done) | (simp [*]; done), by repeat (first | exact Drawn0.refl _ | apply Drawn0.step)⟩
              · replace c23 := Bool.eq_false_iff.mpr c23
                subst c23
                have H1 : (some false) = some r := by rw [if_neg (show ¬ (false = true) by decide)] at H; exact H
                clear H
                have H := H1
                clear H1
                obtain rfl := Option.some.inj H
                go_wp2_with (first | (go_at_call 13; (with_reducible refine (real_Below.calls a0 a0 false _ A18.out).mono ?_); rintro e w' ⟨rfl, ⟨nd, rfl⟩⟩) | (go_at_call 13; (with_reducible refine (real_Below.calls a0 a2 false _ A22.out).mono ?_); rintro e w' ⟨rfl, ⟨nd, rfl⟩⟩))
                go_ret
                exact ⟨by first | rfl | (simp; done) | (simp [*]; done), by repeat (first | exact Drawn0.refl _ | apply Drawn0.step)⟩
            · replace c21 := Bool.eq_false_iff.mpr c21
              subst c21
              have H1 : ((real_Below.f a1 a0).bind fun t162 => (if t162 = true then (some false) else ((real_Flip.f a1).bind fun t163 => ((real_Flip.f a0).bind fun t164 => ((real_Below.f t163 t164).bind fun t165 => (if (t165 == true) = true then (some x15_8) else (some false))))))) = some r := by rw [if_neg (show ¬ (false = true) by decide)] at H; exact H
              clear H
              have H := H1
              clear H1
              replace H := Option.bind_eq_some_iff.mp H
              obtain ⟨t162, A300, H⟩ := H
              replace H : (if t162 = true then (some false) else ((real_Flip.f a1).bind fun t163 => ((real_Flip.f a0).bind fun t164 => ((real_Below.f t163 t164).bind fun t165 => (if (t165 == true) = true then (some x15_8) else (some false)))))) = some r := H
              have A30 := Aside0.mk A300
              clear A300
              by_cases c31 : t162 = true
              · subst c31
                have H1 : (some false) = some r := by rw [if_pos rfl] at H; exact H
                clear H
                have H := H1
                clear H1
                obtain rfl := Option.some.inj H
                go_wp2_with (first | (go_at_call 13; (with_reducible refine (real_Below.calls a0 a0 false _ A18.out).mono ?_); rintro e w' ⟨rfl, ⟨nd, rfl⟩⟩) | (go_at_call 13; (with_reducible refine (real_Below.calls a1 a0 true _ A30.out).mono ?_); rintro e w' ⟨rfl, ⟨nd, rfl⟩⟩))
                go_ret
                exact ⟨by first | rfl | (simp; done) | (simp [*]; done), by repeat (first | exact Drawn0.refl _ | apply Drawn0.step)⟩
              · replace c31 := Bool.eq_false_iff.mpr c31
                subst c31
                have H1 : ((real_Flip.f a1).bind fun t163 => ((real_Flip.f a0).bind fun t164 => ((real_Below.f t163 t164).bind fun t165 => (if (t165 == true) = true then (some x15_8) else (some false))))) = some r := by rw [if_neg (show ¬ (false = true) by decide)] at H; exact H
                clear H
                have H := H1
                clear H1
                replace H := Option.bind_eq_some_iff.mp H
                obtain ⟨t163, A320, H⟩ := H
                replace H : ((real_Flip.f a0).bind fun t164 => ((real_Below.f t163 t164).bind fun t165 => (if (t165 == true) = true then (some x15_8) else (some false)))) = some r := H
                have A32 := Aside0.mk A320
                clear A320
                replace H := Option.bind_eq_some_iff.mp H
                obtain ⟨t164, A330, H⟩ := H
                replace H : ((real_Below.f t163 t164).bind fun t165 => (if (t165 == true) = true then (some x15_8) else (some false))) = some r := H
                have A33 := Aside0.mk A330
                clear A330
                replace H := Option.bind_eq_some_iff.mp H
                obtain ⟨t165, A340, H⟩ := H
                replace H : (if (t165 == true) = true then (some x15_8) else (some false)) = some r := H
                have A34 := Aside0.mk A340
                clear A340
                by_cases c35 : (t165 == true) = true
                · rw [if_pos c35] at H
                  have c35b0 : (t165 == true) = true := c35
                  (try (have c35b1 : decide (t165 = true) = true := by simpa using c35))
                  (try (have c35b2 : (t165 == true) = true := by simpa using c35))
                  clear c35
                  obtain rfl := Option.some.inj H
                  go_wp2_with (first | (go_at_call 13; (with_reducible refine (real_Below.calls a0 a0 false _ A18.out).mono ?_); rintro e w' ⟨rfl, ⟨nd, rfl⟩⟩) | (go_at_call 13; (with_reducible refine (real_Below.calls a1 a0 false _ A30.out).mono ?_); rintro e w' ⟨rfl, ⟨nd, rfl⟩⟩) | (go_at_call 18; (with_reducible refine (real_Flip.calls a1 t163 _ A32.out).mono ?_); rintro e w' ⟨rfl, ⟨nd, rfl⟩⟩) | (go_at_call 18; (with_reducible refine (real_Flip.calls a0 t164 _ A33.out).mono ?_); rintro e w' ⟨rfl, ⟨nd, rfl⟩⟩) | (go_at_call 13; (with_reducible refine (real_Below.calls t163 t164 t165 _ A34.out).mono ?_); rintro e w' ⟨rfl, ⟨nd, rfl⟩⟩))
                  go_ret
                  exact ⟨by first | rfl | (simp; done) | (simp [*]; done), by repeat (first | exact Drawn0.refl _ | apply Drawn0.step)⟩
                · rw [if_neg c35] at H
                  have c35b0 : (t165 == true) = false := by simpa using c35
                  (try (have c35b1 : decide (t165 = true) = false := by simpa using c35))
                  (try (have c35b2 : (t165 == true) = false := by simpa using c35))
                  (try (have c35b3 : ¬ (t165 = true) := by simpa using c35))
                  clear c35
                  obtain rfl := Option.some.inj H
                  go_wp2_with (first | (go_at_call 13; (with_reducible refine (real_Below.calls a0 a0 false _ A18.out).mono ?_); rintro e w' ⟨rfl, ⟨nd, rfl⟩⟩) | (go_at_call 13; (with_reducible refine (real_Below.calls a1 a0 false _ A30.out).mono ?_); rintro e w' ⟨rfl, ⟨nd, rfl⟩⟩) | (go_at_call 18; (with_reducible refine (real_Flip.calls a1 t163 _ A32.out).mono ?_); rintro e w' ⟨rfl, ⟨nd, rfl⟩⟩) | (go_at_call 18; (with_reducible refine (real_Flip.calls a0 t164 _ A33.out).mono ?_); rintro e w' ⟨rfl, ⟨nd, rfl⟩⟩) | (go_at_call 13; (with_reducible refine (real_Below.calls t163 t164 t165 _ A34.out).mono ?_); rintro e w' ⟨rfl, ⟨nd, rfl⟩⟩))
                  go_ret
                  exact ⟨by first | rfl | (simp; done) | (simp [*]; done), by repeat (first | exact Drawn0.refl _ | apply Drawn0.step)⟩
          · replace c20 := Bool.eq_false_iff.mpr c20
            subst c20
            have H1 : ((real_Flip.f a1).bind fun t166 => ((real_Flip.f a0).bind fun t167 => ((real_Below.f t166 t167).bind fun t168 => (if (t168 == false) = true then (some x15_8) else (some false))))) = some r := by rw [if_neg (show ¬ (false = true) by decide)] at H; exact H
            clear H
            have H := H1
            clear H1
            replace H := Option.bind_eq_some_iff.mp H
            obtain ⟨t166, A360, H⟩ := H
            replace H : ((real_Flip.f a0).bind fun t167 => ((real_Below.f t166 t167).bind fun t168 => (if (t168 == false) = true then (some x15_8) else (some false)))) = some r := H
            have A36 := Aside0.mk A360
            clear A360
            replace H := Option.bind_eq_some_iff.mp H
            obtain ⟨t167, A370, H⟩ := H
            replace H : ((real_Below.f t166 t167).bind fun t168 => (if (t168 == false) = true then (some x15_8) else (some false))) = some r := H
            have A37 := Aside0.mk A370
            clear A370
            replace H := Option.bind_eq_some_iff.mp H
            obtain ⟨t168, A380, H⟩ := H
            replace H : (if (t168 == false) = true then (some x15_8) else (some false)) = some r := H
            have A38 := Aside0.mk A380
            clear A380
            by_cases c39 : (t168 == false) = true
            · rw [if_pos c39] at H
              have c39b0 : (t168 == false) = true := c39
              (try (have c39b1 : decide (t168 = false) = true := by simpa using c39))
              (try (have c39b2 : (t168 == false) = true := by simpa using c39))
              clear c39
              obtain rfl := Option.some.inj H
              go_wp2_with (first | (go_at_call 13; (with_reducible refine (real_Below.calls a0 a0 false _ A18.out).mono ?_); rintro e w' ⟨rfl, ⟨nd, rfl⟩⟩) | (go_at_call 18; (with_reducible refine (real_Flip.calls a1 t166 _ A36.out).mono ?_); rintro e w' ⟨rfl, ⟨nd, rfl⟩⟩) | (go_at_call 18; (with_reducible refine (real_Flip.calls a0 t167 _ A37.out).mono ?_); rintro e w' ⟨rfl, ⟨nd, rfl⟩⟩) | (go_at_call 13; (with_reducible refine (real_Below.calls t166 t167 t168 _ A38.out).mono ?_); rintro e w' ⟨rfl, ⟨nd, rfl⟩⟩))
              go_ret
              exact ⟨by first | rfl | (simp; done) | (simp [*]; done), by repeat (first | exact Drawn0.refl _ | apply Drawn0.step)⟩
            · rw [if_neg c39] at H
              have c39b0 : (t168 == false) = false := by simpa using c39
              (try (have c39b1 : decide (t168 = false) = false := by simpa using c39))
              (try (have c39b2 : (t168 == false) = false := by simpa using c39))
              (try (have c39b3 : ¬ (t168 = false) := by simpa using c39))
              clear c39
              obtain rfl := Option.some.inj H
              go_wp2_with (first | (go_at_call 13; (with_reducible refine (real_Below.calls a0 a0 false _ A18.out).mono ?_); rintro e w' ⟨rfl, ⟨nd, rfl⟩⟩) | (go_at_call 18; (with_reducible refine (real_Flip.calls a1 t166 _ A36.out).mono ?_); rintro e w' ⟨rfl, ⟨nd, rfl⟩⟩) | (go_at_call 18; (with_reducible refine (real_Flip.calls a0 t167 _ A37.out).mono ?_); rintro e w' ⟨rfl, ⟨nd, rfl⟩⟩) | (go_at_call 13; (with_reducible refine (real_Below.calls t166 t167 t168 _ A38.out).mono ?_); rintro e w' ⟨rfl, ⟨nd, rfl⟩⟩))
              go_ret
              exact ⟨by first | rfl | (simp; done) | (simp [*]; done), by repeat (first | exact Drawn0.refl _ | apply Drawn0.step)⟩
      · replace c17 := Bool.eq_false_iff.mpr c17
        subst c17
        have H1 : (some false) = some r := by rw [if_neg (show ¬ (false = true) by decide)] at H; exact H
        clear H
        have H := H1
        clear H1
        obtain rfl := Option.some.inj H
        go_wp2
        go_ret
        exact ⟨by first | rfl | (simp; done) | (simp [*]; done), by repeat (first | exact Drawn0.refl _ | apply Drawn0.step)⟩

/-- THE ONE PURE STATEMENT of quarterdecklaw02_RealOrder: yours. -/
def quarterdecklaw02_RealOrder.Pure : Prop := ∀ (a0 : Int) (a1 : Int) (a2 : Int) (a3 : Int) (a4 : Int), (Lit.int .i64 a0).wf = true → (Lit.int .i64 a1).wf = true → (Lit.int .i64 a2).wf = true → (Lit.int .i64 a3).wf = true → (Lit.int .i64 a4).wf = true → ∃ k, quarterdecklaw02_RealOrder.f k a0 a1 a2 a3 a4 = some true
theorem quarterdecklaw02_RealOrder.walk (P : quarterdecklaw02_RealOrder.Pure) (a0 : Int) (a1 : Int) (a2 : Int) (a3 : Int) (a4 : Int) (w : World) (w0 : (Lit.int .i64 a0).wf = true) (w1 : (Lit.int .i64 a1).wf = true) (w2 : (Lit.int .i64 a2).wf = true) (w3 : (Lit.int .i64 a3).wf = true) (w4 : (Lit.int .i64 a4).wf = true) :
    Calls Try.prog 5 #[.int .i64 a0, .int .i64 a1, .int .i64 a2, .int .i64 a3, .int .i64 a4] w fun e w' => e = .returned (.bool true) ∧ Below w.heap.size w w' := by
  obtain ⟨k, h⟩ := P a0 a1 a2 a3 a4 w0 w1 w2 w3 w4
  refine (quarterdecklaw02_RealOrder.calls k a0 a1 a2 a3 a4 true w h).mono ?_
  rintro e w' ⟨rfl, hd⟩
  exact ⟨rfl, hd.below⟩

/-! ### quarterdecklaw02_RealTwice: function 6 -/
def quarterdecklaw02_RealTwice.j0 : Nat → Int → Bool → Bool → Option (Bool)
  | 0, _, _, _ => none
  | k + 1, x0, x3, x19 => if x19 = true then (some x3) else ((real_Of.f x0).bind fun t170 => ((real_Twice.f t170).bind fun t171 => ((real_Of.f (wrap64 (2 * x0))).bind fun t172 => (if t171 = t172 then (if (Int.tmod x0 2) = 0 then (if x0 = 0 then (some true) else ((real_Half.f t170).bind fun t173 => ((real_Of.f (wrap64 (Int.tdiv x0 2))).bind fun t174 => (if t173 = t174 then ((real_Flip.f t170).bind fun t175 => ((real_Of.f (wrap64 (-x0))).bind fun t176 => (some (t175 == t176)))) else (some false))))) else (if x0 = 0 then (some true) else ((real_Flip.f t170).bind fun t177 => ((real_Of.f (wrap64 (-x0))).bind fun t178 => (some (t177 == t178)))))) else (some false)))))
def quarterdecklaw02_RealTwice.f (k : Nat) (a0 : Int) : Option (Bool) := (quarterdecklaw02_awake.f).bind fun t169 => (if t169 = true then (if a0 < (-4503599627370496) then (quarterdecklaw02_RealTwice.j0 k a0 t169 true) else (quarterdecklaw02_RealTwice.j0 k a0 t169 (decide (a0 > 4503599627370496)))) else (quarterdecklaw02_RealTwice.j0 k a0 t169 true))
theorem quarterdecklaw02_RealTwice.mono_l : ∀ k, (∀ y0 y1 y2, LeO (quarterdecklaw02_RealTwice.j0 k y0 y1 y2) (quarterdecklaw02_RealTwice.j0 (k + 1) y0 y1 y2))
  | 0 => fun _ _ _ r h => by simp [quarterdecklaw02_RealTwice.j0] at h
  | k + 1 => by
    have ih0 := quarterdecklaw02_RealTwice.mono_l k
    · intro y0 y1 y2
      unfold quarterdecklaw02_RealTwice.j0
      repeat' first
      | (with_reducible exact ih0 _ _ _)
      | (with_reducible exact LeO.refl _)
      | (with_reducible exact LeO.none _)
      | (with_reducible refine LeO.ite ?_ ?_)
      | (with_reducible refine LeO.bind ?_ (fun _ => ?_))
      | exact ih0 _ _ _
      | exact LeO.none _
      | refine LeO.ite ?_ ?_
      | refine LeO.bind ?_ (fun _ => ?_)
theorem quarterdecklaw02_RealTwice.mono : ∀ a0 k, LeO (quarterdecklaw02_RealTwice.f k a0) (quarterdecklaw02_RealTwice.f (k + 1) a0) := by
  intro a0 k
  have ih0 := quarterdecklaw02_RealTwice.mono_l k
  unfold quarterdecklaw02_RealTwice.f
  repeat' first
      | (with_reducible exact ih0 _ _ _)
      | (with_reducible exact LeO.refl _)
      | (with_reducible exact LeO.none _)
      | (with_reducible refine LeO.ite ?_ ?_)
      | (with_reducible refine LeO.bind ?_ (fun _ => ?_))
      | exact ih0 _ _ _
      | exact LeO.none _
      | refine LeO.ite ?_ ?_
      | refine LeO.bind ?_ (fun _ => ?_)
set_option maxHeartbeats 8000000 in
set_option maxRecDepth 100000 in
theorem quarterdecklaw02_RealTwice.calls (k : Nat) (a0 : Int) (r : Bool) (w : World) (h : quarterdecklaw02_RealTwice.f k a0 = some r) :
    Calls Try.prog 6 #[.int .i64 a0] w fun e w' => e = .returned (.bool r) ∧ Drawn0 w w' := by
  have H : ((quarterdecklaw02_awake.f).bind fun t169 => (if t169 = true then (if a0 < (-4503599627370496) then (quarterdecklaw02_RealTwice.j0 k a0 t169 true) else (quarterdecklaw02_RealTwice.j0 k a0 t169 (decide (a0 > 4503599627370496)))) else (quarterdecklaw02_RealTwice.j0 k a0 t169 true))) = some r := h
  clear h
  replace H := Option.bind_eq_some_iff.mp H
  obtain ⟨t169, A20, H⟩ := H
  replace H : (if t169 = true then (if a0 < (-4503599627370496) then (quarterdecklaw02_RealTwice.j0 k a0 t169 true) else (quarterdecklaw02_RealTwice.j0 k a0 t169 (decide (a0 > 4503599627370496)))) else (quarterdecklaw02_RealTwice.j0 k a0 t169 true)) = some r := H
  have A2 := Aside0.mk A20
  clear A20
  have HC3 := Aside0.mk H
  clear H
  go_enter Try.func6, Try.ntmps6
  go_upto_region 3 with (first | ((with_reducible refine gate_callee (f := 11) rfl ?_); refine goesL_ (some 6) rfl rfl Try.func11 (by kernel_rfl) rfl #[] rfl (by (try simp only [List.map_toArray, List.map_cons, List.map_nil]); first | done | rfl | (simp only [List.length_drop, List.length_take]; rfl)) ?_; (with_reducible refine (quarterdecklaw02_awake.calls  t169 _ A2.out).mono ?_); rintro e w' ⟨rfl, ⟨nd, rfl⟩⟩; refine ⟨_, rfl, ?_⟩))
  (try simp only [Act.put, List.setIfInBounds_toArray, List.set_cons_zero, List.set_cons_succ])
  go_cut [19] (fun v19 wc => ∃ (kq : Nat) (x19_2 : Bool), v19 = .bool x19_2 ∧ Aside0 (quarterdecklaw02_RealTwice.j0 kq a0 t169 x19_2 = some r) ∧ Aside0 (kq ≤ k) ∧ Drawn0 w wc)
  case first =>
    have H := HC3.out
    clear HC3
    by_cases c4 : t169 = true
    · subst c4
      have H1 : (if a0 < (-4503599627370496) then (quarterdecklaw02_RealTwice.j0 k a0 true true) else (quarterdecklaw02_RealTwice.j0 k a0 true (decide (a0 > 4503599627370496)))) = some r := by rw [if_pos rfl] at H; exact H
      clear H
      have H := H1
      clear H1
      by_cases c5 : a0 < (-4503599627370496)
      · rw [if_pos c5] at H
        have c5b0 : decide (a0 < (-4503599627370496)) = true := decide_eq_true c5
        clear c5
        (first | rw [c5b0] | (simp only [i64_w, i32_w]; rw [c5b0]) | skip)
        have H' := Aside0.mk H
        clear H
        go_wp2
        go_meet
        case rel => exact ⟨_, (true), (by first | rfl | (simp; done) | (simp [*]; done)), H', ⟨by first | omega | exact Nat.le_refl _⟩, by repeat (first | exact Drawn0.refl _ | apply Drawn0.step)⟩
      · rw [if_neg c5] at H
        have c5b0 : decide (a0 < (-4503599627370496)) = false := decide_eq_false c5
        clear c5
        (first | rw [c5b0] | (simp only [i64_w, i32_w]; rw [c5b0]) | skip)
        have H' := Aside0.mk H
        clear H
        go_wp2
        go_meet
        case rel => exact ⟨_, (decide (a0 > 4503599627370496)), (by first | rfl | (simp; done) | (simp [*]; done)), H', ⟨by first | omega | exact Nat.le_refl _⟩, by repeat (first | exact Drawn0.refl _ | apply Drawn0.step)⟩
    · replace c4 := Bool.eq_false_iff.mpr c4
      subst c4
      have H1 : (quarterdecklaw02_RealTwice.j0 k a0 false true) = some r := by rw [if_neg (show ¬ (false = true) by decide)] at H; exact H
      clear H
      have H := H1
      clear H1
      have H' := Aside0.mk H
      clear H
      go_wp2
      go_meet
      case rel => exact ⟨_, (true), (by first | rfl | (simp; done) | (simp [*]; done)), H', ⟨by first | omega | exact Nat.le_refl _⟩, by repeat (first | exact Drawn0.refl _ | apply Drawn0.step)⟩
  case rest =>
    clear HC3
    try clear c1
    try clear p2
    try clear c4
    try clear c5
    try clear c5b0
    obtain ⟨kq, x19_2, rfl, HA, HJ2, ⟨mc2, rfl⟩⟩ := hcut
    cases kq with
    | zero => exact absurd HA.out (by simp [quarterdecklaw02_RealTwice.j0])
    | succ kj2 =>
      have H := HA.out
      clear HA
      simp only [quarterdecklaw02_RealTwice.j0] at H
      by_cases c6 : x19_2 = true
      · subst c6
        have H1 : (some t169) = some r := by rw [if_pos rfl] at H; exact H
        clear H
        have H := H1
        clear H1
        obtain rfl := Option.some.inj H
        go_wp2
        go_ret
        exact ⟨by first | rfl | (simp; done) | (simp [*]; done), by repeat (first | exact Drawn0.refl _ | apply Drawn0.step)⟩
      · replace c6 := Bool.eq_false_iff.mpr c6
        subst c6
        have H1 : ((real_Of.f a0).bind fun t170 => ((real_Twice.f t170).bind fun t171 => ((real_Of.f (wrap64 (2 * a0))).bind fun t172 => (if t171 = t172 then (if (Int.tmod a0 2) = 0 then (if a0 = 0 then (some true) else ((real_Half.f t170).bind fun t173 => ((real_Of.f (wrap64 (Int.tdiv a0 2))).bind fun t174 => (if t173 = t174 then ((real_Flip.f t170).bind fun t175 => ((real_Of.f (wrap64 (-a0))).bind fun t176 => (some (t175 == t176)))) else (some false))))) else (if a0 = 0 then (some true) else ((real_Flip.f t170).bind fun t177 => ((real_Of.f (wrap64 (-a0))).bind fun t178 => (some (t177 == t178)))))) else (some false))))) = some r := by rw [if_neg (show ¬ (false = true) by decide)] at H; exact H
        clear H
        have H := H1
        clear H1
        replace H := Option.bind_eq_some_iff.mp H
        obtain ⟨t170, A70, H⟩ := H
        replace H : ((real_Twice.f t170).bind fun t171 => ((real_Of.f (wrap64 (2 * a0))).bind fun t172 => (if t171 = t172 then (if (Int.tmod a0 2) = 0 then (if a0 = 0 then (some true) else ((real_Half.f t170).bind fun t173 => ((real_Of.f (wrap64 (Int.tdiv a0 2))).bind fun t174 => (if t173 = t174 then ((real_Flip.f t170).bind fun t175 => ((real_Of.f (wrap64 (-a0))).bind fun t176 => (some (t175 == t176)))) else (some false))))) else (if a0 = 0 then (some true) else ((real_Flip.f t170).bind fun t177 => ((real_Of.f (wrap64 (-a0))).bind fun t178 => (some (t177 == t178)))))) else (some false)))) = some r := H
        have A7 := Aside0.mk A70
        clear A70
        replace H := Option.bind_eq_some_iff.mp H
        obtain ⟨t171, A80, H⟩ := H
        replace H : ((real_Of.f (wrap64 (2 * a0))).bind fun t172 => (if t171 = t172 then (if (Int.tmod a0 2) = 0 then (if a0 = 0 then (some true) else ((real_Half.f t170).bind fun t173 => ((real_Of.f (wrap64 (Int.tdiv a0 2))).bind fun t174 => (if t173 = t174 then ((real_Flip.f t170).bind fun t175 => ((real_Of.f (wrap64 (-a0))).bind fun t176 => (some (t175 == t176)))) else (some false))))) else (if a0 = 0 then (some true) else ((real_Flip.f t170).bind fun t177 => ((real_Of.f (wrap64 (-a0))).bind fun t178 => (some (t177 == t178)))))) else (some false))) = some r := H
        have A8 := Aside0.mk A80
        clear A80
        replace H := Option.bind_eq_some_iff.mp H
        obtain ⟨t172, A90, H⟩ := H
        replace H : (if t171 = t172 then (if (Int.tmod a0 2) = 0 then (if a0 = 0 then (some true) else ((real_Half.f t170).bind fun t173 => ((real_Of.f (wrap64 (Int.tdiv a0 2))).bind fun t174 => (if t173 = t174 then ((real_Flip.f t170).bind fun t175 => ((real_Of.f (wrap64 (-a0))).bind fun t176 => (some (t175 == t176)))) else (some false))))) else (if a0 = 0 then (some true) else ((real_Flip.f t170).bind fun t177 => ((real_Of.f (wrap64 (-a0))).bind fun t178 => (some (t177 == t178)))))) else (some false)) = some r := H
        have A9 := Aside0.mk A90
        clear A90
        by_cases c10 : t171 = t172
        · rw [if_pos c10] at H
          have c10b0 : (t171 == t172) = true := beq_iff_eq.mpr c10
          have c10b1 : (t171 != t172) = false := bne_eq_false_iff_eq.mpr c10
          clear c10
          by_cases c11 : (Int.tmod a0 2) = 0
          · rw [if_pos c11] at H
            have c11b0 : ((Int.tmod a0 2) == 0) = true := beq_iff_eq.mpr c11
            have c11b1 : ((Int.tmod a0 2) != 0) = false := bne_eq_false_iff_eq.mpr c11
            clear c11
            by_cases c12 : a0 = 0
            · rw [if_pos c12] at H
              have c12b0 : (a0 == 0) = true := beq_iff_eq.mpr c12
              have c12b1 : (a0 != 0) = false := bne_eq_false_iff_eq.mpr c12
              clear c12
              obtain rfl := Option.some.inj H
              go_wp2_with (first | ((with_reducible refine gate_callee (f := 20) rfl ?_); refine goesL_ (some 22) rfl rfl Try.func20 (by kernel_rfl) rfl #[.int .i64 a0] rfl (by (try simp only [List.map_toArray, List.map_cons, List.map_nil]); first | done | rfl | (simp only [List.length_drop, List.length_take]; rfl)) ?_; (with_reducible refine (real_Of.calls a0 t170 _ A7.out).mono ?_); rintro e w' ⟨rfl, ⟨nd, rfl⟩⟩; refine ⟨_, rfl, ?_⟩) | ((with_reducible refine gate_callee (f := 16) rfl ?_); refine goesL_ (some 24) rfl rfl Try.func16 (by kernel_rfl) rfl #[.int .i64 t170] rfl (by (try simp only [List.map_toArray, List.map_cons, List.map_nil]); first | done | rfl | (simp only [List.length_drop, List.length_take]; rfl)) ?_; (with_reducible refine (real_Twice.calls t170 t171 _ A8.out).mono ?_); rintro e w' ⟨rfl, ⟨nd, rfl⟩⟩; refine ⟨_, rfl, ?_⟩) | ((with_reducible refine gate_callee (f := 20) rfl ?_); refine goesL_ (some 27) rfl rfl Try.func20 (by kernel_rfl) rfl #[.int .i64 (wrap64 (2 * a0))] rfl (by (try simp only [List.map_toArray, List.map_cons, List.map_nil]); first | done | rfl | (simp only [List.length_drop, List.length_take]; rfl)) ?_; (with_reducible refine (real_Of.calls (wrap64 (2 * a0)) t172 _ A9.out).mono ?_); rintro e w' ⟨rfl, ⟨nd, rfl⟩⟩; refine ⟨_, rfl, ?_⟩))
              go_ret
              exact ⟨by first | rfl | (simp; done) | (simp [*]; done), by repeat (first | exact Drawn0.refl _ | apply Drawn0.step)⟩
            · rw [if_neg c12] at H
              have c12b0 : (a0 == 0) = false := beq_eq_false_iff_ne.mpr c12
              have c12b1 : (a0 != 0) = true := bne_iff_ne.mpr c12
              replace H := Option.bind_eq_some_iff.mp H
              obtain ⟨t173, A130, H⟩ := H
              replace H : ((real_Of.f (wrap64 (Int.tdiv a0 2))).bind fun t174 => (if t173 = t174 then ((real_Flip.f t170).bind fun t175 => ((real_Of.f (wrap64 (-a0))).bind fun t176 => (some (t175 == t176)))) else (some false))) = some r := H
              have A13 := Aside0.mk A130
              clear A130
              replace H := Option.bind_eq_some_iff.mp H
              obtain ⟨t174, A140, H⟩ := H
              replace H : (if t173 = t174 then ((real_Flip.f t170).bind fun t175 => ((real_Of.f (wrap64 (-a0))).bind fun t176 => (some (t175 == t176)))) else (some false)) = some r := H
              have A14 := Aside0.mk A140
              clear A140
              by_cases c15 : t173 = t174
              · rw [if_pos c15] at H
                have c15b0 : (t173 == t174) = true := beq_iff_eq.mpr c15
                have c15b1 : (t173 != t174) = false := bne_eq_false_iff_eq.mpr c15
                clear c15
                replace H := Option.bind_eq_some_iff.mp H
                obtain ⟨t175, A160, H⟩ := H
                replace H : ((real_Of.f (wrap64 (-a0))).bind fun t176 => (some (t175 == t176))) = some r := H
                have A16 := Aside0.mk A160
                clear A160
                replace H := Option.bind_eq_some_iff.mp H
                obtain ⟨t176, A170, H⟩ := H
                replace H : (some (t175 == t176)) = some r := H
                have A17 := Aside0.mk A170
                clear A170
                obtain rfl := Option.some.inj H
                go_wp2_with (first | ((with_reducible refine gate_callee (f := 20) rfl ?_); refine goesL_ (some 22) rfl rfl Try.func20 (by kernel_rfl) rfl #[.int .i64 a0] rfl (by (try simp only [List.map_toArray, List.map_cons, List.map_nil]); first | done | rfl | (simp only [List.length_drop, List.length_take]; rfl)) ?_; (with_reducible refine (real_Of.calls a0 t170 _ A7.out).mono ?_); rintro e w' ⟨rfl, ⟨nd, rfl⟩⟩; refine ⟨_, rfl, ?_⟩) | ((with_reducible refine gate_callee (f := 16) rfl ?_); refine goesL_ (some 24) rfl rfl Try.func16 (by kernel_rfl) rfl #[.int .i64 t170] rfl (by (try simp only [List.map_toArray, List.map_cons, List.map_nil]); first | done | rfl | (simp only [List.length_drop, List.length_take]; rfl)) ?_; (with_reducible refine (real_Twice.calls t170 t171 _ A8.out).mono ?_); rintro e w' ⟨rfl, ⟨nd, rfl⟩⟩; refine ⟨_, rfl, ?_⟩) | ((with_reducible refine gate_callee (f := 20) rfl ?_); refine goesL_ (some 27) rfl rfl Try.func20 (by kernel_rfl) rfl #[.int .i64 (wrap64 (2 * a0))] rfl (by (try simp only [List.map_toArray, List.map_cons, List.map_nil]); first | done | rfl | (simp only [List.length_drop, List.length_take]; rfl)) ?_; (with_reducible refine (real_Of.calls (wrap64 (2 * a0)) t172 _ A9.out).mono ?_); rintro e w' ⟨rfl, ⟨nd, rfl⟩⟩; refine ⟨_, rfl, ?_⟩) | (go_at_call 14; (with_reducible refine (real_Half.calls t170 t173 _ A13.out).mono ?_); rintro e w' ⟨rfl, ⟨nd, rfl⟩⟩) | (go_at_call 20; (with_reducible refine (real_Of.calls (wrap64 (Int.tdiv a0 2)) t174 _ A14.out).mono ?_); rintro e w' ⟨rfl, ⟨nd, rfl⟩⟩) | (go_at_call 18; (with_reducible refine (real_Flip.calls t170 t175 _ A16.out).mono ?_); rintro e w' ⟨rfl, ⟨nd, rfl⟩⟩) | (go_at_call 20; (with_reducible refine (real_Of.calls (wrap64 (-a0)) t176 _ A17.out).mono ?_); rintro e w' ⟨rfl, ⟨nd, rfl⟩⟩))
                go_ret
                exact ⟨by first | rfl | (simp; done) | (simp [*]; done), by repeat (first | exact Drawn0.refl _ | apply Drawn0.step)⟩
              · rw [if_neg c15] at H
                have c15b0 : (t173 == t174) = false := beq_eq_false_iff_ne.mpr c15
                have c15b1 : (t173 != t174) = true := bne_iff_ne.mpr c15
                obtain rfl := Option.some.inj H
                go_wp2_with (first | ((with_reducible refine gate_callee (f := 20) rfl ?_); refine goesL_ (some 22) rfl rfl Try.func20 (by kernel_rfl) rfl #[.int .i64 a0] rfl (by (try simp only [List.map_toArray, List.map_cons, List.map_nil]); first | done | rfl | (simp only [List.length_drop, List.length_take]; rfl)) ?_; (with_reducible refine (real_Of.calls a0 t170 _ A7.out).mono ?_); rintro e w' ⟨rfl, ⟨nd, rfl⟩⟩; refine ⟨_, rfl, ?_⟩) | ((with_reducible refine gate_callee (f := 16) rfl ?_); refine goesL_ (some 24) rfl rfl Try.func16 (by kernel_rfl) rfl #[.int .i64 t170] rfl (by (try simp only [List.map_toArray, List.map_cons, List.map_nil]); first | done | rfl | (simp only [List.length_drop, List.length_take]; rfl)) ?_; (with_reducible refine (real_Twice.calls t170 t171 _ A8.out).mono ?_); rintro e w' ⟨rfl, ⟨nd, rfl⟩⟩; refine ⟨_, rfl, ?_⟩) | ((with_reducible refine gate_callee (f := 20) rfl ?_); refine goesL_ (some 27) rfl rfl Try.func20 (by kernel_rfl) rfl #[.int .i64 (wrap64 (2 * a0))] rfl (by (try simp only [List.map_toArray, List.map_cons, List.map_nil]); first | done | rfl | (simp only [List.length_drop, List.length_take]; rfl)) ?_; (with_reducible refine (real_Of.calls (wrap64 (2 * a0)) t172 _ A9.out).mono ?_); rintro e w' ⟨rfl, ⟨nd, rfl⟩⟩; refine ⟨_, rfl, ?_⟩) | (go_at_call 14; (with_reducible refine (real_Half.calls t170 t173 _ A13.out).mono ?_); rintro e w' ⟨rfl, ⟨nd, rfl⟩⟩) | (go_at_call 20; (with_reducible refine (real_Of.calls (wrap64 (Int.tdiv a0 2)) t174 _ A14.out).mono ?_); rintro e w' ⟨rfl, ⟨nd, rfl⟩⟩))
                go_ret
                exact ⟨by first | rfl | (simp; done) | (simp [*]; done), by repeat (first | exact Drawn0.refl _ | apply Drawn0.step)⟩
          · rw [if_neg c11] at H
            have c11b0 : ((Int.tmod a0 2) == 0) = false := beq_eq_false_iff_ne.mpr c11
            have c11b1 : ((Int.tmod a0 2) != 0) = true := bne_iff_ne.mpr c11
            by_cases c18 : a0 = 0
            · rw [if_pos c18] at H
              have c18b0 : (a0 == 0) = true := beq_iff_eq.mpr c18
              have c18b1 : (a0 != 0) = false := bne_eq_false_iff_eq.mpr c18
              clear c18
              obtain rfl := Option.some.inj H
              go_wp2_with (first | ((with_reducible refine gate_callee (f := 20) rfl ?_); refine goesL_ (some 22) rfl rfl Try.func20 (by kernel_rfl) rfl #[.int .i64 a0] rfl (by (try simp only [List.map_toArray, List.map_cons, List.map_nil]); first | done | rfl | (simp only [List.length_drop, List.length_take]; rfl)) ?_; (with_reducible refine (real_Of.calls a0 t170 _ A7.out).mono ?_); rintro e w' ⟨rfl, ⟨nd, rfl⟩⟩; refine ⟨_, rfl, ?_⟩) | ((with_reducible refine gate_callee (f := 16) rfl ?_); refine goesL_ (some 24) rfl rfl Try.func16 (by kernel_rfl) rfl #[.int .i64 t170] rfl (by (try simp only [List.map_toArray, List.map_cons, List.map_nil]); first | done | rfl | (simp only [List.length_drop, List.length_take]; rfl)) ?_; (with_reducible refine (real_Twice.calls t170 t171 _ A8.out).mono ?_); rintro e w' ⟨rfl, ⟨nd, rfl⟩⟩; refine ⟨_, rfl, ?_⟩) | ((with_reducible refine gate_callee (f := 20) rfl ?_); refine goesL_ (some 27) rfl rfl Try.func20 (by kernel_rfl) rfl #[.int .i64 (wrap64 (2 * a0))] rfl (by (try simp only [List.map_toArray, List.map_cons, List.map_nil]); first | done | rfl | (simp only [List.length_drop, List.length_take]; rfl)) ?_; (with_reducible refine (real_Of.calls (wrap64 (2 * a0)) t172 _ A9.out).mono ?_); rintro e w' ⟨rfl, ⟨nd, rfl⟩⟩; refine ⟨_, rfl, ?_⟩))
              go_ret
              exact ⟨by first | rfl | (simp; done) | (simp [*]; done), by repeat (first | exact Drawn0.refl _ | apply Drawn0.step)⟩
            · rw [if_neg c18] at H
              have c18b0 : (a0 == 0) = false := beq_eq_false_iff_ne.mpr c18
              have c18b1 : (a0 != 0) = true := bne_iff_ne.mpr c18
              replace H := Option.bind_eq_some_iff.mp H
              obtain ⟨t177, A190, H⟩ := H
              replace H : ((real_Of.f (wrap64 (-a0))).bind fun t178 => (some (t177 == t178))) = some r := H
              have A19 := Aside0.mk A190
              clear A190
              replace H := Option.bind_eq_some_iff.mp H
              obtain ⟨t178, A200, H⟩ := H
              replace H : (some (t177 == t178)) = some r := H
              have A20 := Aside0.mk A200
              clear A200
              obtain rfl := Option.some.inj H
              go_wp2_with (first | ((with_reducible refine gate_callee (f := 20) rfl ?_); refine goesL_ (some 22) rfl rfl Try.func20 (by kernel_rfl) rfl #[.int .i64 a0] rfl (by (try simp only [List.map_toArray, List.map_cons, List.map_nil]); first | done | rfl | (simp only [List.length_drop, List.length_take]; rfl)) ?_; (with_reducible refine (real_Of.calls a0 t170 _ A7.out).mono ?_); rintro e w' ⟨rfl, ⟨nd, rfl⟩⟩; refine ⟨_, rfl, ?_⟩) | ((with_reducible refine gate_callee (f := 16) rfl ?_); refine goesL_ (some 24) rfl rfl Try.func16 (by kernel_rfl) rfl #[.int .i64 t170] rfl (by (try simp only [List.map_toArray, List.map_cons, List.map_nil]); first | done | rfl | (simp only [List.length_drop, List.length_take]; rfl)) ?_; (with_reducible refine (real_Twice.calls t170 t171 _ A8.out).mono ?_); rintro e w' ⟨rfl, ⟨nd, rfl⟩⟩; refine ⟨_, rfl, ?_⟩) | ((with_reducible refine gate_callee (f := 20) rfl ?_); refine goesL_ (some 27) rfl rfl Try.func20 (by kernel_rfl) rfl #[.int .i64 (wrap64 (2 * a0))] rfl (by (try simp only [List.map_toArray, List.map_cons, List.map_nil]); first | done | rfl | (simp only [List.length_drop, List.length_take]; rfl)) ?_; (with_reducible refine (real_Of.calls (wrap64 (2 * a0)) t172 _ A9.out).mono ?_); rintro e w' ⟨rfl, ⟨nd, rfl⟩⟩; refine ⟨_, rfl, ?_⟩) | (go_at_call 18; (with_reducible refine (real_Flip.calls t170 t177 _ A19.out).mono ?_); rintro e w' ⟨rfl, ⟨nd, rfl⟩⟩) | (go_at_call 20; (with_reducible refine (real_Of.calls (wrap64 (-a0)) t178 _ A20.out).mono ?_); rintro e w' ⟨rfl, ⟨nd, rfl⟩⟩))
              go_ret
              exact ⟨by first | rfl | (simp; done) | (simp [*]; done), by repeat (first | exact Drawn0.refl _ | apply Drawn0.step)⟩
        · rw [if_neg c10] at H
          have c10b0 : (t171 == t172) = false := beq_eq_false_iff_ne.mpr c10
          have c10b1 : (t171 != t172) = true := bne_iff_ne.mpr c10
          obtain rfl := Option.some.inj H
          go_wp2_with (first | ((with_reducible refine gate_callee (f := 20) rfl ?_); refine goesL_ (some 22) rfl rfl Try.func20 (by kernel_rfl) rfl #[.int .i64 a0] rfl (by (try simp only [List.map_toArray, List.map_cons, List.map_nil]); first | done | rfl | (simp only [List.length_drop, List.length_take]; rfl)) ?_; (with_reducible refine (real_Of.calls a0 t170 _ A7.out).mono ?_); rintro e w' ⟨rfl, ⟨nd, rfl⟩⟩; refine ⟨_, rfl, ?_⟩) | ((with_reducible refine gate_callee (f := 16) rfl ?_); refine goesL_ (some 24) rfl rfl Try.func16 (by kernel_rfl) rfl #[.int .i64 t170] rfl (by (try simp only [List.map_toArray, List.map_cons, List.map_nil]); first | done | rfl | (simp only [List.length_drop, List.length_take]; rfl)) ?_; (with_reducible refine (real_Twice.calls t170 t171 _ A8.out).mono ?_); rintro e w' ⟨rfl, ⟨nd, rfl⟩⟩; refine ⟨_, rfl, ?_⟩) | ((with_reducible refine gate_callee (f := 20) rfl ?_); refine goesL_ (some 27) rfl rfl Try.func20 (by kernel_rfl) rfl #[.int .i64 (wrap64 (2 * a0))] rfl (by (try simp only [List.map_toArray, List.map_cons, List.map_nil]); first | done | rfl | (simp only [List.length_drop, List.length_take]; rfl)) ?_; (with_reducible refine (real_Of.calls (wrap64 (2 * a0)) t172 _ A9.out).mono ?_); rintro e w' ⟨rfl, ⟨nd, rfl⟩⟩; refine ⟨_, rfl, ?_⟩))
          go_ret
          exact ⟨by first | rfl | (simp; done) | (simp [*]; done), by repeat (first | exact Drawn0.refl _ | apply Drawn0.step)⟩

/-- THE ONE PURE STATEMENT of quarterdecklaw02_RealTwice: yours. -/
def quarterdecklaw02_RealTwice.Pure : Prop := ∀ (a0 : Int), (Lit.int .i64 a0).wf = true → ∃ k, quarterdecklaw02_RealTwice.f k a0 = some true
theorem quarterdecklaw02_RealTwice.walk (P : quarterdecklaw02_RealTwice.Pure) (a0 : Int) (w : World) (w0 : (Lit.int .i64 a0).wf = true) :
    Calls Try.prog 6 #[.int .i64 a0] w fun e w' => e = .returned (.bool true) ∧ Below w.heap.size w w' := by
  obtain ⟨k, h⟩ := P a0 w0
  refine (quarterdecklaw02_RealTwice.calls k a0 true w h).mono ?_
  rintro e w' ⟨rfl, hd⟩
  exact ⟨rfl, hd.below⟩


/-! ### quarterdeckref02_Of: function 21, given -/
def quarterdeckref02_Of.f (a0 : Int) : Option (Int) := some (Go.Proofs.Ytiamipopddaeiaa.RealG.ofX a0)
theorem quarterdeckref02_Of.calls (a0 : Int) (r : Int) (w : World) (h : quarterdeckref02_Of.f a0 = some r) :
    Calls Try.prog 21 #[.int .i64 a0] w fun e w' => e = .returned (.int .i64 r) ∧ Drawn0 w w' := by
  unfold quarterdeckref02_Of.f at h
  injection h with h
  subst h
  exact (Go.Proofs.Ytiamipopddaeiaa.RefOf.of_any a0 w).mono fun e w' ⟨h1, n, h2⟩ => ⟨h1, ⟨⟨n, h2⟩⟩⟩

-- NOT PRINTED: function 37 (math_archTrunc)

-- NOT PRINTED: function 39 (math_Abs)

-- NOT PRINTED: function 40 (math_Copysign)

-- NOT PRINTED: function 38 (math_trunc)

-- NOT PRINTED: function 34 (math_Trunc)


/-! ### real_Whole: function 22, given -/
def real_Whole.f (a0 : Int) : Option (Int) := some (Go.Proofs.Ytiamipopddaeiaa.RealG.wholeX a0)
theorem real_Whole.calls (a0 : Int) (r : Int) (w : World) (h : real_Whole.f a0 = some r) :
    Calls Try.prog 22 #[.int .i64 a0] w fun e w' => e = .returned (.int .i64 r) ∧ Drawn0 w w' := by
  unfold real_Whole.f at h
  injection h with h
  subst h
  exact (Go.Proofs.Ytiamipopddaeiaa.RealG.whole_eq a0 w).mono fun e w' ⟨h1, n, h2⟩ => ⟨h1, ⟨⟨n, h2⟩⟩⟩

end Go.Proofs.Ytiamipopddaeiaa.Pr

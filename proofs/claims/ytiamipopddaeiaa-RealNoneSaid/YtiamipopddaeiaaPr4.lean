/- Go functions of this seat as Lean functions, each with the proof that its call comes to just that, and the rows over them; written by a program of this session (wip/given_print.py); the conditions are the premises that each theorem names. -/
import Derived.Test.YtiamipopddaeiaaPr0
import Derived.Test.YtiamipopddaeiaaPr1
import Derived.Test.YtiamipopddaeiaaPr2
namespace Go.Proofs.Ytiamipopddaeiaa.Pr
open Go.RowKit Go.Proofs.YtiamipopddaeiaaW.PrintWords Go.Proofs.YtiamipopddaeiaaW.PrintLast Go.Proofs.YtiamipopddaeiaaW.PrintMore
attribute [local go_sem] max2_int min2_int max_two min_two max_three min_three max_four min_four   -- for this text's walks alone
set_option linter.unusedVariables false
set_option linter.unusedSimpArgs false

/-! ### quarterdecklaw02_RealNone: function 10 -/
def quarterdecklaw02_RealNone.j0 : Nat → Int → Int → Bool → Bool → Option (Bool)
  | 0, _, _, _, _ => none
  | k + 1, x0, x1, x5, x15 => if x15 = true then (some x5) else (if (Int.tmod x0 4503599627370496) = 0 then ((real_Half.f x0).bind fun t211 => (if t211 = x0 then ((real_Twice.f x0).bind fun t212 => (if t212 = x0 then ((real_Flip.f x0).bind fun t213 => ((real_Flip.f t213).bind fun t214 => (some (t214 == x0)))) else (some false))) else (some false))) else ((real_Half.f x0).bind fun t205 => (if t205 = 9221120237041090560 then ((real_Twice.f x0).bind fun t206 => (if t206 = 9221120237041090560 then ((real_Flip.f x0).bind fun t207 => (if t207 = 9221120237041090560 then ((real_Below.f x0 x1).bind fun t208 => (if t208 = true then (some false) else ((real_Below.f x1 x0).bind fun t209 => (if t209 = true then (some false) else ((real_Whole.f x0).bind fun t210 => (some (t210 == 0))))))) else (some false))) else (some false))) else (some false))))
def quarterdecklaw02_RealNone.f (k : Nat) (a0 : Int) (a1 : Int) : Option (Bool) := (quarterdecklaw02_awake.f).bind fun t204 => (if t204 = true then (quarterdecklaw02_RealNone.j0 k a0 a1 t204 ((Go.bits .and .i64 (a0 / 4503599627370496) 2047) != 2047)) else (quarterdecklaw02_RealNone.j0 k a0 a1 t204 true))
theorem quarterdecklaw02_RealNone.mono_l : ∀ k, (∀ y0 y1 y2 y3, LeO (quarterdecklaw02_RealNone.j0 k y0 y1 y2 y3) (quarterdecklaw02_RealNone.j0 (k + 1) y0 y1 y2 y3))
  | 0 => fun _ _ _ _ r h => by simp [quarterdecklaw02_RealNone.j0] at h
  | k + 1 => by
    have ih0 := quarterdecklaw02_RealNone.mono_l k
    · intro y0 y1 y2 y3
      unfold quarterdecklaw02_RealNone.j0
      repeat' first
      | (with_reducible exact ih0 _ _ _ _)
      | (with_reducible exact LeO.refl _)
      | (with_reducible exact LeO.none _)
      | (with_reducible refine LeO.ite ?_ ?_)
      | (with_reducible refine LeO.bind ?_ (fun _ => ?_))
      | exact ih0 _ _ _ _
      | exact LeO.none _
      | refine LeO.ite ?_ ?_
      | refine LeO.bind ?_ (fun _ => ?_)
theorem quarterdecklaw02_RealNone.mono : ∀ a0 a1 k, LeO (quarterdecklaw02_RealNone.f k a0 a1) (quarterdecklaw02_RealNone.f (k + 1) a0 a1) := by
  intro a0 a1 k
  have ih0 := quarterdecklaw02_RealNone.mono_l k
  unfold quarterdecklaw02_RealNone.f
  repeat' first
      | (with_reducible exact ih0 _ _ _ _)
      | (with_reducible exact LeO.refl _)
      | (with_reducible exact LeO.none _)
      | (with_reducible refine LeO.ite ?_ ?_)
      | (with_reducible refine LeO.bind ?_ (fun _ => ?_))
      | exact ih0 _ _ _ _
      | exact LeO.none _
      | refine LeO.ite ?_ ?_
      | refine LeO.bind ?_ (fun _ => ?_)
set_option maxHeartbeats 8000000 in
set_option maxRecDepth 100000 in
theorem quarterdecklaw02_RealNone.calls (k : Nat) (a0 : Int) (a1 : Int) (r : Bool) (w : World) (h : quarterdecklaw02_RealNone.f k a0 a1 = some r) :
    Calls Try.prog 10 #[.int .i64 a0, .int .i64 a1] w fun e w' => e = .returned (.bool r) ∧ Drawn0 w w' := by
  have H : ((quarterdecklaw02_awake.f).bind fun t204 => (if t204 = true then (quarterdecklaw02_RealNone.j0 k a0 a1 t204 ((Go.bits .and .i64 (a0 / 4503599627370496) 2047) != 2047)) else (quarterdecklaw02_RealNone.j0 k a0 a1 t204 true))) = some r := h
  clear h
  replace H := Option.bind_eq_some_iff.mp H
  obtain ⟨t204, A30, H⟩ := H
  replace H : (if t204 = true then (quarterdecklaw02_RealNone.j0 k a0 a1 t204 ((Go.bits .and .i64 (a0 / 4503599627370496) 2047) != 2047)) else (quarterdecklaw02_RealNone.j0 k a0 a1 t204 true)) = some r := H
  have A3 := Aside0.mk A30
  clear A30
  have HC4 := Aside0.mk H
  clear H
  go_enter Try.func10, Try.ntmps10
  go_upto_region 2 with (first | ((with_reducible refine gate_callee (f := 11) rfl ?_); refine goesL_ (some 7) rfl rfl Try.func11 (by kernel_rfl) rfl #[] rfl (by (try simp only [List.map_toArray, List.map_cons, List.map_nil]); first | done | rfl | (simp only [List.length_drop, List.length_take]; rfl)) ?_; (with_reducible refine (quarterdecklaw02_awake.calls  t204 _ A3.out).mono ?_); rintro e w' ⟨rfl, ⟨nd, rfl⟩⟩; refine ⟨_, rfl, ?_⟩))
  (try simp only [Act.put, List.setIfInBounds_toArray, List.set_cons_zero, List.set_cons_succ])
  go_cut [15] (fun v15 wc => ∃ (kq : Nat) (x15_3 : Bool), v15 = .bool x15_3 ∧ Aside0 (quarterdecklaw02_RealNone.j0 kq a0 a1 t204 x15_3 = some r) ∧ Aside0 (kq ≤ k) ∧ Drawn0 w wc)
  case first =>
    have H := HC4.out
    clear HC4
    by_cases c5 : t204 = true
    · subst c5
      have H1 : (quarterdecklaw02_RealNone.j0 k a0 a1 true ((Go.bits .and .i64 (a0 / 4503599627370496) 2047) != 2047)) = some r := by rw [if_pos rfl] at H; exact H
      clear H
      have H := H1
      clear H1
      have H' := Aside0.mk H
      clear H
      go_wp2
      go_meet
      case rel => exact ⟨_, (((Go.bits .and .i64 (a0 / 4503599627370496) 2047) != 2047)), (by first | rfl | (simp; done) | (simp [*]; done)), H', ⟨by first | omega | exact Nat.le_refl _⟩, by repeat (first | exact Drawn0.refl _ | apply Drawn0.step)⟩
    · replace c5 := Bool.eq_false_iff.mpr c5
      subst c5
      have H1 : (quarterdecklaw02_RealNone.j0 k a0 a1 false true) = some r := by rw [if_neg (show ¬ (false = true) by decide)] at H; exact H
      clear H
      have H := H1
      clear H1
      have H' := Aside0.mk H
      clear H
      go_wp2
      go_meet
      case rel => exact ⟨_, (true), (by first | rfl | (simp; done) | (simp [*]; done)), H', ⟨by first | omega | exact Nat.le_refl _⟩, by repeat (first | exact Drawn0.refl _ | apply Drawn0.step)⟩
  case rest =>
    clear HC4
    try clear c1
    try clear p2
    try clear c5
    obtain ⟨kq, x15_3, rfl, HA, HJ3, ⟨mc3, rfl⟩⟩ := hcut
    cases kq with
    | zero => exact absurd HA.out (by simp [quarterdecklaw02_RealNone.j0])
    | succ kj3 =>
      have H := HA.out
      clear HA
      simp only [quarterdecklaw02_RealNone.j0] at H
      by_cases c6 : x15_3 = true
      · subst c6
        have H1 : (some t204) = some r := by rw [if_pos rfl] at H; exact H
        clear H
        have H := H1
        clear H1
        obtain rfl := Option.some.inj H
        go_wp2
        go_ret
        exact ⟨by first | rfl | (simp; done) | (simp [*]; done), by repeat (first | exact Drawn0.refl _ | apply Drawn0.step)⟩
      · replace c6 := Bool.eq_false_iff.mpr c6
        subst c6
        have H1 : (if (Int.tmod a0 4503599627370496) = 0 then ((real_Half.f a0).bind fun t211 => (if t211 = a0 then ((real_Twice.f a0).bind fun t212 => (if t212 = a0 then ((real_Flip.f a0).bind fun t213 => ((real_Flip.f t213).bind fun t214 => (some (t214 == a0)))) else (some false))) else (some false))) else ((real_Half.f a0).bind fun t205 => (if t205 = 9221120237041090560 then ((real_Twice.f a0).bind fun t206 => (if t206 = 9221120237041090560 then ((real_Flip.f a0).bind fun t207 => (if t207 = 9221120237041090560 then ((real_Below.f a0 a1).bind fun t208 => (if t208 = true then (some false) else ((real_Below.f a1 a0).bind fun t209 => (if t209 = true then (some false) else ((real_Whole.f a0).bind fun t210 => (some (t210 == 0))))))) else (some false))) else (some false))) else (some false)))) = some r := by rw [if_neg (show ¬ (false = true) by decide)] at H; exact H
        clear H
        have H := H1
        clear H1
        by_cases c7 : (Int.tmod a0 4503599627370496) = 0
        · rw [if_pos c7] at H
          have c7b0 : ((Int.tmod a0 4503599627370496) == 0) = true := beq_iff_eq.mpr c7
          have c7b1 : ((Int.tmod a0 4503599627370496) != 0) = false := bne_eq_false_iff_eq.mpr c7
          clear c7
          replace H := Option.bind_eq_some_iff.mp H
          obtain ⟨t211, A80, H⟩ := H
          replace H : (if t211 = a0 then ((real_Twice.f a0).bind fun t212 => (if t212 = a0 then ((real_Flip.f a0).bind fun t213 => ((real_Flip.f t213).bind fun t214 => (some (t214 == a0)))) else (some false))) else (some false)) = some r := H
          have A8 := Aside0.mk A80
          clear A80
          by_cases c9 : t211 = a0
          · rw [if_pos c9] at H
            have c9b0 : (t211 == a0) = true := beq_iff_eq.mpr c9
            have c9b1 : (t211 != a0) = false := bne_eq_false_iff_eq.mpr c9
            clear c9
            replace H := Option.bind_eq_some_iff.mp H
            obtain ⟨t212, A100, H⟩ := H
            replace H : (if t212 = a0 then ((real_Flip.f a0).bind fun t213 => ((real_Flip.f t213).bind fun t214 => (some (t214 == a0)))) else (some false)) = some r := H
            have A10 := Aside0.mk A100
            clear A100
            by_cases c11 : t212 = a0
            · rw [if_pos c11] at H
              have c11b0 : (t212 == a0) = true := beq_iff_eq.mpr c11
              have c11b1 : (t212 != a0) = false := bne_eq_false_iff_eq.mpr c11
              clear c11
              replace H := Option.bind_eq_some_iff.mp H
              obtain ⟨t213, A120, H⟩ := H
              replace H : ((real_Flip.f t213).bind fun t214 => (some (t214 == a0))) = some r := H
              have A12 := Aside0.mk A120
              clear A120
              replace H := Option.bind_eq_some_iff.mp H
              obtain ⟨t214, A130, H⟩ := H
              replace H : (some (t214 == a0)) = some r := H
              have A13 := Aside0.mk A130
              clear A130
              obtain rfl := Option.some.inj H
              go_wp2_with (first | ((with_reducible refine gate_callee (f := 14) rfl ?_); refine goesL_ (some 54) rfl rfl Try.func14 (by kernel_rfl) rfl #[.int .i64 a0] rfl (by (try simp only [List.map_toArray, List.map_cons, List.map_nil]); first | done | rfl | (simp only [List.length_drop, List.length_take]; rfl)) ?_; (with_reducible refine (real_Half.calls a0 t211 _ A8.out).mono ?_); rintro e w' ⟨rfl, ⟨nd, rfl⟩⟩; refine ⟨_, rfl, ?_⟩) | (go_at_call 16; (with_reducible refine (real_Twice.calls a0 t212 _ A10.out).mono ?_); rintro e w' ⟨rfl, ⟨nd, rfl⟩⟩) | (go_at_call 18; (with_reducible refine (real_Flip.calls a0 t213 _ A12.out).mono ?_); rintro e w' ⟨rfl, ⟨nd, rfl⟩⟩) | (go_at_call 18; (with_reducible refine (real_Flip.calls t213 t214 _ A13.out).mono ?_); rintro e w' ⟨rfl, ⟨nd, rfl⟩⟩))
              go_ret
              exact ⟨by first | rfl | (simp; done) | (simp [*]; done), by repeat (first | exact Drawn0.refl _ | apply Drawn0.step)⟩
            · rw [if_neg c11] at H
              have c11b0 : (t212 == a0) = false := beq_eq_false_iff_ne.mpr c11
              have c11b1 : (t212 != a0) = true := bne_iff_ne.mpr c11
              obtain rfl := Option.some.inj H
              go_wp2_with (first | ((with_reducible refine gate_callee (f := 14) rfl ?_); refine goesL_ (some 54) rfl rfl Try.func14 (by kernel_rfl) rfl #[.int .i64 a0] rfl (by (try simp only [List.map_toArray, List.map_cons, List.map_nil]); first | done | rfl | (simp only [List.length_drop, List.length_take]; rfl)) ?_; (with_reducible refine (real_Half.calls a0 t211 _ A8.out).mono ?_); rintro e w' ⟨rfl, ⟨nd, rfl⟩⟩; refine ⟨_, rfl, ?_⟩) | (go_at_call 16; (with_reducible refine (real_Twice.calls a0 t212 _ A10.out).mono ?_); rintro e w' ⟨rfl, ⟨nd, rfl⟩⟩))
              go_ret
              exact ⟨by first | rfl | (simp; done) | (simp [*]; done), by repeat (first | exact Drawn0.refl _ | apply Drawn0.step)⟩
          · rw [if_neg c9] at H
            have c9b0 : (t211 == a0) = false := beq_eq_false_iff_ne.mpr c9
            have c9b1 : (t211 != a0) = true := bne_iff_ne.mpr c9
            obtain rfl := Option.some.inj H
            go_wp2_with (first | ((with_reducible refine gate_callee (f := 14) rfl ?_); refine goesL_ (some 54) rfl rfl Try.func14 (by kernel_rfl) rfl #[.int .i64 a0] rfl (by (try simp only [List.map_toArray, List.map_cons, List.map_nil]); first | done | rfl | (simp only [List.length_drop, List.length_take]; rfl)) ?_; (with_reducible refine (real_Half.calls a0 t211 _ A8.out).mono ?_); rintro e w' ⟨rfl, ⟨nd, rfl⟩⟩; refine ⟨_, rfl, ?_⟩))
            go_ret
            exact ⟨by first | rfl | (simp; done) | (simp [*]; done), by repeat (first | exact Drawn0.refl _ | apply Drawn0.step)⟩
        · rw [if_neg c7] at H
          have c7b0 : ((Int.tmod a0 4503599627370496) == 0) = false := beq_eq_false_iff_ne.mpr c7
          have c7b1 : ((Int.tmod a0 4503599627370496) != 0) = true := bne_iff_ne.mpr c7
          replace H := Option.bind_eq_some_iff.mp H
          obtain ⟨t205, A140, H⟩ := H
          replace H : (if t205 = 9221120237041090560 then ((real_Twice.f a0).bind fun t206 => (if t206 = 9221120237041090560 then ((real_Flip.f a0).bind fun t207 => (if t207 = 9221120237041090560 then ((real_Below.f a0 a1).bind fun t208 => (if t208 = true then (some false) else ((real_Below.f a1 a0).bind fun t209 => (if t209 = true then (some false) else ((real_Whole.f a0).bind fun t210 => (some (t210 == 0))))))) else (some false))) else (some false))) else (some false)) = some r := H
          have A14 := Aside0.mk A140
          clear A140
          by_cases c15 : t205 = 9221120237041090560
          · rw [if_pos c15] at H
            have c15b0 : (t205 == 9221120237041090560) = true := beq_iff_eq.mpr c15
            have c15b1 : (t205 != 9221120237041090560) = false := bne_eq_false_iff_eq.mpr c15
            clear c15
            replace H := Option.bind_eq_some_iff.mp H
            obtain ⟨t206, A160, H⟩ := H
            replace H : (if t206 = 9221120237041090560 then ((real_Flip.f a0).bind fun t207 => (if t207 = 9221120237041090560 then ((real_Below.f a0 a1).bind fun t208 => (if t208 = true then (some false) else ((real_Below.f a1 a0).bind fun t209 => (if t209 = true then (some false) else ((real_Whole.f a0).bind fun t210 => (some (t210 == 0))))))) else (some false))) else (some false)) = some r := H
            have A16 := Aside0.mk A160
            clear A160
            by_cases c17 : t206 = 9221120237041090560
            · rw [if_pos c17] at H
              have c17b0 : (t206 == 9221120237041090560) = true := beq_iff_eq.mpr c17
              have c17b1 : (t206 != 9221120237041090560) = false := bne_eq_false_iff_eq.mpr c17
              clear c17
              replace H := Option.bind_eq_some_iff.mp H
              obtain ⟨t207, A180, H⟩ := H
              replace H : (if t207 = 9221120237041090560 then ((real_Below.f a0 a1).bind fun t208 => (if t208 = true then (some false) else ((real_Below.f a1 a0).bind fun t209 => (if t209 = true then (some false) else ((real_Whole.f a0).bind fun t210 => (some (t210 == 0))))))) else (some false)) = some r := H
              have A18 := Aside0.mk A180
              clear A180
              by_cases c19 : t207 = 9221120237041090560
              · rw [if_pos c19] at H
                have c19b0 : (t207 == 9221120237041090560) = true := beq_iff_eq.mpr c19
                have c19b1 : (t207 != 9221120237041090560) = false := bne_eq_false_iff_eq.mpr c19
                clear c19
                replace H := Option.bind_eq_some_iff.mp H
                obtain ⟨t208, A200, H⟩ := H
                replace H : (if t208 = true then (some false) else ((real_Below.f a1 a0).bind fun t209 => (if t209 = true then (some false) else ((real_Whole.f a0).bind fun t210 => (some (t210 == 0)))))) = some r := H
                have A20 := Aside0.mk A200
                clear A200
                by_cases c21 : t208 = true
                · subst c21
                  have H1 : (some false) = some r := by rw [if_pos rfl] at H; exact H
                  clear H
                  have H := H1
                  clear H1
                  obtain rfl := Option.some.inj H
                  go_wp2_with (first | ((with_reducible refine gate_callee (f := 14) rfl ?_); refine goesL_ (some 21) rfl rfl Try.func14 (by kernel_rfl) rfl #[.int .i64 a0] rfl (by (try simp only [List.map_toArray, List.map_cons, List.map_nil]); first | done | rfl | (simp only [List.length_drop, List.length_take]; rfl)) ?_; (with_reducible refine (real_Half.calls a0 t205 _ A14.out).mono ?_); rintro e w' ⟨rfl, ⟨nd, rfl⟩⟩; refine ⟨_, rfl, ?_⟩) | (go_at_call 16; (with_reducible refine (real_Twice.calls a0 t206 _ A16.out).mono ?_); rintro e w' ⟨rfl, ⟨nd, rfl⟩⟩) | (go_at_call 18; (with_reducible refine (real_Flip.calls a0 t207 _ A18.out).mono ?_); rintro e w' ⟨rfl, ⟨nd, rfl⟩⟩) | (go_at_call 13; (with_reducible refine (real_Below.calls a0 a1 true _ A20.out).mono ?_); rintro e w' ⟨rfl, ⟨nd, rfl⟩⟩))
                  go_ret
                  exact ⟨by first | rfl | (simp; done) | (simp [*]; done), by repeat (first | exact Drawn0.refl _ | apply Drawn0.step)⟩
                · replace c21 := Bool.eq_false_iff.mpr c21
                  subst c21
                  have H1 : ((real_Below.f a1 a0).bind fun t209 => (if t209 = true then (some false) else ((real_Whole.f a0).bind fun t210 => (some (t210 == 0))))) = some r := by rw [if_neg (show ¬ (false = true) by decide)] at H; exact H
                  clear H
                  have H := H1
                  clear H1
                  replace H := Option.bind_eq_some_iff.mp H
                  obtain ⟨t209, A220, H⟩ := H
                  replace H : (if t209 = true then (some false) else ((real_Whole.f a0).bind fun t210 => (some (t210 == 0)))) = some r := H
                  have A22 := Aside0.mk A220
                  clear A220
                  by_cases c23 : t209 = true
                  · subst c23
                    have H1 : (some false) = some r := by rw [if_pos rfl] at H; exact H
                    clear H
                    have H := H1
                    clear H1
                    obtain rfl := Option.some.inj H
                    go_wp2_with (first | ((with_reducible refine gate_callee (f := 14) rfl ?_); refine goesL_ (some 21) rfl rfl Try.func14 (by kernel_rfl) rfl #[.int .i64 a0] rfl (by (try simp only [List.map_toArray, List.map_cons, List.map_nil]); first | done | rfl | (simp only [List.length_drop, List.length_take]; rfl)) ?_; (with_reducible refine (real_Half.calls a0 t205 _ A14.out).mono ?_); rintro e w' ⟨rfl, ⟨nd, rfl⟩⟩; refine ⟨_, rfl, ?_⟩) | (go_at_call 16; (with_reducible refine (real_Twice.calls a0 t206 _ A16.out).mono ?_); rintro e w' ⟨rfl, ⟨nd, rfl⟩⟩) | (go_at_call 18; (with_reducible refine (real_Flip.calls a0 t207 _ A18.out).mono ?_); rintro e w' ⟨rfl, ⟨nd, rfl⟩⟩) | (go_at_call 13; (with_reducible refine (real_Below.calls a0 a1 false _ A20.out).mono ?_); rintro e w' ⟨rfl, ⟨nd, rfl⟩⟩) | (go_at_call 13; (with_reducible refine (real_Below.calls a1 a0 true _ A22.out).mono ?_); rintro e w' ⟨rfl, ⟨nd, rfl⟩⟩))
                    go_ret
                    exact ⟨by first | rfl | (simp; done) | (simp [*]; done), by repeat (first | exact Drawn0.refl _ | apply Drawn0.step)⟩
                  · replace c23 := Bool.eq_false_iff.mpr c23
                    subst c23
                    have H1 : ((real_Whole.f a0).bind fun t210 => (some (t210 == 0))) = some r := by rw [if_neg (show ¬ (false = true) by decide)] at H; exact H
                    clear H
                    have H := H1
                    clear H1
                    replace H := Option.bind_eq_some_iff.mp H
                    obtain ⟨t210, A240, H⟩ := H
                    replace H : (some (t210 == 0)) = some r := H
                    have A24 := Aside0.mk A240
                    clear A240
                    obtain rfl := Option.some.inj H
                    go_wp2_with (first | ((with_reducible refine gate_callee (f := 14) rfl ?_); refine goesL_ (some 21) rfl rfl Try.func14 (by kernel_rfl) rfl #[.int .i64 a0] rfl (by (try simp only [List.map_toArray, List.map_cons, List.map_nil]); first | done | rfl | (simp only [List.length_drop, List.length_take]; rfl)) ?_; (with_reducible refine (real_Half.calls a0 t205 _ A14.out).mono ?_); rintro e w' ⟨rfl, ⟨nd, rfl⟩⟩; refine ⟨_, rfl, ?_⟩) | (go_at_call 16; (with_reducible refine (real_Twice.calls a0 t206 _ A16.out).mono ?_); rintro e w' ⟨rfl, ⟨nd, rfl⟩⟩) | (go_at_call 18; (with_reducible refine (real_Flip.calls a0 t207 _ A18.out).mono ?_); rintro e w' ⟨rfl, ⟨nd, rfl⟩⟩) | (go_at_call 13; (with_reducible refine (real_Below.calls a0 a1 false _ A20.out).mono ?_); rintro e w' ⟨rfl, ⟨nd, rfl⟩⟩) | (go_at_call 13; (with_reducible refine (real_Below.calls a1 a0 false _ A22.out).mono ?_); rintro e w' ⟨rfl, ⟨nd, rfl⟩⟩) | (go_at_call 22; (with_reducible refine (real_Whole.calls a0 t210 _ A24.out).mono ?_); rintro e w' ⟨rfl, ⟨nd, rfl⟩⟩))
                    go_ret
                    exact ⟨by first | rfl | (simp; done) | (simp [*]; done), by repeat (first | exact Drawn0.refl _ | apply Drawn0.step)⟩
              · rw [if_neg c19] at H
                have c19b0 : (t207 == 9221120237041090560) = false := beq_eq_false_iff_ne.mpr c19
                have c19b1 : (t207 != 9221120237041090560) = true := bne_iff_ne.mpr c19
                obtain rfl := Option.some.inj H
                go_wp2_with (first | ((with_reducible refine gate_callee (f := 14) rfl ?_); refine goesL_ (some 21) rfl rfl Try.func14 (by kernel_rfl) rfl #[.int .i64 a0] rfl (by (try simp only [List.map_toArray, List.map_cons, List.map_nil]); first | done | rfl | (simp only [List.length_drop, List.length_take]; rfl)) ?_; (with_reducible refine (real_Half.calls a0 t205 _ A14.out).mono ?_); rintro e w' ⟨rfl, ⟨nd, rfl⟩⟩; refine ⟨_, rfl, ?_⟩) | (go_at_call 16; (with_reducible refine (real_Twice.calls a0 t206 _ A16.out).mono ?_); rintro e w' ⟨rfl, ⟨nd, rfl⟩⟩) | (go_at_call 18; (with_reducible refine (real_Flip.calls a0 t207 _ A18.out).mono ?_); rintro e w' ⟨rfl, ⟨nd, rfl⟩⟩))
                go_ret
                exact ⟨by first | rfl | (simp; done) | (simp [*]; done), by repeat (first | exact Drawn0.refl _ | apply Drawn0.step)⟩
            · rw [if_neg c17] at H
              have c17b0 : (t206 == 9221120237041090560) = false := beq_eq_false_iff_ne.mpr c17
              have c17b1 : (t206 != 9221120237041090560) = true := bne_iff_ne.mpr c17
              obtain rfl := Option.some.inj H
              go_wp2_with (first | ((with_reducible refine gate_callee (f := 14) rfl ?_); refine goesL_ (some 21) rfl rfl Try.func14 (by kernel_rfl) rfl #[.int .i64 a0] rfl (by (try simp only [List.map_toArray, List.map_cons, List.map_nil]); first | done | rfl | (simp only [List.length_drop, List.length_take]; rfl)) ?_; (with_reducible refine (real_Half.calls a0 t205 _ A14.out).mono ?_); rintro e w' ⟨rfl, ⟨nd, rfl⟩⟩; refine ⟨_, rfl, ?_⟩) | (go_at_call 16; (with_reducible refine (real_Twice.calls a0 t206 _ A16.out).mono ?_); rintro e w' ⟨rfl, ⟨nd, rfl⟩⟩))
              go_ret
              exact ⟨by first | rfl | (simp; done) | (simp [*]; done), by repeat (first | exact Drawn0.refl _ | apply Drawn0.step)⟩
          · rw [if_neg c15] at H
            have c15b0 : (t205 == 9221120237041090560) = false := beq_eq_false_iff_ne.mpr c15
            have c15b1 : (t205 != 9221120237041090560) = true := bne_iff_ne.mpr c15
            obtain rfl := Option.some.inj H
            go_wp2_with (first | ((with_reducible refine gate_callee (f := 14) rfl ?_); refine goesL_ (some 21) rfl rfl Try.func14 (by kernel_rfl) rfl #[.int .i64 a0] rfl (by (try simp only [List.map_toArray, List.map_cons, List.map_nil]); first | done | rfl | (simp only [List.length_drop, List.length_take]; rfl)) ?_; (with_reducible refine (real_Half.calls a0 t205 _ A14.out).mono ?_); rintro e w' ⟨rfl, ⟨nd, rfl⟩⟩; refine ⟨_, rfl, ?_⟩))
            go_ret
            exact ⟨by first | rfl | (simp; done) | (simp [*]; done), by repeat (first | exact Drawn0.refl _ | apply Drawn0.step)⟩

/-- THE ONE PURE STATEMENT of quarterdecklaw02_RealNone: yours. -/
def quarterdecklaw02_RealNone.Pure : Prop := ∀ (a0 : Int) (a1 : Int), (Lit.int .i64 a0).wf = true → (Lit.int .i64 a1).wf = true → ∃ k, quarterdecklaw02_RealNone.f k a0 a1 = some true
theorem quarterdecklaw02_RealNone.walk (P : quarterdecklaw02_RealNone.Pure) (a0 : Int) (a1 : Int) (w : World) (w0 : (Lit.int .i64 a0).wf = true) (w1 : (Lit.int .i64 a1).wf = true) :
    Calls Try.prog 10 #[.int .i64 a0, .int .i64 a1] w fun e w' => e = .returned (.bool true) ∧ Below w.heap.size w w' := by
  obtain ⟨k, h⟩ := P a0 a1 w0 w1
  refine (quarterdecklaw02_RealNone.calls k a0 a1 true w h).mono ?_
  rintro e w' ⟨rfl, hd⟩
  exact ⟨rfl, hd.below⟩

end Go.Proofs.Ytiamipopddaeiaa.Pr

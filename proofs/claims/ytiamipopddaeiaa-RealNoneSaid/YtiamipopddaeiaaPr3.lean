/- Go functions of this seat as Lean functions, each with the proof that its call comes to just that, and the rows over them; written by a program of this session (wip/given_print.py); the conditions are the premises that each theorem names. -/
import Derived.Test.YtiamipopddaeiaaPr0
import Derived.Test.YtiamipopddaeiaaPr1
import Derived.Test.YtiamipopddaeiaaPr2
namespace Go.Proofs.Ytiamipopddaeiaa.Pr
open Go.RowKit Go.Proofs.YtiamipopddaeiaaW.PrintWords Go.Proofs.YtiamipopddaeiaaW.PrintLast Go.Proofs.YtiamipopddaeiaaW.PrintMore
attribute [local go_sem] max2_int min2_int max_two min_two max_three min_three max_four min_four   -- for this text's walks alone
set_option linter.unusedVariables false
set_option linter.unusedSimpArgs false

/-! ### quarterdeckref02_Whole: function 23 -/
mutual
def quarterdeckref02_Whole.j0 : Nat → Int → Int → Int → Int → Option (Int)
  | 0, _, _, _, _ => none
  | k + 1, x0, x4, x5, x6 => quarterdeckref02_Whole.l0 k x0 x4 x5 x6
def quarterdeckref02_Whole.j2 : Nat → Int → Int → Int → Option (Int)
  | 0, _, _, _ => none
  | k + 1, x0, x4, x6 => if (x4 / 4503599627370496) = 0 then ((quarterdeckref02_sign.f x0).bind fun t181 => (if t181 = true then (some (-0)) else (some 0))) else ((quarterdeckref02_sign.f x0).bind fun t182 => (if t182 = true then (some (wrap64 (-x6))) else (some x6)))
def quarterdeckref02_Whole.l0 : Nat → Int → Int → Int → Int → Option (Int)
  | 0, _, _, _, _ => none
  | k + 1, x0, x4, x5, x6 => if x5 < 0 then (if x6 > 0 then (quarterdeckref02_Whole.l0 k x0 x4 (wrap64 (x5 + 1)) (wrap64 (Int.tdiv x6 2))) else (quarterdeckref02_Whole.j2 k x0 x4 x6)) else (quarterdeckref02_Whole.j2 k x0 x4 x6)
end
def quarterdeckref02_Whole.f (k : Nat) (a0 : Int) : Option (Int) := (quarterdeckref02_nan.f a0).bind fun t179 => (if t179 = true then (some 0) else ((quarterdeckref02_rest.f a0).bind fun t180 => (if (wrap64 ((t180 / 4503599627370496) - 1075)) > 0 then (quarterdeckref02_Whole.j0 k a0 t180 (wrap64 ((t180 / 4503599627370496) - 1075)) 9007199254740992) else (quarterdeckref02_Whole.j0 k a0 t180 (wrap64 ((t180 / 4503599627370496) - 1075)) (wrap64 ((Int.tmod t180 4503599627370496) + 4503599627370496))))))
theorem quarterdeckref02_Whole.mono_l : ∀ k, (∀ y0 y1 y2 y3, LeO (quarterdeckref02_Whole.j0 k y0 y1 y2 y3) (quarterdeckref02_Whole.j0 (k + 1) y0 y1 y2 y3)) ∧ (∀ y0 y1 y2, LeO (quarterdeckref02_Whole.j2 k y0 y1 y2) (quarterdeckref02_Whole.j2 (k + 1) y0 y1 y2)) ∧ (∀ y0 y1 y2 y3, LeO (quarterdeckref02_Whole.l0 k y0 y1 y2 y3) (quarterdeckref02_Whole.l0 (k + 1) y0 y1 y2 y3))
  | 0 => ⟨fun _ _ _ _ r h => by simp [quarterdeckref02_Whole.j0] at h, fun _ _ _ r h => by simp [quarterdeckref02_Whole.j2] at h, fun _ _ _ _ r h => by simp [quarterdeckref02_Whole.l0] at h⟩
  | k + 1 => by
    obtain ⟨ih0, ih1, ih2⟩ := quarterdeckref02_Whole.mono_l k
    refine ⟨?_, ?_, ?_⟩
    · intro y0 y1 y2 y3
      unfold quarterdeckref02_Whole.j0
      repeat' first
      | (with_reducible exact ih0 _ _ _ _)
      | (with_reducible exact ih1 _ _ _)
      | (with_reducible exact ih2 _ _ _ _)
      | (with_reducible exact LeO.refl _)
      | (with_reducible exact LeO.none _)
      | (with_reducible refine LeO.ite ?_ ?_)
      | (with_reducible refine LeO.bind ?_ (fun _ => ?_))
      | exact ih0 _ _ _ _
      | exact ih1 _ _ _
      | exact ih2 _ _ _ _
      | exact LeO.none _
      | refine LeO.ite ?_ ?_
      | refine LeO.bind ?_ (fun _ => ?_)
    · intro y0 y1 y2
      unfold quarterdeckref02_Whole.j2
      repeat' first
      | (with_reducible exact ih0 _ _ _ _)
      | (with_reducible exact ih1 _ _ _)
      | (with_reducible exact ih2 _ _ _ _)
      | (with_reducible exact LeO.refl _)
      | (with_reducible exact LeO.none _)
      | (with_reducible refine LeO.ite ?_ ?_)
      | (with_reducible refine LeO.bind ?_ (fun _ => ?_))
      | exact ih0 _ _ _ _
      | exact ih1 _ _ _
      | exact ih2 _ _ _ _
      | exact LeO.none _
      | refine LeO.ite ?_ ?_
      | refine LeO.bind ?_ (fun _ => ?_)
    · intro y0 y1 y2 y3
      unfold quarterdeckref02_Whole.l0
      repeat' first
      | (with_reducible exact ih0 _ _ _ _)
      | (with_reducible exact ih1 _ _ _)
      | (with_reducible exact ih2 _ _ _ _)
      | (with_reducible exact LeO.refl _)
      | (with_reducible exact LeO.none _)
      | (with_reducible refine LeO.ite ?_ ?_)
      | (with_reducible refine LeO.bind ?_ (fun _ => ?_))
      | exact ih0 _ _ _ _
      | exact ih1 _ _ _
      | exact ih2 _ _ _ _
      | exact LeO.none _
      | refine LeO.ite ?_ ?_
      | refine LeO.bind ?_ (fun _ => ?_)
theorem quarterdeckref02_Whole.mono : ∀ a0 k, LeO (quarterdeckref02_Whole.f k a0) (quarterdeckref02_Whole.f (k + 1) a0) := by
  intro a0 k
  obtain ⟨ih0, ih1, ih2⟩ := quarterdeckref02_Whole.mono_l k
  unfold quarterdeckref02_Whole.f
  repeat' first
      | (with_reducible exact ih0 _ _ _ _)
      | (with_reducible exact ih1 _ _ _)
      | (with_reducible exact ih2 _ _ _ _)
      | (with_reducible exact LeO.refl _)
      | (with_reducible exact LeO.none _)
      | (with_reducible refine LeO.ite ?_ ?_)
      | (with_reducible refine LeO.bind ?_ (fun _ => ?_))
      | exact ih0 _ _ _ _
      | exact ih1 _ _ _
      | exact ih2 _ _ _ _
      | exact LeO.none _
      | refine LeO.ite ?_ ?_
      | refine LeO.bind ?_ (fun _ => ?_)
set_option maxHeartbeats 8000000 in
set_option maxRecDepth 100000 in
theorem quarterdeckref02_Whole.calls (k : Nat) (a0 : Int) (r : Int) (w : World) (h : quarterdeckref02_Whole.f k a0 = some r) :
    Calls Try.prog 23 #[.int .i64 a0] w fun e w' => e = .returned (.int .i64 r) ∧ Drawn0 w w' := by
  have H : ((quarterdeckref02_nan.f a0).bind fun t179 => (if t179 = true then (some 0) else ((quarterdeckref02_rest.f a0).bind fun t180 => (if (wrap64 ((t180 / 4503599627370496) - 1075)) > 0 then (quarterdeckref02_Whole.j0 k a0 t180 (wrap64 ((t180 / 4503599627370496) - 1075)) 9007199254740992) else (quarterdeckref02_Whole.j0 k a0 t180 (wrap64 ((t180 / 4503599627370496) - 1075)) (wrap64 ((Int.tmod t180 4503599627370496) + 4503599627370496))))))) = some r := h
  clear h
  replace H := Option.bind_eq_some_iff.mp H
  obtain ⟨t179, A20, H⟩ := H
  replace H : (if t179 = true then (some 0) else ((quarterdeckref02_rest.f a0).bind fun t180 => (if (wrap64 ((t180 / 4503599627370496) - 1075)) > 0 then (quarterdeckref02_Whole.j0 k a0 t180 (wrap64 ((t180 / 4503599627370496) - 1075)) 9007199254740992) else (quarterdeckref02_Whole.j0 k a0 t180 (wrap64 ((t180 / 4503599627370496) - 1075)) (wrap64 ((Int.tmod t180 4503599627370496) + 4503599627370496)))))) = some r := H
  have A2 := Aside0.mk A20
  clear A20
  by_cases c3 : t179 = true
  · subst c3
    have H1 : (some 0) = some r := by rw [if_pos rfl] at H; exact H
    clear H
    have H := H1
    clear H1
    obtain rfl := Option.some.inj H
    go_enter Try.func23, Try.ntmps23
    go_wp2_with (first | ((with_reducible refine gate_callee (f := 24) rfl ?_); refine goesL_ (some 9) rfl rfl Try.func24 (by kernel_rfl) rfl #[.int .i64 a0] rfl (by (try simp only [List.map_toArray, List.map_cons, List.map_nil]); first | done | rfl | (simp only [List.length_drop, List.length_take]; rfl)) ?_; (with_reducible refine (quarterdeckref02_nan.calls a0 true _ A2.out).mono ?_); rintro e w' ⟨rfl, ⟨nd, rfl⟩⟩; refine ⟨_, rfl, ?_⟩))
    go_ret
    exact ⟨by first | rfl | (simp; done) | (simp [*]; done), by repeat (first | exact Drawn0.refl _ | apply Drawn0.step)⟩
  · replace c3 := Bool.eq_false_iff.mpr c3
    subst c3
    have H1 : ((quarterdeckref02_rest.f a0).bind fun t180 => (if (wrap64 ((t180 / 4503599627370496) - 1075)) > 0 then (quarterdeckref02_Whole.j0 k a0 t180 (wrap64 ((t180 / 4503599627370496) - 1075)) 9007199254740992) else (quarterdeckref02_Whole.j0 k a0 t180 (wrap64 ((t180 / 4503599627370496) - 1075)) (wrap64 ((Int.tmod t180 4503599627370496) + 4503599627370496))))) = some r := by rw [if_neg (show ¬ (false = true) by decide)] at H; exact H
    clear H
    have H := H1
    clear H1
    replace H := Option.bind_eq_some_iff.mp H
    obtain ⟨t180, A40, H⟩ := H
    replace H : (if (wrap64 ((t180 / 4503599627370496) - 1075)) > 0 then (quarterdeckref02_Whole.j0 k a0 t180 (wrap64 ((t180 / 4503599627370496) - 1075)) 9007199254740992) else (quarterdeckref02_Whole.j0 k a0 t180 (wrap64 ((t180 / 4503599627370496) - 1075)) (wrap64 ((Int.tmod t180 4503599627370496) + 4503599627370496)))) = some r := H
    have A4 := Aside0.mk A40
    clear A40
    have HC5 := Aside0.mk H
    clear H
    go_enter Try.func23, Try.ntmps23
    go_upto_if 20 with (first | ((with_reducible refine gate_callee (f := 24) rfl ?_); refine goesL_ (some 9) rfl rfl Try.func24 (by kernel_rfl) rfl #[.int .i64 a0] rfl (by (try simp only [List.map_toArray, List.map_cons, List.map_nil]); first | done | rfl | (simp only [List.length_drop, List.length_take]; rfl)) ?_; (with_reducible refine (quarterdeckref02_nan.calls a0 false _ A2.out).mono ?_); rintro e w' ⟨rfl, ⟨nd, rfl⟩⟩; refine ⟨_, rfl, ?_⟩) | ((with_reducible refine gate_callee (f := 29) rfl ?_); refine goesL_ (some 12) rfl rfl Try.func29 (by kernel_rfl) rfl #[.int .i64 a0] rfl (by (try simp only [List.map_toArray, List.map_cons, List.map_nil]); first | done | rfl | (simp only [List.length_drop, List.length_take]; rfl)) ?_; (with_reducible refine (quarterdeckref02_rest.calls a0 t180 _ A4.out).mono ?_); rintro e w' ⟨rfl, ⟨nd, rfl⟩⟩; refine ⟨_, rfl, ?_⟩))
    (try simp only [Act.put, List.setIfInBounds_toArray, List.set_cons_zero, List.set_cons_succ])
    go_cut [6] (fun v6 wc => ∃ (kq : Nat) (x6_4 : Int), v6 = .int .i64 x6_4 ∧ Aside0 (quarterdeckref02_Whole.j0 kq a0 t180 (wrap64 ((t180 / 4503599627370496) - 1075)) x6_4 = some r) ∧ Aside0 (kq ≤ k) ∧ Drawn0 w wc)
    case first =>
      have H := HC5.out
      clear HC5
      by_cases c6 : (wrap64 ((t180 / 4503599627370496) - 1075)) > 0
      · rw [if_pos c6] at H
        have c6b0 : decide (0 < (wrap64 ((t180 / 4503599627370496) - 1075))) = true := decide_eq_true c6
        clear c6
        (first | rw [c6b0] | (simp only [i64_w, i32_w]; rw [c6b0]) | skip)
        have H' := Aside0.mk H
        clear H
        go_wp2
        go_meet
        case rel => exact ⟨_, (9007199254740992), (by first | rfl | (simp; done) | (simp [*]; done)), H', ⟨by first | omega | exact Nat.le_refl _⟩, by repeat (first | exact Drawn0.refl _ | apply Drawn0.step)⟩
      · rw [if_neg c6] at H
        have c6b0 : decide (0 < (wrap64 ((t180 / 4503599627370496) - 1075))) = false := decide_eq_false c6
        clear c6
        (first | rw [c6b0] | (simp only [i64_w, i32_w]; rw [c6b0]) | skip)
        have H' := Aside0.mk H
        clear H
        go_wp2
        go_meet
        case rel => exact ⟨_, (wrap64 ((Int.tmod t180 4503599627370496) + 4503599627370496)), (by first | rfl | (simp; done) | (simp [*]; done)), H', ⟨by first | omega | exact Nat.le_refl _⟩, by repeat (first | exact Drawn0.refl _ | apply Drawn0.step)⟩
    case rest =>
      clear HC5
      try clear c2
      try clear p2
      try clear c3
      try clear c6
      try clear c6b0
      try clear p6
      obtain ⟨kq, x6_4, rfl, HA, HJ4, ⟨mc4, rfl⟩⟩ := hcut
      cases kq with
      | zero => exact absurd HA.out (by simp [quarterdeckref02_Whole.j0])
      | succ kj4 =>
        have H := HA.out
        clear HA
        simp only [quarterdeckref02_Whole.j0] at H
        have HC7 := Aside0.mk H
        clear H
        go_upto_block 0 with (fail)
        go_cut [6] (fun v6 wc => ∃ (kq : Nat) (x6_6 : Int), v6 = .int .i64 x6_6 ∧ Aside0 (quarterdeckref02_Whole.j2 kq a0 t180 x6_6 = some r) ∧ Aside0 (kq ≤ kj4) ∧ Drawn0 w wc)
        case first =>
          have H := HC7.out
          clear HC7
          have H' := Aside0.mk H
          clear H
          go_wp2
          go_loopg [5, 6] kj4 (fun kq v5 v6 w' => ∃ (x5_2 : Int) (x6_2 : Int), v5 = .int .i64 x5_2 ∧ v6 = .int .i64 x6_2 ∧ Aside0 (quarterdeckref02_Whole.l0 kq a0 t180 x5_2 x6_2 = some r) ∧ Aside0 (kq ≤ kj4) ∧ Drawn0 w w')
          case atStart => exact ⟨((wrap64 ((t180 / 4503599627370496) - 1075))), (x6_4), (by first | rfl | (simp; done) | (simp [*]; done)), (by first | rfl | (simp; done) | (simp [*]; done)), H', ⟨Nat.le_refl _⟩, by repeat (first | exact Drawn0.refl _ | apply Drawn0.step)⟩
          case round =>
            clear H'
            try clear c2
            try clear p2
            try clear c3
            try clear c4
            try clear c6
            try clear c6b0
            try clear p6
            try clear p2
            try clear p6
            obtain ⟨x5_2, x6_2, rfl, rfl, HA, HK2, ⟨m2, rfl⟩⟩ := hrel
            cases gk with
            | zero => exact absurd HA.out (by simp [quarterdeckref02_Whole.l0])
            | succ k2 =>
              have H := HA.out
              clear HA
              simp only [quarterdeckref02_Whole.l0] at H
              by_cases c8 : x5_2 < 0
              · rw [if_pos c8] at H
                have c8b0 : decide (x5_2 < 0) = true := decide_eq_true c8
                clear c8
                (first | rw [c8b0] | (simp only [i64_w, i32_w]; rw [c8b0]) | skip)
                by_cases c9 : x6_2 > 0
                · rw [if_pos c9] at H
                  have c9b0 : decide (0 < x6_2) = true := decide_eq_true c9
                  clear c9
                  have H' := Aside0.mk H
                  clear H
                  go_wp2
                  go_roundg k2
                  case measure => have := HJ4.out; have := HK2.out; omega
                  case rel => exact ⟨(wrap64 (x5_2 + 1)), (wrap64 (Int.tdiv x6_2 2)), (by first | rfl | (simp; done) | (simp [*]; done)), (by first | rfl | (simp; done) | (simp [*]; done)), H', ⟨by have := HJ4.out; have := HK2.out; omega⟩, by repeat (first | exact Drawn0.refl _ | apply Drawn0.step)⟩
                · rw [if_neg c9] at H
                  have c9b0 : decide (0 < x6_2) = false := decide_eq_false c9
                  clear c9
                  have H' := Aside0.mk H
                  clear H
                  go_wp2
                  go_meet
                  case rel => exact ⟨_, (x6_2), (by first | rfl | (simp; done) | (simp [*]; done)), H', ⟨by have := HJ4.out; have := HK2.out; first | omega | exact Nat.le_refl _⟩, by repeat (first | exact Drawn0.refl _ | apply Drawn0.step)⟩
              · rw [if_neg c8] at H
                have c8b0 : decide (x5_2 < 0) = false := decide_eq_false c8
                clear c8
                (first | rw [c8b0] | (simp only [i64_w, i32_w]; rw [c8b0]) | skip)
                have H' := Aside0.mk H
                clear H
                go_wp2
                go_meet
                case rel => exact ⟨_, (x6_2), (by first | rfl | (simp; done) | (simp [*]; done)), H', ⟨by have := HJ4.out; have := HK2.out; first | omega | exact Nat.le_refl _⟩, by repeat (first | exact Drawn0.refl _ | apply Drawn0.step)⟩
        case rest =>
          clear HC7
          try clear c2
          try clear p2
          try clear c3
          try clear c4
          try clear c6
          try clear c6b0
          try clear p6
          try clear c8
          try clear c8b0
          try clear c9
          try clear c9b0
          try clear p2
          try clear p6
          obtain ⟨kq, x6_6, rfl, HA, HJ6, ⟨mc6, rfl⟩⟩ := hcut
          cases kq with
          | zero => exact absurd HA.out (by simp [quarterdeckref02_Whole.j2])
          | succ kj6 =>
            have H := HA.out
            clear HA
            simp only [quarterdeckref02_Whole.j2] at H
            by_cases c10 : (t180 / 4503599627370496) = 0
            · rw [if_pos c10] at H
              have c10b0 : ((t180 / 4503599627370496) == 0) = true := beq_iff_eq.mpr c10
              have c10b1 : ((t180 / 4503599627370496) != 0) = false := bne_eq_false_iff_eq.mpr c10
              clear c10
              replace H := Option.bind_eq_some_iff.mp H
              obtain ⟨t181, A110, H⟩ := H
              replace H : (if t181 = true then (some (-0)) else (some 0)) = some r := H
              have A11 := Aside0.mk A110
              clear A110
              by_cases c12 : t181 = true
              · subst c12
                have H1 : (some (-0)) = some r := by rw [if_pos rfl] at H; exact H
                clear H
                have H := H1
                clear H1
                obtain rfl := Option.some.inj H
                go_wp2_with (first | ((with_reducible refine gate_callee (f := 30) rfl ?_); refine goesL_ (some 35) rfl rfl Try.func30 (by kernel_rfl) rfl #[.int .i64 a0] rfl (by (try simp only [List.map_toArray, List.map_cons, List.map_nil]); first | done | rfl | (simp only [List.length_drop, List.length_take]; rfl)) ?_; (with_reducible refine (quarterdeckref02_sign.calls a0 true _ A11.out).mono ?_); rintro e w' ⟨rfl, ⟨nd, rfl⟩⟩; refine ⟨_, rfl, ?_⟩))
                go_ret
                exact ⟨by first | rfl | (simp; done) | (simp [*]; done), by repeat (first | exact Drawn0.refl _ | apply Drawn0.step)⟩
              · replace c12 := Bool.eq_false_iff.mpr c12
                subst c12
                have H1 : (some 0) = some r := by rw [if_neg (show ¬ (false = true) by decide)] at H; exact H
                clear H
                have H := H1
                clear H1
                obtain rfl := Option.some.inj H
                go_wp2_with (first | ((with_reducible refine gate_callee (f := 30) rfl ?_); refine goesL_ (some 35) rfl rfl Try.func30 (by kernel_rfl) rfl #[.int .i64 a0] rfl (by (try simp only [List.map_toArray, List.map_cons, List.map_nil]); first | done | rfl | (simp only [List.length_drop, List.length_take]; rfl)) ?_; (with_reducible refine (quarterdeckref02_sign.calls a0 false _ A11.out).mono ?_); rintro e w' ⟨rfl, ⟨nd, rfl⟩⟩; refine ⟨_, rfl, ?_⟩))
                go_ret
                exact ⟨by first | rfl | (simp; done) | (simp [*]; done), by repeat (first | exact Drawn0.refl _ | apply Drawn0.step)⟩
            · rw [if_neg c10] at H
              have c10b0 : ((t180 / 4503599627370496) == 0) = false := beq_eq_false_iff_ne.mpr c10
              have c10b1 : ((t180 / 4503599627370496) != 0) = true := bne_iff_ne.mpr c10
              replace H := Option.bind_eq_some_iff.mp H
              obtain ⟨t182, A130, H⟩ := H
              replace H : (if t182 = true then (some (wrap64 (-x6_6))) else (some x6_6)) = some r := H
              have A13 := Aside0.mk A130
              clear A130
              by_cases c14 : t182 = true
              · subst c14
                have H1 : (some (wrap64 (-x6_6))) = some r := by rw [if_pos rfl] at H; exact H
                clear H
                have H := H1
                clear H1
                obtain rfl := Option.some.inj H
                go_wp2_with (first | ((with_reducible refine gate_callee (f := 30) rfl ?_); refine goesL_ (some 35) rfl rfl Try.func30 (by kernel_rfl) rfl #[.int .i64 a0] rfl (by (try simp only [List.map_toArray, List.map_cons, List.map_nil]); first | done | rfl | (simp only [List.length_drop, List.length_take]; rfl)) ?_; (with_reducible refine (quarterdeckref02_sign.calls a0 true _ A13.out).mono ?_); rintro e w' ⟨rfl, ⟨nd, rfl⟩⟩; refine ⟨_, rfl, ?_⟩))
                go_ret
                exact ⟨by first | rfl | (simp; done) | (simp [*]; done), by repeat (first | exact Drawn0.refl _ | apply Drawn0.step)⟩
              · replace c14 := Bool.eq_false_iff.mpr c14
                subst c14
                have H1 : (some x6_6) = some r := by rw [if_neg (show ¬ (false = true) by decide)] at H; exact H
                clear H
                have H := H1
                clear H1
                obtain rfl := Option.some.inj H
                go_wp2_with (first | ((with_reducible refine gate_callee (f := 30) rfl ?_); refine goesL_ (some 35) rfl rfl Try.func30 (by kernel_rfl) rfl #[.int .i64 a0] rfl (by (try simp only [List.map_toArray, List.map_cons, List.map_nil]); first | done | rfl | (simp only [List.length_drop, List.length_take]; rfl)) ?_; (with_reducible refine (quarterdeckref02_sign.calls a0 false _ A13.out).mono ?_); rintro e w' ⟨rfl, ⟨nd, rfl⟩⟩; refine ⟨_, rfl, ?_⟩))
                go_ret
                exact ⟨by first | rfl | (simp; done) | (simp [*]; done), by repeat (first | exact Drawn0.refl _ | apply Drawn0.step)⟩

/-! ### quarterdecklaw02_RealWhole: function 7 -/
def quarterdecklaw02_RealWhole.f (k : Nat) (a0 : Int) (a1 : Int) : Option (Bool) := (quarterdecklaw02_awake.f).bind fun t183 => (if t183 = true then ((real_Of.f a0).bind fun t184 => ((quarterdeckref02_Of.f a0).bind fun t185 => (if t184 = t185 then ((real_Whole.f a1).bind fun t186 => ((quarterdeckref02_Whole.f k a1).bind fun t187 => (some (t186 == t187)))) else (some false)))) else (some false))
theorem quarterdecklaw02_RealWhole.mono : ∀ a0 a1 k, LeO (quarterdecklaw02_RealWhole.f k a0 a1) (quarterdecklaw02_RealWhole.f (k + 1) a0 a1) := by
  intro a0 a1 k
  unfold quarterdecklaw02_RealWhole.f
  repeat' first
      | (with_reducible exact quarterdeckref02_Whole.mono _ _)
      | (with_reducible exact LeO.refl _)
      | (with_reducible exact LeO.none _)
      | (with_reducible refine LeO.ite ?_ ?_)
      | (with_reducible refine LeO.bind ?_ (fun _ => ?_))
      | exact quarterdeckref02_Whole.mono _ _
      | exact LeO.none _
      | refine LeO.ite ?_ ?_
      | refine LeO.bind ?_ (fun _ => ?_)
set_option maxHeartbeats 8000000 in
set_option maxRecDepth 100000 in
theorem quarterdecklaw02_RealWhole.calls (k : Nat) (a0 : Int) (a1 : Int) (r : Bool) (w : World) (h : quarterdecklaw02_RealWhole.f k a0 a1 = some r) :
    Calls Try.prog 7 #[.int .i64 a0, .int .i64 a1] w fun e w' => e = .returned (.bool r) ∧ Drawn0 w w' := by
  have H : ((quarterdecklaw02_awake.f).bind fun t183 => (if t183 = true then ((real_Of.f a0).bind fun t184 => ((quarterdeckref02_Of.f a0).bind fun t185 => (if t184 = t185 then ((real_Whole.f a1).bind fun t186 => ((quarterdeckref02_Whole.f k a1).bind fun t187 => (some (t186 == t187)))) else (some false)))) else (some false))) = some r := h
  clear h
  replace H := Option.bind_eq_some_iff.mp H
  obtain ⟨t183, A30, H⟩ := H
  replace H : (if t183 = true then ((real_Of.f a0).bind fun t184 => ((quarterdeckref02_Of.f a0).bind fun t185 => (if t184 = t185 then ((real_Whole.f a1).bind fun t186 => ((quarterdeckref02_Whole.f k a1).bind fun t187 => (some (t186 == t187)))) else (some false)))) else (some false)) = some r := H
  have A3 := Aside0.mk A30
  clear A30
  by_cases c4 : t183 = true
  · subst c4
    have H1 : ((real_Of.f a0).bind fun t184 => ((quarterdeckref02_Of.f a0).bind fun t185 => (if t184 = t185 then ((real_Whole.f a1).bind fun t186 => ((quarterdeckref02_Whole.f k a1).bind fun t187 => (some (t186 == t187)))) else (some false)))) = some r := by rw [if_pos rfl] at H; exact H
    clear H
    have H := H1
    clear H1
    replace H := Option.bind_eq_some_iff.mp H
    obtain ⟨t184, A50, H⟩ := H
    replace H : ((quarterdeckref02_Of.f a0).bind fun t185 => (if t184 = t185 then ((real_Whole.f a1).bind fun t186 => ((quarterdeckref02_Whole.f k a1).bind fun t187 => (some (t186 == t187)))) else (some false))) = some r := H
    have A5 := Aside0.mk A50
    clear A50
    replace H := Option.bind_eq_some_iff.mp H
    obtain ⟨t185, A60, H⟩ := H
    replace H : (if t184 = t185 then ((real_Whole.f a1).bind fun t186 => ((quarterdeckref02_Whole.f k a1).bind fun t187 => (some (t186 == t187)))) else (some false)) = some r := H
    have A6 := Aside0.mk A60
    clear A60
    by_cases c7 : t184 = t185
    · rw [if_pos c7] at H
      have c7b0 : (t184 == t185) = true := beq_iff_eq.mpr c7
      have c7b1 : (t184 != t185) = false := bne_eq_false_iff_eq.mpr c7
      clear c7
      replace H := Option.bind_eq_some_iff.mp H
      obtain ⟨t186, A80, H⟩ := H
      replace H : ((quarterdeckref02_Whole.f k a1).bind fun t187 => (some (t186 == t187))) = some r := H
      have A8 := Aside0.mk A80
      clear A80
      replace H := Option.bind_eq_some_iff.mp H
      obtain ⟨t187, A90, H⟩ := H
      replace H : (some (t186 == t187)) = some r := H
      have A9 := Aside0.mk A90
      clear A90
      obtain rfl := Option.some.inj H
      go_enter Try.func7, Try.ntmps7
      go_wp2_with (first | ((with_reducible refine gate_callee (f := 11) rfl ?_); refine goesL_ (some 6) rfl rfl Try.func11 (by kernel_rfl) rfl #[] rfl (by (try simp only [List.map_toArray, List.map_cons, List.map_nil]); first | done | rfl | (simp only [List.length_drop, List.length_take]; rfl)) ?_; (with_reducible refine (quarterdecklaw02_awake.calls  true _ A3.out).mono ?_); rintro e w' ⟨rfl, ⟨nd, rfl⟩⟩; refine ⟨_, rfl, ?_⟩) | (go_at_call 20; (with_reducible refine (real_Of.calls a0 t184 _ A5.out).mono ?_); rintro e w' ⟨rfl, ⟨nd, rfl⟩⟩) | (go_at_call 21; (with_reducible refine (quarterdeckref02_Of.calls a0 t185 _ A6.out).mono ?_); rintro e w' ⟨rfl, ⟨nd, rfl⟩⟩) | (go_at_call 22; (with_reducible refine (real_Whole.calls a1 t186 _ A8.out).mono ?_); rintro e w' ⟨rfl, ⟨nd, rfl⟩⟩) | (go_at_call 23; (with_reducible refine (quarterdeckref02_Whole.calls k a1 t187 _ A9.out).mono ?_); rintro e w' ⟨rfl, ⟨nd, rfl⟩⟩))
      go_ret
      exact ⟨by first | rfl | (simp; done) | (simp [*]; done), by repeat (first | exact Drawn0.refl _ | apply Drawn0.step)⟩
    · rw [if_neg c7] at H
      have c7b0 : (t184 == t185) = false := beq_eq_false_iff_ne.mpr c7
      have c7b1 : (t184 != t185) = true := bne_iff_ne.mpr c7
      obtain rfl := Option.some.inj H
      go_enter Try.func7, Try.ntmps7
      go_wp2_with (first | ((with_reducible refine gate_callee (f := 11) rfl ?_); refine goesL_ (some 6) rfl rfl Try.func11 (by kernel_rfl) rfl #[] rfl (by (try simp only [List.map_toArray, List.map_cons, List.map_nil]); first | done | rfl | (simp only [List.length_drop, List.length_take]; rfl)) ?_; (with_reducible refine (quarterdecklaw02_awake.calls  true _ A3.out).mono ?_); rintro e w' ⟨rfl, ⟨nd, rfl⟩⟩; refine ⟨_, rfl, ?_⟩) | (go_at_call 20; (with_reducible refine (real_Of.calls a0 t184 _ A5.out).mono ?_); rintro e w' ⟨rfl, ⟨nd, rfl⟩⟩) | (go_at_call 21; (with_reducible refine (quarterdeckref02_Of.calls a0 t185 _ A6.out).mono ?_); rintro e w' ⟨rfl, ⟨nd, rfl⟩⟩))
      go_ret
      exact ⟨by first | rfl | (simp; done) | (simp [*]; done), by repeat (first | exact Drawn0.refl _ | apply Drawn0.step)⟩
  · replace c4 := Bool.eq_false_iff.mpr c4
    subst c4
    have H1 : (some false) = some r := by rw [if_neg (show ¬ (false = true) by decide)] at H; exact H
    clear H
    have H := H1
    clear H1
    obtain rfl := Option.some.inj H
    go_enter Try.func7, Try.ntmps7
    go_wp2_with (first | ((with_reducible refine gate_callee (f := 11) rfl ?_); refine goesL_ (some 6) rfl rfl Try.func11 (by kernel_rfl) rfl #[] rfl (by (try simp only [List.map_toArray, List.map_cons, List.map_nil]); first | done | rfl | (simp only [List.length_drop, List.length_take]; rfl)) ?_; (with_reducible refine (quarterdecklaw02_awake.calls  false _ A3.out).mono ?_); rintro e w' ⟨rfl, ⟨nd, rfl⟩⟩; refine ⟨_, rfl, ?_⟩))
    go_ret
    exact ⟨by first | rfl | (simp; done) | (simp [*]; done), by repeat (first | exact Drawn0.refl _ | apply Drawn0.step)⟩

/-- THE ONE PURE STATEMENT of quarterdecklaw02_RealWhole: yours. -/
def quarterdecklaw02_RealWhole.Pure : Prop := ∀ (a0 : Int) (a1 : Int), (Lit.int .i64 a0).wf = true → (Lit.int .i64 a1).wf = true → ∃ k, quarterdecklaw02_RealWhole.f k a0 a1 = some true
theorem quarterdecklaw02_RealWhole.walk (P : quarterdecklaw02_RealWhole.Pure) (a0 : Int) (a1 : Int) (w : World) (w0 : (Lit.int .i64 a0).wf = true) (w1 : (Lit.int .i64 a1).wf = true) :
    Calls Try.prog 7 #[.int .i64 a0, .int .i64 a1] w fun e w' => e = .returned (.bool true) ∧ Below w.heap.size w w' := by
  obtain ⟨k, h⟩ := P a0 a1 w0 w1
  refine (quarterdecklaw02_RealWhole.calls k a0 a1 true w h).mono ?_
  rintro e w' ⟨rfl, hd⟩
  exact ⟨rfl, hd.below⟩

/-! ### quarterdecklaw02_RealSteps: function 8 -/
def quarterdecklaw02_RealSteps.j0 : Nat → Int → Bool → Bool → Option (Bool)
  | 0, _, _, _ => none
  | k + 1, x0, x3, x14 => if x14 = true then (some x3) else ((real_Below.f x0 (wrap64 (x0 + 1))).bind fun t189 => (if t189 = true then ((real_Whole.f x0).bind fun t190 => ((real_Whole.f (wrap64 (x0 + 1))).bind fun t191 => (if t190 ≤ t191 then ((real_Whole.f x0).bind fun t192 => (some (decide (t192 ≥ 0)))) else (some false)))) else (some false)))
def quarterdecklaw02_RealSteps.f (k : Nat) (a0 : Int) : Option (Bool) := (quarterdecklaw02_awake.f).bind fun t188 => (if t188 = true then (if a0 < 0 then (quarterdecklaw02_RealSteps.j0 k a0 t188 true) else (quarterdecklaw02_RealSteps.j0 k a0 t188 (decide (a0 ≥ 9218868437227405312)))) else (quarterdecklaw02_RealSteps.j0 k a0 t188 true))
theorem quarterdecklaw02_RealSteps.mono_l : ∀ k, (∀ y0 y1 y2, LeO (quarterdecklaw02_RealSteps.j0 k y0 y1 y2) (quarterdecklaw02_RealSteps.j0 (k + 1) y0 y1 y2))
  | 0 => fun _ _ _ r h => by simp [quarterdecklaw02_RealSteps.j0] at h
  | k + 1 => by
    have ih0 := quarterdecklaw02_RealSteps.mono_l k
    · intro y0 y1 y2
      unfold quarterdecklaw02_RealSteps.j0
      repeat' first
      | (with_reducible exact ih0 _ _ _)
      | (with_reducible exact LeO.refl _)
      | (with_reducible exact LeO.none _)
      | (with_reducible refine LeO.ite ?_ ?_)
      | (with_reducible refine LeO.bind ?_ (fun _ => ?_))
      | exact ih0 _ _ _
      | exact LeO.none _
      | refine LeO.ite ?_ ?_
      | refine LeO.bind ?_ (fun _ => ?_)
theorem quarterdecklaw02_RealSteps.mono : ∀ a0 k, LeO (quarterdecklaw02_RealSteps.f k a0) (quarterdecklaw02_RealSteps.f (k + 1) a0) := by
  intro a0 k
  have ih0 := quarterdecklaw02_RealSteps.mono_l k
  unfold quarterdecklaw02_RealSteps.f
  repeat' first
      | (with_reducible exact ih0 _ _ _)
      | (with_reducible exact LeO.refl _)
      | (with_reducible exact LeO.none _)
      | (with_reducible refine LeO.ite ?_ ?_)
      | (with_reducible refine LeO.bind ?_ (fun _ => ?_))
      | exact ih0 _ _ _
      | exact LeO.none _
      | refine LeO.ite ?_ ?_
      | refine LeO.bind ?_ (fun _ => ?_)
set_option maxHeartbeats 8000000 in
set_option maxRecDepth 100000 in
theorem quarterdecklaw02_RealSteps.calls (k : Nat) (a0 : Int) (r : Bool) (w : World) (h : quarterdecklaw02_RealSteps.f k a0 = some r) :
    Calls Try.prog 8 #[.int .i64 a0] w fun e w' => e = .returned (.bool r) ∧ Drawn0 w w' := by
  have H : ((quarterdecklaw02_awake.f).bind fun t188 => (if t188 = true then (if a0 < 0 then (quarterdecklaw02_RealSteps.j0 k a0 t188 true) else (quarterdecklaw02_RealSteps.j0 k a0 t188 (decide (a0 ≥ 9218868437227405312)))) else (quarterdecklaw02_RealSteps.j0 k a0 t188 true))) = some r := h
  clear h
  replace H := Option.bind_eq_some_iff.mp H
  obtain ⟨t188, A20, H⟩ := H
  replace H : (if t188 = true then (if a0 < 0 then (quarterdecklaw02_RealSteps.j0 k a0 t188 true) else (quarterdecklaw02_RealSteps.j0 k a0 t188 (decide (a0 ≥ 9218868437227405312)))) else (quarterdecklaw02_RealSteps.j0 k a0 t188 true)) = some r := H
  have A2 := Aside0.mk A20
  clear A20
  have HC3 := Aside0.mk H
  clear H
  go_enter Try.func8, Try.ntmps8
  go_upto_region 2 with (first | ((with_reducible refine gate_callee (f := 11) rfl ?_); refine goesL_ (some 4) rfl rfl Try.func11 (by kernel_rfl) rfl #[] rfl (by (try simp only [List.map_toArray, List.map_cons, List.map_nil]); first | done | rfl | (simp only [List.length_drop, List.length_take]; rfl)) ?_; (with_reducible refine (quarterdecklaw02_awake.calls  t188 _ A2.out).mono ?_); rintro e w' ⟨rfl, ⟨nd, rfl⟩⟩; refine ⟨_, rfl, ?_⟩))
  (try simp only [Act.put, List.setIfInBounds_toArray, List.set_cons_zero, List.set_cons_succ])
  go_cut [14] (fun v14 wc => ∃ (kq : Nat) (x14_2 : Bool), v14 = .bool x14_2 ∧ Aside0 (quarterdecklaw02_RealSteps.j0 kq a0 t188 x14_2 = some r) ∧ Aside0 (kq ≤ k) ∧ Drawn0 w wc)
  case first =>
    have H := HC3.out
    clear HC3
    by_cases c4 : t188 = true
    · subst c4
      have H1 : (if a0 < 0 then (quarterdecklaw02_RealSteps.j0 k a0 true true) else (quarterdecklaw02_RealSteps.j0 k a0 true (decide (a0 ≥ 9218868437227405312)))) = some r := by rw [if_pos rfl] at H; exact H
      clear H
      have H := H1
      clear H1
      by_cases c5 : a0 < 0
      · rw [if_pos c5] at H
        have c5b0 : decide (a0 < 0) = true := decide_eq_true c5
        clear c5
        (first | rw [c5b0] | (simp only [i64_w, i32_w]; rw [c5b0]) | skip)
        have H' := Aside0.mk H
        clear H
        go_wp2
        go_meet
        case rel => exact ⟨_, (true), (by first | rfl | (simp; done) | (simp [*]; done)), H', ⟨by first | omega | exact Nat.le_refl _⟩, by repeat (first | exact Drawn0.refl _ | apply Drawn0.step)⟩
      · rw [if_neg c5] at H
        have c5b0 : decide (a0 < 0) = false := decide_eq_false c5
        clear c5
        (first | rw [c5b0] | (simp only [i64_w, i32_w]; rw [c5b0]) | skip)
        have H' := Aside0.mk H
        clear H
        go_wp2
        go_meet
        case rel => exact ⟨_, (decide (a0 ≥ 9218868437227405312)), (by first | rfl | (simp; done) | (simp [*]; done)), H', ⟨by first | omega | exact Nat.le_refl _⟩, by repeat (first | exact Drawn0.refl _ | apply Drawn0.step)⟩
    · replace c4 := Bool.eq_false_iff.mpr c4
      subst c4
      have H1 : (quarterdecklaw02_RealSteps.j0 k a0 false true) = some r := by rw [if_neg (show ¬ (false = true) by decide)] at H; exact H
      clear H
      have H := H1
      clear H1
      have H' := Aside0.mk H
      clear H
      go_wp2
      go_meet
      case rel => exact ⟨_, (true), (by first | rfl | (simp; done) | (simp [*]; done)), H', ⟨by first | omega | exact Nat.le_refl _⟩, by repeat (first | exact Drawn0.refl _ | apply Drawn0.step)⟩
  case rest =>
    clear HC3
    try clear c1
    try clear p2
    try clear c4
    try clear c5
    try clear c5b0
    obtain ⟨kq, x14_2, rfl, HA, HJ2, ⟨mc2, rfl⟩⟩ := hcut
    cases kq with
    | zero => exact absurd HA.out (by simp [quarterdecklaw02_RealSteps.j0])
    | succ kj2 =>
      have H := HA.out
      clear HA
      simp only [quarterdecklaw02_RealSteps.j0] at H
      by_cases c6 : x14_2 = true
      · subst c6
        have H1 : (some t188) = some r := by rw [if_pos rfl] at H; exact H
        clear H
        have H := H1
        clear H1
        obtain rfl := Option.some.inj H
        go_wp2
        go_ret
        exact ⟨by first | rfl | (simp; done) | (simp [*]; done), by repeat (first | exact Drawn0.refl _ | apply Drawn0.step)⟩
      · replace c6 := Bool.eq_false_iff.mpr c6
        subst c6
        have H1 : ((real_Below.f a0 (wrap64 (a0 + 1))).bind fun t189 => (if t189 = true then ((real_Whole.f a0).bind fun t190 => ((real_Whole.f (wrap64 (a0 + 1))).bind fun t191 => (if t190 ≤ t191 then ((real_Whole.f a0).bind fun t192 => (some (decide (t192 ≥ 0)))) else (some false)))) else (some false))) = some r := by rw [if_neg (show ¬ (false = true) by decide)] at H; exact H
        clear H
        have H := H1
        clear H1
        replace H := Option.bind_eq_some_iff.mp H
        obtain ⟨t189, A70, H⟩ := H
        replace H : (if t189 = true then ((real_Whole.f a0).bind fun t190 => ((real_Whole.f (wrap64 (a0 + 1))).bind fun t191 => (if t190 ≤ t191 then ((real_Whole.f a0).bind fun t192 => (some (decide (t192 ≥ 0)))) else (some false)))) else (some false)) = some r := H
        have A7 := Aside0.mk A70
        clear A70
        by_cases c8 : t189 = true
        · subst c8
          have H1 : ((real_Whole.f a0).bind fun t190 => ((real_Whole.f (wrap64 (a0 + 1))).bind fun t191 => (if t190 ≤ t191 then ((real_Whole.f a0).bind fun t192 => (some (decide (t192 ≥ 0)))) else (some false)))) = some r := by rw [if_pos rfl] at H; exact H
          clear H
          have H := H1
          clear H1
          replace H := Option.bind_eq_some_iff.mp H
          obtain ⟨t190, A90, H⟩ := H
          replace H : ((real_Whole.f (wrap64 (a0 + 1))).bind fun t191 => (if t190 ≤ t191 then ((real_Whole.f a0).bind fun t192 => (some (decide (t192 ≥ 0)))) else (some false))) = some r := H
          have A9 := Aside0.mk A90
          clear A90
          replace H := Option.bind_eq_some_iff.mp H
          obtain ⟨t191, A100, H⟩ := H
          replace H : (if t190 ≤ t191 then ((real_Whole.f a0).bind fun t192 => (some (decide (t192 ≥ 0)))) else (some false)) = some r := H
          have A10 := Aside0.mk A100
          clear A100
          by_cases c11 : t190 ≤ t191
          · rw [if_pos c11] at H
            have c11b0 : decide (t190 ≤ t191) = true := decide_eq_true c11
            clear c11
            replace H := Option.bind_eq_some_iff.mp H
            obtain ⟨t192, A120, H⟩ := H
            replace H : (some (decide (t192 ≥ 0))) = some r := H
            have A12 := Aside0.mk A120
            clear A120
            have e_ : t190 = t192 := Option.some.inj (A9.out.symm.trans A12.out)
            subst e_
            obtain rfl := Option.some.inj H
            go_wp2_with (first | ((with_reducible refine gate_callee (f := 13) rfl ?_); refine goesL_ (some 19) rfl rfl Try.func13 (by kernel_rfl) rfl #[.int .i64 a0, .int .i64 (wrap64 (a0 + 1))] rfl (by (try simp only [List.map_toArray, List.map_cons, List.map_nil]); first | done | rfl | (simp only [List.length_drop, List.length_take]; rfl)) ?_; (with_reducible refine (real_Below.calls a0 (wrap64 (a0 + 1)) true _ A7.out).mono ?_); rintro e w' ⟨rfl, ⟨nd, rfl⟩⟩; refine ⟨_, rfl, ?_⟩) | (go_at_call 22; (with_reducible refine (real_Whole.calls a0 t190 _ A9.out).mono ?_); rintro e w' ⟨rfl, ⟨nd, rfl⟩⟩) | (go_at_call 22; (with_reducible refine (real_Whole.calls (wrap64 (a0 + 1)) t191 _ A10.out).mono ?_); rintro e w' ⟨rfl, ⟨nd, rfl⟩⟩) | (go_at_call 22; (with_reducible refine (real_Whole.calls a0 t192 _ A12.out).mono ?_); rintro e w' ⟨rfl, ⟨nd, rfl⟩⟩))
            go_ret
            exact ⟨by first | rfl | (simp; done) | (simp [*]; done), by repeat (first | exact Drawn0.refl _ | apply Drawn0.step)⟩
          · rw [if_neg c11] at H
            have c11b0 : decide (t190 ≤ t191) = false := decide_eq_false c11
            clear c11
            obtain rfl := Option.some.inj H
            go_wp2_with (first | ((with_reducible refine gate_callee (f := 13) rfl ?_); refine goesL_ (some 19) rfl rfl Try.func13 (by kernel_rfl) rfl #[.int .i64 a0, .int .i64 (wrap64 (a0 + 1))] rfl (by (try simp only [List.map_toArray, List.map_cons, List.map_nil]); first | done | rfl | (simp only [List.length_drop, List.length_take]; rfl)) ?_; (with_reducible refine (real_Below.calls a0 (wrap64 (a0 + 1)) true _ A7.out).mono ?_); rintro e w' ⟨rfl, ⟨nd, rfl⟩⟩; refine ⟨_, rfl, ?_⟩) | (go_at_call 22; (with_reducible refine (real_Whole.calls a0 t190 _ A9.out).mono ?_); rintro e w' ⟨rfl, ⟨nd, rfl⟩⟩) | (go_at_call 22; (with_reducible refine (real_Whole.calls (wrap64 (a0 + 1)) t191 _ A10.out).mono ?_); rintro e w' ⟨rfl, ⟨nd, rfl⟩⟩))
            go_ret
            exact ⟨by first | rfl | (simp; done) | (simp [*]; done), by repeat (first | exact Drawn0.refl _ | apply Drawn0.step)⟩
        · replace c8 := Bool.eq_false_iff.mpr c8
          subst c8
          have H1 : (some false) = some r := by rw [if_neg (show ¬ (false = true) by decide)] at H; exact H
          clear H
          have H := H1
          clear H1
          obtain rfl := Option.some.inj H
          go_wp2_with (first | ((with_reducible refine gate_callee (f := 13) rfl ?_); refine goesL_ (some 19) rfl rfl Try.func13 (by kernel_rfl) rfl #[.int .i64 a0, .int .i64 (wrap64 (a0 + 1))] rfl (by (try simp only [List.map_toArray, List.map_cons, List.map_nil]); first | done | rfl | (simp only [List.length_drop, List.length_take]; rfl)) ?_; (with_reducible refine (real_Below.calls a0 (wrap64 (a0 + 1)) false _ A7.out).mono ?_); rintro e w' ⟨rfl, ⟨nd, rfl⟩⟩; refine ⟨_, rfl, ?_⟩))
          go_ret
          exact ⟨by first | rfl | (simp; done) | (simp [*]; done), by repeat (first | exact Drawn0.refl _ | apply Drawn0.step)⟩

/-- THE ONE PURE STATEMENT of quarterdecklaw02_RealSteps: yours. -/
def quarterdecklaw02_RealSteps.Pure : Prop := ∀ (a0 : Int), (Lit.int .i64 a0).wf = true → ∃ k, quarterdecklaw02_RealSteps.f k a0 = some true
theorem quarterdecklaw02_RealSteps.walk (P : quarterdecklaw02_RealSteps.Pure) (a0 : Int) (w : World) (w0 : (Lit.int .i64 a0).wf = true) :
    Calls Try.prog 8 #[.int .i64 a0] w fun e w' => e = .returned (.bool true) ∧ Below w.heap.size w w' := by
  obtain ⟨k, h⟩ := P a0 w0
  refine (quarterdecklaw02_RealSteps.calls k a0 true w h).mono ?_
  rintro e w' ⟨rfl, hd⟩
  exact ⟨rfl, hd.below⟩

/-! ### quarterdecklaw02_RealBack: function 9 -/
def quarterdecklaw02_RealBack.j0 : Nat → Int → Bool → Option (Bool)
  | 0, _, _ => none
  | k + 1, x1, x26 => if x26 = true then (some false) else (if (Go.bits .and .i64 (x1 / 4503599627370496) 2047) = 2047 then (some true) else ((real_Flip.f x1).bind fun t196 => ((real_Flip.f t196).bind fun t197 => (if t197 = x1 then (if (Go.bits .and .i64 (x1 / 4503599627370496) 2047) ≥ 2046 then (if (Go.bits .and .i64 (x1 / 4503599627370496) 2047) < 2 then (some true) else ((real_Half.f x1).bind fun t198 => ((real_Twice.f t198).bind fun t199 => (some (t199 == x1))))) else ((real_Twice.f x1).bind fun t200 => ((real_Half.f t200).bind fun t201 => (if t201 = x1 then (if (Go.bits .and .i64 (x1 / 4503599627370496) 2047) < 2 then (some true) else ((real_Half.f x1).bind fun t202 => ((real_Twice.f t202).bind fun t203 => (some (t203 == x1))))) else (some false))))) else (some false)))))
def quarterdecklaw02_RealBack.f (k : Nat) (a0 : Int) (a1 : Int) : Option (Bool) := (quarterdecklaw02_awake.f).bind fun t193 => (if t193 = true then (if a0 ≥ (-9007199254740992) then (if a0 ≤ 9007199254740992 then ((real_Of.f a0).bind fun t194 => ((real_Whole.f t194).bind fun t195 => (quarterdecklaw02_RealBack.j0 k a1 (t195 != a0)))) else (quarterdecklaw02_RealBack.j0 k a1 false)) else (quarterdecklaw02_RealBack.j0 k a1 false)) else (some false))
theorem quarterdecklaw02_RealBack.mono_l : ∀ k, (∀ y0 y1, LeO (quarterdecklaw02_RealBack.j0 k y0 y1) (quarterdecklaw02_RealBack.j0 (k + 1) y0 y1))
  | 0 => fun _ _ r h => by simp [quarterdecklaw02_RealBack.j0] at h
  | k + 1 => by
    have ih0 := quarterdecklaw02_RealBack.mono_l k
    · intro y0 y1
      unfold quarterdecklaw02_RealBack.j0
      repeat' first
      | (with_reducible exact ih0 _ _)
      | (with_reducible exact LeO.refl _)
      | (with_reducible exact LeO.none _)
      | (with_reducible refine LeO.ite ?_ ?_)
      | (with_reducible refine LeO.bind ?_ (fun _ => ?_))
      | exact ih0 _ _
      | exact LeO.none _
      | refine LeO.ite ?_ ?_
      | refine LeO.bind ?_ (fun _ => ?_)
theorem quarterdecklaw02_RealBack.mono : ∀ a0 a1 k, LeO (quarterdecklaw02_RealBack.f k a0 a1) (quarterdecklaw02_RealBack.f (k + 1) a0 a1) := by
  intro a0 a1 k
  have ih0 := quarterdecklaw02_RealBack.mono_l k
  unfold quarterdecklaw02_RealBack.f
  repeat' first
      | (with_reducible exact ih0 _ _)
      | (with_reducible exact LeO.refl _)
      | (with_reducible exact LeO.none _)
      | (with_reducible refine LeO.ite ?_ ?_)
      | (with_reducible refine LeO.bind ?_ (fun _ => ?_))
      | exact ih0 _ _
      | exact LeO.none _
      | refine LeO.ite ?_ ?_
      | refine LeO.bind ?_ (fun _ => ?_)
set_option maxHeartbeats 8000000 in
set_option maxRecDepth 100000 in
theorem quarterdecklaw02_RealBack.calls (k : Nat) (a0 : Int) (a1 : Int) (r : Bool) (w : World) (h : quarterdecklaw02_RealBack.f k a0 a1 = some r) :
    Calls Try.prog 9 #[.int .i64 a0, .int .i64 a1] w fun e w' => e = .returned (.bool r) ∧ Drawn0 w w' := by
  have H : ((quarterdecklaw02_awake.f).bind fun t193 => (if t193 = true then (if a0 ≥ (-9007199254740992) then (if a0 ≤ 9007199254740992 then ((real_Of.f a0).bind fun t194 => ((real_Whole.f t194).bind fun t195 => (quarterdecklaw02_RealBack.j0 k a1 (t195 != a0)))) else (quarterdecklaw02_RealBack.j0 k a1 false)) else (quarterdecklaw02_RealBack.j0 k a1 false)) else (some false))) = some r := h
  clear h
  replace H := Option.bind_eq_some_iff.mp H
  obtain ⟨t193, A30, H⟩ := H
  replace H : (if t193 = true then (if a0 ≥ (-9007199254740992) then (if a0 ≤ 9007199254740992 then ((real_Of.f a0).bind fun t194 => ((real_Whole.f t194).bind fun t195 => (quarterdecklaw02_RealBack.j0 k a1 (t195 != a0)))) else (quarterdecklaw02_RealBack.j0 k a1 false)) else (quarterdecklaw02_RealBack.j0 k a1 false)) else (some false)) = some r := H
  have A3 := Aside0.mk A30
  clear A30
  by_cases c4 : t193 = true
  · subst c4
    have H1 : (if a0 ≥ (-9007199254740992) then (if a0 ≤ 9007199254740992 then ((real_Of.f a0).bind fun t194 => ((real_Whole.f t194).bind fun t195 => (quarterdecklaw02_RealBack.j0 k a1 (t195 != a0)))) else (quarterdecklaw02_RealBack.j0 k a1 false)) else (quarterdecklaw02_RealBack.j0 k a1 false)) = some r := by rw [if_pos rfl] at H; exact H
    clear H
    have H := H1
    clear H1
    have HC5 := Aside0.mk H
    clear H
    go_enter Try.func9, Try.ntmps9
    go_upto_region 5 with (first | ((with_reducible refine gate_callee (f := 11) rfl ?_); refine goesL_ (some 8) rfl rfl Try.func11 (by kernel_rfl) rfl #[] rfl (by (try simp only [List.map_toArray, List.map_cons, List.map_nil]); first | done | rfl | (simp only [List.length_drop, List.length_take]; rfl)) ?_; (with_reducible refine (quarterdecklaw02_awake.calls  true _ A3.out).mono ?_); rintro e w' ⟨rfl, ⟨nd, rfl⟩⟩; refine ⟨_, rfl, ?_⟩))
    (try simp only [Act.put, List.setIfInBounds_toArray, List.set_cons_zero, List.set_cons_succ])
    go_cut [26] (fun v26 wc => ∃ (kq : Nat) (x26_4 : Bool), v26 = .bool x26_4 ∧ Aside0 (quarterdecklaw02_RealBack.j0 kq a1 x26_4 = some r) ∧ Aside0 (kq ≤ k) ∧ Drawn0 w wc)
    case first =>
      have H := HC5.out
      clear HC5
      by_cases c6 : a0 ≥ (-9007199254740992)
      · rw [if_pos c6] at H
        have c6b0 : decide ((-9007199254740992) ≤ a0) = true := decide_eq_true c6
        clear c6
        (first | rw [c6b0] | (simp only [i64_w, i32_w]; rw [c6b0]) | skip)
        by_cases c7 : a0 ≤ 9007199254740992
        · rw [if_pos c7] at H
          have c7b0 : decide (a0 ≤ 9007199254740992) = true := decide_eq_true c7
          clear c7
          replace H := Option.bind_eq_some_iff.mp H
          obtain ⟨t194, A80, H⟩ := H
          replace H : ((real_Whole.f t194).bind fun t195 => (quarterdecklaw02_RealBack.j0 k a1 (t195 != a0))) = some r := H
          have A8 := Aside0.mk A80
          clear A80
          replace H := Option.bind_eq_some_iff.mp H
          obtain ⟨t195, A90, H⟩ := H
          replace H : (quarterdecklaw02_RealBack.j0 k a1 (t195 != a0)) = some r := H
          have A9 := Aside0.mk A90
          clear A90
          have H' := Aside0.mk H
          clear H
          go_wp2_with (first | (go_at_call 20; (with_reducible refine (real_Of.calls a0 t194 _ A8.out).mono ?_); rintro e w' ⟨rfl, ⟨nd, rfl⟩⟩) | (go_at_call 22; (with_reducible refine (real_Whole.calls t194 t195 _ A9.out).mono ?_); rintro e w' ⟨rfl, ⟨nd, rfl⟩⟩))
          go_meet
          case rel => exact ⟨_, ((t195 != a0)), (by first | rfl | (simp; done) | (simp [*]; done)), H', ⟨by first | omega | exact Nat.le_refl _⟩, by repeat (first | exact Drawn0.refl _ | apply Drawn0.step)⟩
        · rw [if_neg c7] at H
          have c7b0 : decide (a0 ≤ 9007199254740992) = false := decide_eq_false c7
          clear c7
          have H' := Aside0.mk H
          clear H
          go_wp2
          go_meet
          case rel => exact ⟨_, (false), (by first | rfl | (simp; done) | (simp [*]; done)), H', ⟨by first | omega | exact Nat.le_refl _⟩, by repeat (first | exact Drawn0.refl _ | apply Drawn0.step)⟩
      · rw [if_neg c6] at H
        have c6b0 : decide ((-9007199254740992) ≤ a0) = false := decide_eq_false c6
        clear c6
        (first | rw [c6b0] | (simp only [i64_w, i32_w]; rw [c6b0]) | skip)
        have H' := Aside0.mk H
        clear H
        go_wp2
        go_meet
        case rel => exact ⟨_, (false), (by first | rfl | (simp; done) | (simp [*]; done)), H', ⟨by first | omega | exact Nat.le_refl _⟩, by repeat (first | exact Drawn0.refl _ | apply Drawn0.step)⟩
    case rest =>
      clear HC5
      try clear c1
      try clear p2
      try clear c4
      try clear c6
      try clear c6b0
      try clear c7
      try clear c7b0
      try clear c9
      obtain ⟨kq, x26_4, rfl, HA, HJ4, ⟨mc4, rfl⟩⟩ := hcut
      cases kq with
      | zero => exact absurd HA.out (by simp [quarterdecklaw02_RealBack.j0])
      | succ kj4 =>
        have H := HA.out
        clear HA
        simp only [quarterdecklaw02_RealBack.j0] at H
        by_cases c10 : x26_4 = true
        · subst c10
          have H1 : (some false) = some r := by rw [if_pos rfl] at H; exact H
          clear H
          have H := H1
          clear H1
          obtain rfl := Option.some.inj H
          go_wp2
          go_ret
          exact ⟨by first | rfl | (simp; done) | (simp [*]; done), by repeat (first | exact Drawn0.refl _ | apply Drawn0.step)⟩
        · replace c10 := Bool.eq_false_iff.mpr c10
          subst c10
          have H1 : (if (Go.bits .and .i64 (a1 / 4503599627370496) 2047) = 2047 then (some true) else ((real_Flip.f a1).bind fun t196 => ((real_Flip.f t196).bind fun t197 => (if t197 = a1 then (if (Go.bits .and .i64 (a1 / 4503599627370496) 2047) ≥ 2046 then (if (Go.bits .and .i64 (a1 / 4503599627370496) 2047) < 2 then (some true) else ((real_Half.f a1).bind fun t198 => ((real_Twice.f t198).bind fun t199 => (some (t199 == a1))))) else ((real_Twice.f a1).bind fun t200 => ((real_Half.f t200).bind fun t201 => (if t201 = a1 then (if (Go.bits .and .i64 (a1 / 4503599627370496) 2047) < 2 then (some true) else ((real_Half.f a1).bind fun t202 => ((real_Twice.f t202).bind fun t203 => (some (t203 == a1))))) else (some false))))) else (some false))))) = some r := by rw [if_neg (show ¬ (false = true) by decide)] at H; exact H
          clear H
          have H := H1
          clear H1
          by_cases c11 : (Go.bits .and .i64 (a1 / 4503599627370496) 2047) = 2047
          · rw [if_pos c11] at H
            have c11b0 : ((Go.bits .and .i64 (a1 / 4503599627370496) 2047) == 2047) = true := beq_iff_eq.mpr c11
            have c11b1 : ((Go.bits .and .i64 (a1 / 4503599627370496) 2047) != 2047) = false := bne_eq_false_iff_eq.mpr c11
            clear c11
            obtain rfl := Option.some.inj H
            go_wp2
            go_ret
            exact ⟨by first | rfl | (simp; done) | (simp [*]; done), by repeat (first | exact Drawn0.refl _ | apply Drawn0.step)⟩
          · rw [if_neg c11] at H
            have c11b0 : ((Go.bits .and .i64 (a1 / 4503599627370496) 2047) == 2047) = false := beq_eq_false_iff_ne.mpr c11
            have c11b1 : ((Go.bits .and .i64 (a1 / 4503599627370496) 2047) != 2047) = true := bne_iff_ne.mpr c11
            replace H := Option.bind_eq_some_iff.mp H
            obtain ⟨t196, A120, H⟩ := H
            replace H : ((real_Flip.f t196).bind fun t197 => (if t197 = a1 then (if (Go.bits .and .i64 (a1 / 4503599627370496) 2047) ≥ 2046 then (if (Go.bits .and .i64 (a1 / 4503599627370496) 2047) < 2 then (some true) else ((real_Half.f a1).bind fun t198 => ((real_Twice.f t198).bind fun t199 => (some (t199 == a1))))) else ((real_Twice.f a1).bind fun t200 => ((real_Half.f t200).bind fun t201 => (if t201 = a1 then (if (Go.bits .and .i64 (a1 / 4503599627370496) 2047) < 2 then (some true) else ((real_Half.f a1).bind fun t202 => ((real_Twice.f t202).bind fun t203 => (some (t203 == a1))))) else (some false))))) else (some false))) = some r := H
            have A12 := Aside0.mk A120
            clear A120
            replace H := Option.bind_eq_some_iff.mp H
            obtain ⟨t197, A130, H⟩ := H
            replace H : (if t197 = a1 then (if (Go.bits .and .i64 (a1 / 4503599627370496) 2047) ≥ 2046 then (if (Go.bits .and .i64 (a1 / 4503599627370496) 2047) < 2 then (some true) else ((real_Half.f a1).bind fun t198 => ((real_Twice.f t198).bind fun t199 => (some (t199 == a1))))) else ((real_Twice.f a1).bind fun t200 => ((real_Half.f t200).bind fun t201 => (if t201 = a1 then (if (Go.bits .and .i64 (a1 / 4503599627370496) 2047) < 2 then (some true) else ((real_Half.f a1).bind fun t202 => ((real_Twice.f t202).bind fun t203 => (some (t203 == a1))))) else (some false))))) else (some false)) = some r := H
            have A13 := Aside0.mk A130
            clear A130
            by_cases c14 : t197 = a1
            · rw [if_pos c14] at H
              have c14b0 : (t197 == a1) = true := beq_iff_eq.mpr c14
              have c14b1 : (t197 != a1) = false := bne_eq_false_iff_eq.mpr c14
              clear c14
              by_cases c15 : (Go.bits .and .i64 (a1 / 4503599627370496) 2047) ≥ 2046
              · rw [if_pos c15] at H
                have c15b0 : decide (2046 ≤ (Go.bits .and .i64 (a1 / 4503599627370496) 2047)) = true := decide_eq_true c15
                clear c15
                by_cases c16 : (Go.bits .and .i64 (a1 / 4503599627370496) 2047) < 2
                · rw [if_pos c16] at H
                  have c16b0 : decide ((Go.bits .and .i64 (a1 / 4503599627370496) 2047) < 2) = true := decide_eq_true c16
                  clear c16
                  obtain rfl := Option.some.inj H
                  go_wp2_with (first | ((with_reducible refine gate_callee (f := 18) rfl ?_); refine goesL_ (some 33) rfl rfl Try.func18 (by kernel_rfl) rfl #[.int .i64 a1] rfl (by (try simp only [List.map_toArray, List.map_cons, List.map_nil]); first | done | rfl | (simp only [List.length_drop, List.length_take]; rfl)) ?_; (with_reducible refine (real_Flip.calls a1 t196 _ A12.out).mono ?_); rintro e w' ⟨rfl, ⟨nd, rfl⟩⟩; refine ⟨_, rfl, ?_⟩) | ((with_reducible refine gate_callee (f := 18) rfl ?_); refine goesL_ (some 34) rfl rfl Try.func18 (by kernel_rfl) rfl #[.int .i64 t196] rfl (by (try simp only [List.map_toArray, List.map_cons, List.map_nil]); first | done | rfl | (simp only [List.length_drop, List.length_take]; rfl)) ?_; (with_reducible refine (real_Flip.calls t196 t197 _ A13.out).mono ?_); rintro e w' ⟨rfl, ⟨nd, rfl⟩⟩; refine ⟨_, rfl, ?_⟩))
                  go_ret
                  exact ⟨by first | rfl | (simp; done) | (simp [*]; done), by repeat (first | exact Drawn0.refl _ | apply Drawn0.step)⟩
                · rw [if_neg c16] at H
                  have c16b0 : decide ((Go.bits .and .i64 (a1 / 4503599627370496) 2047) < 2) = false := decide_eq_false c16
                  clear c16
                  replace H := Option.bind_eq_some_iff.mp H
                  obtain ⟨t198, A170, H⟩ := H
                  replace H : ((real_Twice.f t198).bind fun t199 => (some (t199 == a1))) = some r := H
                  have A17 := Aside0.mk A170
                  clear A170
                  replace H := Option.bind_eq_some_iff.mp H
                  obtain ⟨t199, A180, H⟩ := H
                  replace H : (some (t199 == a1)) = some r := H
                  have A18 := Aside0.mk A180
                  clear A180
                  obtain rfl := Option.some.inj H
                  go_wp2_with (first | ((with_reducible refine gate_callee (f := 18) rfl ?_); refine goesL_ (some 33) rfl rfl Try.func18 (by kernel_rfl) rfl #[.int .i64 a1] rfl (by (try simp only [List.map_toArray, List.map_cons, List.map_nil]); first | done | rfl | (simp only [List.length_drop, List.length_take]; rfl)) ?_; (with_reducible refine (real_Flip.calls a1 t196 _ A12.out).mono ?_); rintro e w' ⟨rfl, ⟨nd, rfl⟩⟩; refine ⟨_, rfl, ?_⟩) | ((with_reducible refine gate_callee (f := 18) rfl ?_); refine goesL_ (some 34) rfl rfl Try.func18 (by kernel_rfl) rfl #[.int .i64 t196] rfl (by (try simp only [List.map_toArray, List.map_cons, List.map_nil]); first | done | rfl | (simp only [List.length_drop, List.length_take]; rfl)) ?_; (with_reducible refine (real_Flip.calls t196 t197 _ A13.out).mono ?_); rintro e w' ⟨rfl, ⟨nd, rfl⟩⟩; refine ⟨_, rfl, ?_⟩) | (go_at_call 14; (with_reducible refine (real_Half.calls a1 t198 _ A17.out).mono ?_); rintro e w' ⟨rfl, ⟨nd, rfl⟩⟩) | (go_at_call 16; (with_reducible refine (real_Twice.calls t198 t199 _ A18.out).mono ?_); rintro e w' ⟨rfl, ⟨nd, rfl⟩⟩))
                  go_ret
                  exact ⟨by first | rfl | (simp; done) | (simp [*]; done), by repeat (first | exact Drawn0.refl _ | apply Drawn0.step)⟩
              · rw [if_neg c15] at H
                have c15b0 : decide (2046 ≤ (Go.bits .and .i64 (a1 / 4503599627370496) 2047)) = false := decide_eq_false c15
                clear c15
                replace H := Option.bind_eq_some_iff.mp H
                obtain ⟨t200, A190, H⟩ := H
                replace H : ((real_Half.f t200).bind fun t201 => (if t201 = a1 then (if (Go.bits .and .i64 (a1 / 4503599627370496) 2047) < 2 then (some true) else ((real_Half.f a1).bind fun t202 => ((real_Twice.f t202).bind fun t203 => (some (t203 == a1))))) else (some false))) = some r := H
                have A19 := Aside0.mk A190
                clear A190
                replace H := Option.bind_eq_some_iff.mp H
                obtain ⟨t201, A200, H⟩ := H
                replace H : (if t201 = a1 then (if (Go.bits .and .i64 (a1 / 4503599627370496) 2047) < 2 then (some true) else ((real_Half.f a1).bind fun t202 => ((real_Twice.f t202).bind fun t203 => (some (t203 == a1))))) else (some false)) = some r := H
                have A20 := Aside0.mk A200
                clear A200
                by_cases c21 : t201 = a1
                · rw [if_pos c21] at H
                  have c21b0 : (t201 == a1) = true := beq_iff_eq.mpr c21
                  have c21b1 : (t201 != a1) = false := bne_eq_false_iff_eq.mpr c21
                  clear c21
                  by_cases c22 : (Go.bits .and .i64 (a1 / 4503599627370496) 2047) < 2
                  · rw [if_pos c22] at H
                    have c22b0 : decide ((Go.bits .and .i64 (a1 / 4503599627370496) 2047) < 2) = true := decide_eq_true c22
                    clear c22
                    obtain rfl := Option.some.inj H
                    go_wp2_with (first | ((with_reducible refine gate_callee (f := 18) rfl ?_); refine goesL_ (some 33) rfl rfl Try.func18 (by kernel_rfl) rfl #[.int .i64 a1] rfl (by (try simp only [List.map_toArray, List.map_cons, List.map_nil]); first | done | rfl | (simp only [List.length_drop, List.length_take]; rfl)) ?_; (with_reducible refine (real_Flip.calls a1 t196 _ A12.out).mono ?_); rintro e w' ⟨rfl, ⟨nd, rfl⟩⟩; refine ⟨_, rfl, ?_⟩) | ((with_reducible refine gate_callee (f := 18) rfl ?_); refine goesL_ (some 34) rfl rfl Try.func18 (by kernel_rfl) rfl #[.int .i64 t196] rfl (by (try simp only [List.map_toArray, List.map_cons, List.map_nil]); first | done | rfl | (simp only [List.length_drop, List.length_take]; rfl)) ?_; (with_reducible refine (real_Flip.calls t196 t197 _ A13.out).mono ?_); rintro e w' ⟨rfl, ⟨nd, rfl⟩⟩; refine ⟨_, rfl, ?_⟩) | (go_at_call 16; (with_reducible refine (real_Twice.calls a1 t200 _ A19.out).mono ?_); rintro e w' ⟨rfl, ⟨nd, rfl⟩⟩) | (go_at_call 14; (with_reducible refine (real_Half.calls t200 t201 _ A20.out).mono ?_); rintro e w' ⟨rfl, ⟨nd, rfl⟩⟩))
                    go_ret
                    exact ⟨by first | rfl | (simp; done) | (simp [*]; done), by repeat (first | exact Drawn0.refl _ | apply Drawn0.step)⟩
                  · rw [if_neg c22] at H
                    have c22b0 : decide ((Go.bits .and .i64 (a1 / 4503599627370496) 2047) < 2) = false := decide_eq_false c22
                    clear c22
                    replace H := Option.bind_eq_some_iff.mp H
                    obtain ⟨t202, A230, H⟩ := H
                    replace H : ((real_Twice.f t202).bind fun t203 => (some (t203 == a1))) = some r := H
                    have A23 := Aside0.mk A230
                    clear A230
                    replace H := Option.bind_eq_some_iff.mp H
                    obtain ⟨t203, A240, H⟩ := H
                    replace H : (some (t203 == a1)) = some r := H
                    have A24 := Aside0.mk A240
                    clear A240
                    obtain rfl := Option.some.inj H
                    go_wp2_with (first | ((with_reducible refine gate_callee (f := 18) rfl ?_); refine goesL_ (some 33) rfl rfl Try.func18 (by kernel_rfl) rfl #[.int .i64 a1] rfl (by (try simp only [List.map_toArray, List.map_cons, List.map_nil]); first | done | rfl | (simp only [List.length_drop, List.length_take]; rfl)) ?_; (with_reducible refine (real_Flip.calls a1 t196 _ A12.out).mono ?_); rintro e w' ⟨rfl, ⟨nd, rfl⟩⟩; refine ⟨_, rfl, ?_⟩) | ((with_reducible refine gate_callee (f := 18) rfl ?_); refine goesL_ (some 34) rfl rfl Try.func18 (by kernel_rfl) rfl #[.int .i64 t196] rfl (by (try simp only [List.map_toArray, List.map_cons, List.map_nil]); first | done | rfl | (simp only [List.length_drop, List.length_take]; rfl)) ?_; (with_reducible refine (real_Flip.calls t196 t197 _ A13.out).mono ?_); rintro e w' ⟨rfl, ⟨nd, rfl⟩⟩; refine ⟨_, rfl, ?_⟩) | (go_at_call 16; (with_reducible refine (real_Twice.calls a1 t200 _ A19.out).mono ?_); rintro e w' ⟨rfl, ⟨nd, rfl⟩⟩) | (go_at_call 14; (with_reducible refine (real_Half.calls t200 t201 _ A20.out).mono ?_); rintro e w' ⟨rfl, ⟨nd, rfl⟩⟩) | (go_at_call 14; (with_reducible refine (real_Half.calls a1 t202 _ A23.out).mono ?_); rintro e w' ⟨rfl, ⟨nd, rfl⟩⟩) | (go_at_call 16; (with_reducible refine (real_Twice.calls t202 t203 _ A24.out).mono ?_); rintro e w' ⟨rfl, ⟨nd, rfl⟩⟩))
                    go_ret
                    exact ⟨by first | rfl | (simp; done) | (simp [*]; done), by repeat (first | exact Drawn0.refl _ | apply Drawn0.step)⟩
                · rw [if_neg c21] at H
                  have c21b0 : (t201 == a1) = false := beq_eq_false_iff_ne.mpr c21
                  have c21b1 : (t201 != a1) = true := bne_iff_ne.mpr c21
                  obtain rfl := Option.some.inj H
                  go_wp2_with (first | ((with_reducible refine gate_callee (f := 18) rfl ?_); refine goesL_ (some 33) rfl rfl Try.func18 (by kernel_rfl) rfl #[.int .i64 a1] rfl (by (try simp only [List.map_toArray, List.map_cons, List.map_nil]); first | done | rfl | (simp only [List.length_drop, List.length_take]; rfl)) ?_; (with_reducible refine (real_Flip.calls a1 t196 _ A12.out).mono ?_); rintro e w' ⟨rfl, ⟨nd, rfl⟩⟩; refine ⟨_, rfl, ?_⟩) | ((with_reducible refine gate_callee (f := 18) rfl ?_); refine goesL_ (some 34) rfl rfl Try.func18 (by kernel_rfl) rfl #[.int .i64 t196] rfl (by (try simp only [List.map_toArray, List.map_cons, List.map_nil]); first | done | rfl | (simp only [List.length_drop, List.length_take]; rfl)) ?_; (with_reducible refine (real_Flip.calls t196 t197 _ A13.out).mono ?_); rintro e w' ⟨rfl, ⟨nd, rfl⟩⟩; refine ⟨_, rfl, ?_⟩) | (go_at_call 16; (with_reducible refine (real_Twice.calls a1 t200 _ A19.out).mono ?_); rintro e w' ⟨rfl, ⟨nd, rfl⟩⟩) | (go_at_call 14; (with_reducible refine (real_Half.calls t200 t201 _ A20.out).mono ?_); rintro e w' ⟨rfl, ⟨nd, rfl⟩⟩))
                  go_ret
                  exact ⟨by first | rfl | (simp; done) | (simp [*]; done), by repeat (first | exact Drawn0.refl _ | apply Drawn0.step)⟩
            · rw [if_neg c14] at H
              have c14b0 : (t197 == a1) = false := beq_eq_false_iff_ne.mpr c14
              have c14b1 : (t197 != a1) = true := bne_iff_ne.mpr c14
              obtain rfl := Option.some.inj H
              go_wp2_with (first | ((with_reducible refine gate_callee (f := 18) rfl ?_); refine goesL_ (some 33) rfl rfl Try.func18 (by kernel_rfl) rfl #[.int .i64 a1] rfl (by (try simp only [List.map_toArray, List.map_cons, List.map_nil]); first | done | rfl | (simp only [List.length_drop, List.length_take]; rfl)) ?_; (with_reducible refine (real_Flip.calls a1 t196 _ A12.out).mono ?_); rintro e w' ⟨rfl, ⟨nd, rfl⟩⟩; refine ⟨_, rfl, ?_⟩) | ((with_reducible refine gate_callee (f := 18) rfl ?_); refine goesL_ (some 34) rfl rfl Try.func18 (by kernel_rfl) rfl #[.int .i64 t196] rfl (by (try simp only [List.map_toArray, List.map_cons, List.map_nil]); first | done | rfl | (simp only [List.length_drop, List.length_take]; rfl)) ?_; (with_reducible refine (real_Flip.calls t196 t197 _ A13.out).mono ?_); rintro e w' ⟨rfl, ⟨nd, rfl⟩⟩; refine ⟨_, rfl, ?_⟩))
              go_ret
              exact ⟨by first | rfl | (simp; done) | (simp [*]; done), by repeat (first | exact Drawn0.refl _ | apply Drawn0.step)⟩
  · replace c4 := Bool.eq_false_iff.mpr c4
    subst c4
    have H1 : (some false) = some r := by rw [if_neg (show ¬ (false = true) by decide)] at H; exact H
    clear H
    have H := H1
    clear H1
    obtain rfl := Option.some.inj H
    go_enter Try.func9, Try.ntmps9
    go_wp2_with (first | ((with_reducible refine gate_callee (f := 11) rfl ?_); refine goesL_ (some 8) rfl rfl Try.func11 (by kernel_rfl) rfl #[] rfl (by (try simp only [List.map_toArray, List.map_cons, List.map_nil]); first | done | rfl | (simp only [List.length_drop, List.length_take]; rfl)) ?_; (with_reducible refine (quarterdecklaw02_awake.calls  false _ A3.out).mono ?_); rintro e w' ⟨rfl, ⟨nd, rfl⟩⟩; refine ⟨_, rfl, ?_⟩))
    go_ret
    exact ⟨by first | rfl | (simp; done) | (simp [*]; done), by repeat (first | exact Drawn0.refl _ | apply Drawn0.step)⟩

/-- THE ONE PURE STATEMENT of quarterdecklaw02_RealBack: yours. -/
def quarterdecklaw02_RealBack.Pure : Prop := ∀ (a0 : Int) (a1 : Int), (Lit.int .i64 a0).wf = true → (Lit.int .i64 a1).wf = true → ∃ k, quarterdecklaw02_RealBack.f k a0 a1 = some true
theorem quarterdecklaw02_RealBack.walk (P : quarterdecklaw02_RealBack.Pure) (a0 : Int) (a1 : Int) (w : World) (w0 : (Lit.int .i64 a0).wf = true) (w1 : (Lit.int .i64 a1).wf = true) :
    Calls Try.prog 9 #[.int .i64 a0, .int .i64 a1] w fun e w' => e = .returned (.bool true) ∧ Below w.heap.size w w' := by
  obtain ⟨k, h⟩ := P a0 a1 w0 w1
  refine (quarterdecklaw02_RealBack.calls k a0 a1 true w h).mono ?_
  rintro e w' ⟨rfl, hd⟩
  exact ⟨rfl, hd.below⟩

end Go.Proofs.Ytiamipopddaeiaa.Pr

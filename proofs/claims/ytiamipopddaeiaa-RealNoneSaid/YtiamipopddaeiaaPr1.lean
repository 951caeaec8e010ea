/- Go functions of this seat as Lean functions, each with the proof that its call comes to just that, and the rows over them; written by a program of this session (wip/given_print.py); the conditions are the premises that each theorem names. -/
import Derived.Test.YtiamipopddaeiaaPr0
namespace Go.Proofs.Ytiamipopddaeiaa.Pr
open Go.RowKit Go.Proofs.YtiamipopddaeiaaW.PrintWords Go.Proofs.YtiamipopddaeiaaW.PrintLast Go.Proofs.YtiamipopddaeiaaW.PrintMore
attribute [local go_sem] max2_int min2_int max_two min_two max_three min_three max_four min_four   -- for this text's walks alone
set_option linter.unusedVariables false
set_option linter.unusedSimpArgs false

-- NOT PRINTED: function 35 (math_Float64frombits)

-- NOT PRINTED: function 26 (real_number)


/-! ### real_Below: function 13, given -/
def real_Below.f (a0 : Int) (a1 : Int) : Option (Bool) := some (Go.Proofs.Ytiamipopddaeiaa.RealG.belowX a0 a1)
theorem real_Below.calls (a0 : Int) (a1 : Int) (r : Bool) (w : World) (h : real_Below.f a0 a1 = some r) :
    Calls Try.prog 13 #[.int .i64 a0, .int .i64 a1] w fun e w' => e = .returned (.bool r) ∧ Drawn0 w w' := by
  unfold real_Below.f at h
  injection h with h
  subst h
  exact (Go.Proofs.Ytiamipopddaeiaa.RealG.below_eq a0 a1 w).mono fun e w' ⟨h1, n, h2⟩ => ⟨h1, ⟨⟨n, h2⟩⟩⟩

-- NOT PRINTED: function 33 (math_IsNaN)

-- NOT PRINTED: function 36 (math_Float64bits)

-- NOT PRINTED: function 27 (real_bits)


/-! ### real_Half: function 14, given -/
def real_Half.f (a0 : Int) : Option (Int) := some (Go.Proofs.Ytiamipopddaeiaa.RealG.halfX a0)
theorem real_Half.calls (a0 : Int) (r : Int) (w : World) (h : real_Half.f a0 = some r) :
    Calls Try.prog 14 #[.int .i64 a0] w fun e w' => e = .returned (.int .i64 r) ∧ Drawn0 w w' := by
  unfold real_Half.f at h
  injection h with h
  subst h
  exact (Go.Proofs.Ytiamipopddaeiaa.RealG.half_any a0 w).mono fun e w' ⟨h1, n, h2⟩ => ⟨h1, ⟨⟨n, h2⟩⟩⟩


/-! ### real_Twice: function 16, given -/
def real_Twice.f (a0 : Int) : Option (Int) := some (Go.Proofs.Ytiamipopddaeiaa.RealG.twiceX a0)
theorem real_Twice.calls (a0 : Int) (r : Int) (w : World) (h : real_Twice.f a0 = some r) :
    Calls Try.prog 16 #[.int .i64 a0] w fun e w' => e = .returned (.int .i64 r) ∧ Drawn0 w w' := by
  unfold real_Twice.f at h
  injection h with h
  subst h
  exact (Go.Proofs.Ytiamipopddaeiaa.RealG.twice_any a0 w).mono fun e w' ⟨h1, n, h2⟩ => ⟨h1, ⟨⟨n, h2⟩⟩⟩


/-! ### real_Of: function 20, given -/
def real_Of.f (a0 : Int) : Option (Int) := some (Go.Proofs.Ytiamipopddaeiaa.RealG.ofX a0)
theorem real_Of.calls (a0 : Int) (r : Int) (w : World) (h : real_Of.f a0 = some r) :
    Calls Try.prog 20 #[.int .i64 a0] w fun e w' => e = .returned (.int .i64 r) ∧ Drawn0 w w' := by
  unfold real_Of.f at h
  injection h with h
  subst h
  exact (Go.Proofs.Ytiamipopddaeiaa.RealG.of_eq a0 w).mono fun e w' ⟨h1, n, h2⟩ => ⟨h1, ⟨⟨n, h2⟩⟩⟩

/-! ### quarterdecklaw02_awake: function 11 -/
def quarterdecklaw02_awake.f  : Option (Bool) := (real_Of.f 1).bind fun t101 => (if t101 = 4607182418800017408 then ((real_Half.f 4607182418800017408).bind fun t102 => (if t102 = 4602678819172646912 then ((real_Twice.f 9218868437227405311).bind fun t103 => (if t103 = 9218868437227405312 then ((real_Below.f 0 1).bind fun t104 => (some t104)) else (some false))) else (some false))) else (some false))
set_option maxHeartbeats 8000000 in
set_option maxRecDepth 100000 in
theorem quarterdecklaw02_awake.calls  (r : Bool) (w : World) (h : quarterdecklaw02_awake.f  = some r) :
    Calls Try.prog 11 #[] w fun e w' => e = .returned (.bool r) ∧ Drawn0 w w' := by
  have H : ((real_Of.f 1).bind fun t101 => (if t101 = 4607182418800017408 then ((real_Half.f 4607182418800017408).bind fun t102 => (if t102 = 4602678819172646912 then ((real_Twice.f 9218868437227405311).bind fun t103 => (if t103 = 9218868437227405312 then ((real_Below.f 0 1).bind fun t104 => (some t104)) else (some false))) else (some false))) else (some false))) = some r := h
  clear h
  replace H := Option.bind_eq_some_iff.mp H
  obtain ⟨t101, A10, H⟩ := H
  replace H : (if t101 = 4607182418800017408 then ((real_Half.f 4607182418800017408).bind fun t102 => (if t102 = 4602678819172646912 then ((real_Twice.f 9218868437227405311).bind fun t103 => (if t103 = 9218868437227405312 then ((real_Below.f 0 1).bind fun t104 => (some t104)) else (some false))) else (some false))) else (some false)) = some r := H
  have A1 := Aside0.mk A10
  clear A10
  by_cases c2 : t101 = 4607182418800017408
  · rw [if_pos c2] at H
    have c2b0 : (t101 == 4607182418800017408) = true := beq_iff_eq.mpr c2
    have c2b1 : (t101 != 4607182418800017408) = false := bne_eq_false_iff_eq.mpr c2
    clear c2
    replace H := Option.bind_eq_some_iff.mp H
    obtain ⟨t102, A30, H⟩ := H
    replace H : (if t102 = 4602678819172646912 then ((real_Twice.f 9218868437227405311).bind fun t103 => (if t103 = 9218868437227405312 then ((real_Below.f 0 1).bind fun t104 => (some t104)) else (some false))) else (some false)) = some r := H
    have A3 := Aside0.mk A30
    clear A30
    by_cases c4 : t102 = 4602678819172646912
    · rw [if_pos c4] at H
      have c4b0 : (t102 == 4602678819172646912) = true := beq_iff_eq.mpr c4
      have c4b1 : (t102 != 4602678819172646912) = false := bne_eq_false_iff_eq.mpr c4
      clear c4
      replace H := Option.bind_eq_some_iff.mp H
      obtain ⟨t103, A50, H⟩ := H
      replace H : (if t103 = 9218868437227405312 then ((real_Below.f 0 1).bind fun t104 => (some t104)) else (some false)) = some r := H
      have A5 := Aside0.mk A50
      clear A50
      by_cases c6 : t103 = 9218868437227405312
      · rw [if_pos c6] at H
        have c6b0 : (t103 == 9218868437227405312) = true := beq_iff_eq.mpr c6
        have c6b1 : (t103 != 9218868437227405312) = false := bne_eq_false_iff_eq.mpr c6
        clear c6
        replace H := Option.bind_eq_some_iff.mp H
        obtain ⟨t104, A70, H⟩ := H
        replace H : (some t104) = some r := H
        have A7 := Aside0.mk A70
        clear A70
        obtain rfl := Option.some.inj H
        go_enter Try.func11, Try.ntmps11
        go_wp2_with (first | ((with_reducible refine gate_callee (f := 20) rfl ?_); refine goesL_ (some 1) rfl rfl Try.func20 (by kernel_rfl) rfl #[.int .i64 1] rfl (by (try simp only [List.map_toArray, List.map_cons, List.map_nil]); first | done | rfl | (simp only [List.length_drop, List.length_take]; rfl)) ?_; (with_reducible refine (real_Of.calls 1 t101 _ A1.out).mono ?_); rintro e w' ⟨rfl, ⟨nd, rfl⟩⟩; refine ⟨_, rfl, ?_⟩) | (go_at_call 14; (with_reducible refine (real_Half.calls 4607182418800017408 t102 _ A3.out).mono ?_); rintro e w' ⟨rfl, ⟨nd, rfl⟩⟩) | (go_at_call 16; (with_reducible refine (real_Twice.calls 9218868437227405311 t103 _ A5.out).mono ?_); rintro e w' ⟨rfl, ⟨nd, rfl⟩⟩) | (go_at_call 13; (with_reducible refine (real_Below.calls 0 1 t104 _ A7.out).mono ?_); rintro e w' ⟨rfl, ⟨nd, rfl⟩⟩))
        go_ret
        exact ⟨by first | rfl | (simp; done) | (simp [*]; done), by repeat (first | exact Drawn0.refl _ | apply Drawn0.step)⟩
      · rw [if_neg c6] at H
        have c6b0 : (t103 == 9218868437227405312) = false := beq_eq_false_iff_ne.mpr c6
        have c6b1 : (t103 != 9218868437227405312) = true := bne_iff_ne.mpr c6
        obtain rfl := Option.some.inj H
        go_enter Try.func11, Try.ntmps11
        go_wp2_with (first | ((with_reducible refine gate_callee (f := 20) rfl ?_); refine goesL_ (some 1) rfl rfl Try.func20 (by kernel_rfl) rfl #[.int .i64 1] rfl (by (try simp only [List.map_toArray, List.map_cons, List.map_nil]); first | done | rfl | (simp only [List.length_drop, List.length_take]; rfl)) ?_; (with_reducible refine (real_Of.calls 1 t101 _ A1.out).mono ?_); rintro e w' ⟨rfl, ⟨nd, rfl⟩⟩; refine ⟨_, rfl, ?_⟩) | (go_at_call 14; (with_reducible refine (real_Half.calls 4607182418800017408 t102 _ A3.out).mono ?_); rintro e w' ⟨rfl, ⟨nd, rfl⟩⟩) | (go_at_call 16; (with_reducible refine (real_Twice.calls 9218868437227405311 t103 _ A5.out).mono ?_); rintro e w' ⟨rfl, ⟨nd, rfl⟩⟩))
        go_ret
        exact ⟨by first | rfl | (simp; done) | (simp [*]; done), by repeat (first | exact Drawn0.refl _ | apply Drawn0.step)⟩
    · rw [if_neg c4] at H
      have c4b0 : (t102 == 4602678819172646912) = false := beq_eq_false_iff_ne.mpr c4
      have c4b1 : (t102 != 4602678819172646912) = true := bne_iff_ne.mpr c4
      obtain rfl := Option.some.inj H
      go_enter Try.func11, Try.ntmps11
      go_wp2_with (first | ((with_reducible refine gate_callee (f := 20) rfl ?_); refine goesL_ (some 1) rfl rfl Try.func20 (by kernel_rfl) rfl #[.int .i64 1] rfl (by (try simp only [List.map_toArray, List.map_cons, List.map_nil]); first | done | rfl | (simp only [List.length_drop, List.length_take]; rfl)) ?_; (with_reducible refine (real_Of.calls 1 t101 _ A1.out).mono ?_); rintro e w' ⟨rfl, ⟨nd, rfl⟩⟩; refine ⟨_, rfl, ?_⟩) | (go_at_call 14; (with_reducible refine (real_Half.calls 4607182418800017408 t102 _ A3.out).mono ?_); rintro e w' ⟨rfl, ⟨nd, rfl⟩⟩))
      go_ret
      exact ⟨by first | rfl | (simp; done) | (simp [*]; done), by repeat (first | exact Drawn0.refl _ | apply Drawn0.step)⟩
  · rw [if_neg c2] at H
    have c2b0 : (t101 == 4607182418800017408) = false := beq_eq_false_iff_ne.mpr c2
    have c2b1 : (t101 != 4607182418800017408) = true := bne_iff_ne.mpr c2
    obtain rfl := Option.some.inj H
    go_enter Try.func11, Try.ntmps11
    go_wp2_with (first | ((with_reducible refine gate_callee (f := 20) rfl ?_); refine goesL_ (some 1) rfl rfl Try.func20 (by kernel_rfl) rfl #[.int .i64 1] rfl (by (try simp only [List.map_toArray, List.map_cons, List.map_nil]); first | done | rfl | (simp only [List.length_drop, List.length_take]; rfl)) ?_; (with_reducible refine (real_Of.calls 1 t101 _ A1.out).mono ?_); rintro e w' ⟨rfl, ⟨nd, rfl⟩⟩; refine ⟨_, rfl, ?_⟩))
    go_ret
    exact ⟨by first | rfl | (simp; done) | (simp [*]; done), by repeat (first | exact Drawn0.refl _ | apply Drawn0.step)⟩

/-! ### quarterdeckref02_rest: function 29 -/
def quarterdeckref02_rest.f (a0 : Int) : Option (Int) := if a0 < 0 then (some (wrap64 ((wrap64 (a0 + 4611686018427387904)) + 4611686018427387904))) else (some a0)
set_option maxHeartbeats 8000000 in
set_option maxRecDepth 100000 in
theorem quarterdeckref02_rest.calls (a0 : Int) (r : Int) (w : World) (h : quarterdeckref02_rest.f a0 = some r) :
    Calls Try.prog 29 #[.int .i64 a0] w fun e w' => e = .returned (.int .i64 r) ∧ Drawn0 w w' := by
  have H : (if a0 < 0 then (some (wrap64 ((wrap64 (a0 + 4611686018427387904)) + 4611686018427387904))) else (some a0)) = some r := h
  clear h
  by_cases c2 : a0 < 0
  · rw [if_pos c2] at H
    have c2b0 : decide (a0 < 0) = true := decide_eq_true c2
    clear c2
    obtain rfl := Option.some.inj H
    go_enter Try.func29, Try.ntmps29
    go_wp2
    go_ret
    exact ⟨by first | rfl | (simp; done) | (simp [*]; done), by repeat (first | exact Drawn0.refl _ | apply Drawn0.step)⟩
  · rw [if_neg c2] at H
    have c2b0 : decide (a0 < 0) = false := decide_eq_false c2
    clear c2
    obtain rfl := Option.some.inj H
    go_enter Try.func29, Try.ntmps29
    go_wp2
    go_ret
    exact ⟨by first | rfl | (simp; done) | (simp [*]; done), by repeat (first | exact Drawn0.refl _ | apply Drawn0.step)⟩

/-! ### quarterdeckref02_inf: function 31 -/
def quarterdeckref02_inf.f  : Option (Int) := some 9218868437227405312
set_option maxHeartbeats 8000000 in
set_option maxRecDepth 100000 in
theorem quarterdeckref02_inf.calls  (r : Int) (w : World) (h : quarterdeckref02_inf.f  = some r) :
    Calls Try.prog 31 #[] w fun e w' => e = .returned (.int .i64 r) ∧ Drawn0 w w' := by
  have H : (some 9218868437227405312) = some r := h
  clear h
  obtain rfl := Option.some.inj H
  go_enter Try.func31, Try.ntmps31
  go_wp2
  go_ret
  exact ⟨by first | rfl | (simp; done) | (simp [*]; done), by repeat (first | exact Drawn0.refl _ | apply Drawn0.step)⟩

/-! ### quarterdeckref02_nan: function 24 -/
def quarterdeckref02_nan.f (a0 : Int) : Option (Bool) := (quarterdeckref02_rest.f a0).bind fun t105 => ((quarterdeckref02_inf.f).bind fun t106 => (some (decide (t105 > t106))))
set_option maxHeartbeats 8000000 in
set_option maxRecDepth 100000 in
theorem quarterdeckref02_nan.calls (a0 : Int) (r : Bool) (w : World) (h : quarterdeckref02_nan.f a0 = some r) :
    Calls Try.prog 24 #[.int .i64 a0] w fun e w' => e = .returned (.bool r) ∧ Drawn0 w w' := by
  have H : ((quarterdeckref02_rest.f a0).bind fun t105 => ((quarterdeckref02_inf.f).bind fun t106 => (some (decide (t105 > t106))))) = some r := h
  clear h
  replace H := Option.bind_eq_some_iff.mp H
  obtain ⟨t105, A20, H⟩ := H
  replace H : ((quarterdeckref02_inf.f).bind fun t106 => (some (decide (t105 > t106)))) = some r := H
  have A2 := Aside0.mk A20
  clear A20
  replace H := Option.bind_eq_some_iff.mp H
  obtain ⟨t106, A30, H⟩ := H
  replace H : (some (decide (t105 > t106))) = some r := H
  have A3 := Aside0.mk A30
  clear A30
  obtain rfl := Option.some.inj H
  go_enter Try.func24, Try.ntmps24
  go_wp2_with (first | ((with_reducible refine gate_callee (f := 29) rfl ?_); refine goesL_ (some 4) rfl rfl Try.func29 (by kernel_rfl) rfl #[.int .i64 a0] rfl (by (try simp only [List.map_toArray, List.map_cons, List.map_nil]); first | done | rfl | (simp only [List.length_drop, List.length_take]; rfl)) ?_; (with_reducible refine (quarterdeckref02_rest.calls a0 t105 _ A2.out).mono ?_); rintro e w' ⟨rfl, ⟨nd, rfl⟩⟩; refine ⟨_, rfl, ?_⟩) | ((with_reducible refine gate_callee (f := 31) rfl ?_); refine goesL_ (some 5) rfl rfl Try.func31 (by kernel_rfl) rfl #[] rfl (by (try simp only [List.map_toArray, List.map_cons, List.map_nil]); first | done | rfl | (simp only [List.length_drop, List.length_take]; rfl)) ?_; (with_reducible refine (quarterdeckref02_inf.calls  t106 _ A3.out).mono ?_); rintro e w' ⟨rfl, ⟨nd, rfl⟩⟩; refine ⟨_, rfl, ?_⟩))
  go_ret
  exact ⟨by first | rfl | (simp; done) | (simp [*]; done), by repeat (first | exact Drawn0.refl _ | apply Drawn0.step)⟩

/-! ### quarterdeckref02_sign: function 30 -/
def quarterdeckref02_sign.f (a0 : Int) : Option (Bool) := some (decide (a0 < 0))
set_option maxHeartbeats 8000000 in
set_option maxRecDepth 100000 in
theorem quarterdeckref02_sign.calls (a0 : Int) (r : Bool) (w : World) (h : quarterdeckref02_sign.f a0 = some r) :
    Calls Try.prog 30 #[.int .i64 a0] w fun e w' => e = .returned (.bool r) ∧ Drawn0 w w' := by
  have H : (some (decide (a0 < 0))) = some r := h
  clear h
  obtain rfl := Option.some.inj H
  go_enter Try.func30, Try.ntmps30
  go_wp2
  go_ret
  exact ⟨by first | rfl | (simp; done) | (simp [*]; done), by repeat (first | exact Drawn0.refl _ | apply Drawn0.step)⟩

/-! ### quarterdeckref02_place: function 25 -/
def quarterdeckref02_place.f (a0 : Int) : Option (Int) := (quarterdeckref02_sign.f a0).bind fun t107 => (if t107 = true then ((quarterdeckref02_rest.f a0).bind fun t108 => (some (wrap64 (-t108)))) else (some a0))
set_option maxHeartbeats 8000000 in
set_option maxRecDepth 100000 in
theorem quarterdeckref02_place.calls (a0 : Int) (r : Int) (w : World) (h : quarterdeckref02_place.f a0 = some r) :
    Calls Try.prog 25 #[.int .i64 a0] w fun e w' => e = .returned (.int .i64 r) ∧ Drawn0 w w' := by
  have H : ((quarterdeckref02_sign.f a0).bind fun t107 => (if t107 = true then ((quarterdeckref02_rest.f a0).bind fun t108 => (some (wrap64 (-t108)))) else (some a0))) = some r := h
  clear h
  replace H := Option.bind_eq_some_iff.mp H
  obtain ⟨t107, A20, H⟩ := H
  replace H : (if t107 = true then ((quarterdeckref02_rest.f a0).bind fun t108 => (some (wrap64 (-t108)))) else (some a0)) = some r := H
  have A2 := Aside0.mk A20
  clear A20
  by_cases c3 : t107 = true
  · subst c3
    have H1 : ((quarterdeckref02_rest.f a0).bind fun t108 => (some (wrap64 (-t108)))) = some r := by rw [if_pos rfl] at H; exact H
    clear H
    have H := H1
    clear H1
    replace H := Option.bind_eq_some_iff.mp H
    obtain ⟨t108, A40, H⟩ := H
    replace H : (some (wrap64 (-t108))) = some r := H
    have A4 := Aside0.mk A40
    clear A40
    obtain rfl := Option.some.inj H
    go_enter Try.func25, Try.ntmps25
    go_wp2_with (first | ((with_reducible refine gate_callee (f := 30) rfl ?_); refine goesL_ (some 5) rfl rfl Try.func30 (by kernel_rfl) rfl #[.int .i64 a0] rfl (by (try simp only [List.map_toArray, List.map_cons, List.map_nil]); first | done | rfl | (simp only [List.length_drop, List.length_take]; rfl)) ?_; (with_reducible refine (quarterdeckref02_sign.calls a0 true _ A2.out).mono ?_); rintro e w' ⟨rfl, ⟨nd, rfl⟩⟩; refine ⟨_, rfl, ?_⟩) | ((with_reducible refine gate_callee (f := 29) rfl ?_); refine goesL_ (some 8) rfl rfl Try.func29 (by kernel_rfl) rfl #[.int .i64 a0] rfl (by (try simp only [List.map_toArray, List.map_cons, List.map_nil]); first | done | rfl | (simp only [List.length_drop, List.length_take]; rfl)) ?_; (with_reducible refine (quarterdeckref02_rest.calls a0 t108 _ A4.out).mono ?_); rintro e w' ⟨rfl, ⟨nd, rfl⟩⟩; refine ⟨_, rfl, ?_⟩))
    go_ret
    exact ⟨by first | rfl | (simp; done) | (simp [*]; done), by repeat (first | exact Drawn0.refl _ | apply Drawn0.step)⟩
  · replace c3 := Bool.eq_false_iff.mpr c3
    subst c3
    have H1 : (some a0) = some r := by rw [if_neg (show ¬ (false = true) by decide)] at H; exact H
    clear H
    have H := H1
    clear H1
    obtain rfl := Option.some.inj H
    go_enter Try.func25, Try.ntmps25
    go_wp2_with (first | ((with_reducible refine gate_callee (f := 30) rfl ?_); refine goesL_ (some 5) rfl rfl Try.func30 (by kernel_rfl) rfl #[.int .i64 a0] rfl (by (try simp only [List.map_toArray, List.map_cons, List.map_nil]); first | done | rfl | (simp only [List.length_drop, List.length_take]; rfl)) ?_; (with_reducible refine (quarterdeckref02_sign.calls a0 false _ A2.out).mono ?_); rintro e w' ⟨rfl, ⟨nd, rfl⟩⟩; refine ⟨_, rfl, ?_⟩))
    go_ret
    exact ⟨by first | rfl | (simp; done) | (simp [*]; done), by repeat (first | exact Drawn0.refl _ | apply Drawn0.step)⟩

/-! ### quarterdeckref02_Below: function 12 -/
def quarterdeckref02_Below.f (a0 : Int) (a1 : Int) : Option (Bool) := (quarterdeckref02_nan.f a0).bind fun t109 => ((quarterdeckref02_nan.f a1).bind fun t110 => (if t109 = true then (some false) else (if t110 = true then (some false) else ((quarterdeckref02_place.f a0).bind fun t111 => ((quarterdeckref02_place.f a1).bind fun t112 => (some (decide (t111 < t112))))))))
set_option maxHeartbeats 8000000 in
set_option maxRecDepth 100000 in
theorem quarterdeckref02_Below.calls (a0 : Int) (a1 : Int) (r : Bool) (w : World) (h : quarterdeckref02_Below.f a0 a1 = some r) :
    Calls Try.prog 12 #[.int .i64 a0, .int .i64 a1] w fun e w' => e = .returned (.bool r) ∧ Drawn0 w w' := by
  have H : ((quarterdeckref02_nan.f a0).bind fun t109 => ((quarterdeckref02_nan.f a1).bind fun t110 => (if t109 = true then (some false) else (if t110 = true then (some false) else ((quarterdeckref02_place.f a0).bind fun t111 => ((quarterdeckref02_place.f a1).bind fun t112 => (some (decide (t111 < t112))))))))) = some r := h
  clear h
  replace H := Option.bind_eq_some_iff.mp H
  obtain ⟨t109, A30, H⟩ := H
  replace H : ((quarterdeckref02_nan.f a1).bind fun t110 => (if t109 = true then (some false) else (if t110 = true then (some false) else ((quarterdeckref02_place.f a0).bind fun t111 => ((quarterdeckref02_place.f a1).bind fun t112 => (some (decide (t111 < t112)))))))) = some r := H
  have A3 := Aside0.mk A30
  clear A30
  replace H := Option.bind_eq_some_iff.mp H
  obtain ⟨t110, A40, H⟩ := H
  replace H : (if t109 = true then (some false) else (if t110 = true then (some false) else ((quarterdeckref02_place.f a0).bind fun t111 => ((quarterdeckref02_place.f a1).bind fun t112 => (some (decide (t111 < t112))))))) = some r := H
  have A4 := Aside0.mk A40
  clear A40
  by_cases c5 : t109 = true
  · subst c5
    have H1 : (some false) = some r := by rw [if_pos rfl] at H; exact H
    clear H
    have H := H1
    clear H1
    obtain rfl := Option.some.inj H
    go_enter Try.func12, Try.ntmps12
    go_wp2_with (first | ((with_reducible refine gate_callee (f := 24) rfl ?_); refine goesL_ (some 8) rfl rfl Try.func24 (by kernel_rfl) rfl #[.int .i64 a0] rfl (by (try simp only [List.map_toArray, List.map_cons, List.map_nil]); first | done | rfl | (simp only [List.length_drop, List.length_take]; rfl)) ?_; (with_reducible refine (quarterdeckref02_nan.calls a0 true _ A3.out).mono ?_); rintro e w' ⟨rfl, ⟨nd, rfl⟩⟩; refine ⟨_, rfl, ?_⟩) | ((with_reducible refine gate_callee (f := 24) rfl ?_); refine goesL_ (some 10) rfl rfl Try.func24 (by kernel_rfl) rfl #[.int .i64 a1] rfl (by (try simp only [List.map_toArray, List.map_cons, List.map_nil]); first | done | rfl | (simp only [List.length_drop, List.length_take]; rfl)) ?_; (with_reducible refine (quarterdeckref02_nan.calls a1 t110 _ A4.out).mono ?_); rintro e w' ⟨rfl, ⟨nd, rfl⟩⟩; refine ⟨_, rfl, ?_⟩))
    go_ret
    exact ⟨by first | rfl | (simp; done) | (simp [*]; done), by repeat (first | exact Drawn0.refl _ | apply Drawn0.step)⟩
  · replace c5 := Bool.eq_false_iff.mpr c5
    subst c5
    have H1 : (if t110 = true then (some false) else ((quarterdeckref02_place.f a0).bind fun t111 => ((quarterdeckref02_place.f a1).bind fun t112 => (some (decide (t111 < t112)))))) = some r := by rw [if_neg (show ¬ (false = true) by decide)] at H; exact H
    clear H
    have H := H1
    clear H1
    by_cases c6 : t110 = true
    · subst c6
      have H1 : (some false) = some r := by rw [if_pos rfl] at H; exact H
      clear H
      have H := H1
      clear H1
      obtain rfl := Option.some.inj H
      go_enter Try.func12, Try.ntmps12
      go_wp2_with (first | ((with_reducible refine gate_callee (f := 24) rfl ?_); refine goesL_ (some 8) rfl rfl Try.func24 (by kernel_rfl) rfl #[.int .i64 a0] rfl (by (try simp only [List.map_toArray, List.map_cons, List.map_nil]); first | done | rfl | (simp only [List.length_drop, List.length_take]; rfl)) ?_; (with_reducible refine (quarterdeckref02_nan.calls a0 false _ A3.out).mono ?_); rintro e w' ⟨rfl, ⟨nd, rfl⟩⟩; refine ⟨_, rfl, ?_⟩) | ((with_reducible refine gate_callee (f := 24) rfl ?_); refine goesL_ (some 10) rfl rfl Try.func24 (by kernel_rfl) rfl #[.int .i64 a1] rfl (by (try simp only [List.map_toArray, List.map_cons, List.map_nil]); first | done | rfl | (simp only [List.length_drop, List.length_take]; rfl)) ?_; (with_reducible refine (quarterdeckref02_nan.calls a1 true _ A4.out).mono ?_); rintro e w' ⟨rfl, ⟨nd, rfl⟩⟩; refine ⟨_, rfl, ?_⟩))
      go_ret
      exact ⟨by first | rfl | (simp; done) | (simp [*]; done), by repeat (first | exact Drawn0.refl _ | apply Drawn0.step)⟩
    · replace c6 := Bool.eq_false_iff.mpr c6
      subst c6
      have H1 : ((quarterdeckref02_place.f a0).bind fun t111 => ((quarterdeckref02_place.f a1).bind fun t112 => (some (decide (t111 < t112))))) = some r := by rw [if_neg (show ¬ (false = true) by decide)] at H; exact H
      clear H
      have H := H1
      clear H1
      replace H := Option.bind_eq_some_iff.mp H
      obtain ⟨t111, A70, H⟩ := H
      replace H : ((quarterdeckref02_place.f a1).bind fun t112 => (some (decide (t111 < t112)))) = some r := H
      have A7 := Aside0.mk A70
      clear A70
      replace H := Option.bind_eq_some_iff.mp H
      obtain ⟨t112, A80, H⟩ := H
      replace H : (some (decide (t111 < t112))) = some r := H
      have A8 := Aside0.mk A80
      clear A80
      obtain rfl := Option.some.inj H
      go_enter Try.func12, Try.ntmps12
      go_wp2_with (first | ((with_reducible refine gate_callee (f := 24) rfl ?_); refine goesL_ (some 8) rfl rfl Try.func24 (by kernel_rfl) rfl #[.int .i64 a0] rfl (by (try simp only [List.map_toArray, List.map_cons, List.map_nil]); first | done | rfl | (simp only [List.length_drop, List.length_take]; rfl)) ?_; (with_reducible refine (quarterdeckref02_nan.calls a0 false _ A3.out).mono ?_); rintro e w' ⟨rfl, ⟨nd, rfl⟩⟩; refine ⟨_, rfl, ?_⟩) | ((with_reducible refine gate_callee (f := 24) rfl ?_); refine goesL_ (some 10) rfl rfl Try.func24 (by kernel_rfl) rfl #[.int .i64 a1] rfl (by (try simp only [List.map_toArray, List.map_cons, List.map_nil]); first | done | rfl | (simp only [List.length_drop, List.length_take]; rfl)) ?_; (with_reducible refine (quarterdeckref02_nan.calls a1 false _ A4.out).mono ?_); rintro e w' ⟨rfl, ⟨nd, rfl⟩⟩; refine ⟨_, rfl, ?_⟩) | (go_at_call 25; (with_reducible refine (quarterdeckref02_place.calls a0 t111 _ A7.out).mono ?_); rintro e w' ⟨rfl, ⟨nd, rfl⟩⟩) | (go_at_call 25; (with_reducible refine (quarterdeckref02_place.calls a1 t112 _ A8.out).mono ?_); rintro e w' ⟨rfl, ⟨nd, rfl⟩⟩))
      go_ret
      exact ⟨by first | rfl | (simp; done) | (simp [*]; done), by repeat (first | exact Drawn0.refl _ | apply Drawn0.step)⟩

/-! ### quarterdecklaw02_RealBelow: function 3 -/
def quarterdecklaw02_RealBelow.f (a0 : Int) (a1 : Int) : Option (Bool) := (quarterdecklaw02_awake.f).bind fun t113 => ((quarterdeckref02_Below.f a0 a1).bind fun t114 => ((quarterdeckref02_Below.f a1 a0).bind fun t115 => (if t113 = true then ((real_Below.f a0 a1).bind fun t116 => (if (t116 == t114) = true then ((real_Below.f a1 a0).bind fun t117 => (some (t117 == t115))) else (some false))) else (some false))))
set_option maxHeartbeats 8000000 in
set_option maxRecDepth 100000 in
theorem quarterdecklaw02_RealBelow.calls (a0 : Int) (a1 : Int) (r : Bool) (w : World) (h : quarterdecklaw02_RealBelow.f a0 a1 = some r) :
    Calls Try.prog 3 #[.int .i64 a0, .int .i64 a1] w fun e w' => e = .returned (.bool r) ∧ Drawn0 w w' := by
  have H : ((quarterdecklaw02_awake.f).bind fun t113 => ((quarterdeckref02_Below.f a0 a1).bind fun t114 => ((quarterdeckref02_Below.f a1 a0).bind fun t115 => (if t113 = true then ((real_Below.f a0 a1).bind fun t116 => (if (t116 == t114) = true then ((real_Below.f a1 a0).bind fun t117 => (some (t117 == t115))) else (some false))) else (some false))))) = some r := h
  clear h
  replace H := Option.bind_eq_some_iff.mp H
  obtain ⟨t113, A30, H⟩ := H
  replace H : ((quarterdeckref02_Below.f a0 a1).bind fun t114 => ((quarterdeckref02_Below.f a1 a0).bind fun t115 => (if t113 = true then ((real_Below.f a0 a1).bind fun t116 => (if (t116 == t114) = true then ((real_Below.f a1 a0).bind fun t117 => (some (t117 == t115))) else (some false))) else (some false)))) = some r := H
  have A3 := Aside0.mk A30
  clear A30
  replace H := Option.bind_eq_some_iff.mp H
  obtain ⟨t114, A40, H⟩ := H
  replace H : ((quarterdeckref02_Below.f a1 a0).bind fun t115 => (if t113 = true then ((real_Below.f a0 a1).bind fun t116 => (if (t116 == t114) = true then ((real_Below.f a1 a0).bind fun t117 => (some (t117 == t115))) else (some false))) else (some false))) = some r := H
  have A4 := Aside0.mk A40
  clear A40
  replace H := Option.bind_eq_some_iff.mp H
  obtain ⟨t115, A50, H⟩ := H
  replace H : (if t113 = true then ((real_Below.f a0 a1).bind fun t116 => (if (t116 == t114) = true then ((real_Below.f a1 a0).bind fun t117 => (some (t117 == t115))) else (some false))) else (some false)) = some r := H
  have A5 := Aside0.mk A50
  clear A50
  by_cases c6 : t113 = true
  · subst c6
    have H1 : ((real_Below.f a0 a1).bind fun t116 => (if (t116 == t114) = true then ((real_Below.f a1 a0).bind fun t117 => (some (t117 == t115))) else (some false))) = some r := by rw [if_pos rfl] at H; exact H
    clear H
    have H := H1
    clear H1
    replace H := Option.bind_eq_some_iff.mp H
    obtain ⟨t116, A70, H⟩ := H
    replace H : (if (t116 == t114) = true then ((real_Below.f a1 a0).bind fun t117 => (some (t117 == t115))) else (some false)) = some r := H
    have A7 := Aside0.mk A70
    clear A70
    by_cases c8 : (t116 == t114) = true
    · rw [if_pos c8] at H
      have c8b0 : (t116 == t114) = true := c8
      (try (have c8b1 : decide (t116 = t114) = true := by simpa using c8))
      (try (have c8b2 : (t116 == t114) = true := by simpa using c8))
      clear c8
      replace H := Option.bind_eq_some_iff.mp H
      obtain ⟨t117, A90, H⟩ := H
      replace H : (some (t117 == t115)) = some r := H
      have A9 := Aside0.mk A90
      clear A90
      obtain rfl := Option.some.inj H
      go_enter Try.func3, Try.ntmps3
      go_wp2_with (first | ((with_reducible refine gate_callee (f := 11) rfl ?_); refine goesL_ (some 8) rfl rfl Try.func11 (by kernel_rfl) rfl #[] rfl (by (try simp only [List.map_toArray, List.map_cons, List.map_nil]); first | done | rfl | (simp only [List.length_drop, List.length_take]; rfl)) ?_; (with_reducible refine (quarterdecklaw02_awake.calls  true _ A3.out).mono ?_); rintro e w' ⟨rfl, ⟨nd, rfl⟩⟩; refine ⟨_, rfl, ?_⟩) | ((with_reducible refine gate_callee (f := 12) rfl ?_); refine goesL_ (some 11) rfl rfl Try.func12 (by kernel_rfl) rfl #[.int .i64 a0, .int .i64 a1] rfl (by (try simp only [List.map_toArray, List.map_cons, List.map_nil]); first | done | rfl | (simp only [List.length_drop, List.length_take]; rfl)) ?_; (with_reducible refine (quarterdeckref02_Below.calls a0 a1 t114 _ A4.out).mono ?_); rintro e w' ⟨rfl, ⟨nd, rfl⟩⟩; refine ⟨_, rfl, ?_⟩) | ((with_reducible refine gate_callee (f := 12) rfl ?_); refine goesL_ (some 14) rfl rfl Try.func12 (by kernel_rfl) rfl #[.int .i64 a1, .int .i64 a0] rfl (by (try simp only [List.map_toArray, List.map_cons, List.map_nil]); first | done | rfl | (simp only [List.length_drop, List.length_take]; rfl)) ?_; (with_reducible refine (quarterdeckref02_Below.calls a1 a0 t115 _ A5.out).mono ?_); rintro e w' ⟨rfl, ⟨nd, rfl⟩⟩; refine ⟨_, rfl, ?_⟩) | (go_at_call 13; (with_reducible refine (real_Below.calls a0 a1 t116 _ A7.out).mono ?_); rintro e w' ⟨rfl, ⟨nd, rfl⟩⟩) | (go_at_call 13; (with_reducible refine (real_Below.calls a1 a0 t117 _ A9.out).mono ?_); rintro e w' ⟨rfl, ⟨nd, rfl⟩⟩))
      go_ret
      exact ⟨by first | rfl | (simp; done) | (simp [*]; done), by repeat (first | exact Drawn0.refl _ | apply Drawn0.step)⟩
    · rw [if_neg c8] at H
      have c8b0 : (t116 == t114) = false := by simpa using c8
      (try (have c8b1 : decide (t116 = t114) = false := by simpa using c8))
      (try (have c8b2 : (t116 == t114) = false := by simpa using c8))
      (try (have c8b3 : ¬ (t116 = t114) := by simpa using c8))
      clear c8
      obtain rfl := Option.some.inj H
      go_enter Try.func3, Try.ntmps3
      go_wp2_with (first | ((with_reducible refine gate_callee (f := 11) rfl ?_); refine goesL_ (some 8) rfl rfl Try.func11 (by kernel_rfl) rfl #[] rfl (by (try simp only [List.map_toArray, List.map_cons, List.map_nil]); first | done | rfl | (simp only [List.length_drop, List.length_take]; rfl)) ?_; (with_reducible refine (quarterdecklaw02_awake.calls  true _ A3.out).mono ?_); rintro e w' ⟨rfl, ⟨nd, rfl⟩⟩; refine ⟨_, rfl, ?_⟩) | ((with_reducible refine gate_callee (f := 12) rfl ?_); refine goesL_ (some 11) rfl rfl Try.func12 (by kernel_rfl) rfl #[.int .i64 a0, .int .i64 a1] rfl (by (try simp only [List.map_toArray, List.map_cons, List.map_nil]); first | done | rfl | (simp only [List.length_drop, List.length_take]; rfl)) ?_; (with_reducible refine (quarterdeckref02_Below.calls a0 a1 t114 _ A4.out).mono ?_); rintro e w' ⟨rfl, ⟨nd, rfl⟩⟩; refine ⟨_, rfl, ?_⟩) | ((with_reducible refine gate_callee (f := 12) rfl ?_); refine goesL_ (some 14) rfl rfl Try.func12 (by kernel_rfl) rfl #[.int .i64 a1, .int .i64 a0] rfl (by (try simp only [List.map_toArray, List.map_cons, List.map_nil]); first | done | rfl | (simp only [List.length_drop, List.length_take]; rfl)) ?_; (with_reducible refine (quarterdeckref02_Below.calls a1 a0 t115 _ A5.out).mono ?_); rintro e w' ⟨rfl, ⟨nd, rfl⟩⟩; refine ⟨_, rfl, ?_⟩) | (go_at_call 13; (with_reducible refine (real_Below.calls a0 a1 t116 _ A7.out).mono ?_); rintro e w' ⟨rfl, ⟨nd, rfl⟩⟩))
      go_ret
      exact ⟨by first | rfl | (simp; done) | (simp [*]; done), by repeat (first | exact Drawn0.refl _ | apply Drawn0.step)⟩
  · replace c6 := Bool.eq_false_iff.mpr c6
    subst c6
    have H1 : (some false) = some r := by rw [if_neg (show ¬ (false = true) by decide)] at H; exact H
    clear H
    have H := H1
    clear H1
    obtain rfl := Option.some.inj H
    go_enter Try.func3, Try.ntmps3
    go_wp2_with (first | ((with_reducible refine gate_callee (f := 11) rfl ?_); refine goesL_ (some 8) rfl rfl Try.func11 (by kernel_rfl) rfl #[] rfl (by (try simp only [List.map_toArray, List.map_cons, List.map_nil]); first | done | rfl | (simp only [List.length_drop, List.length_take]; rfl)) ?_; (with_reducible refine (quarterdecklaw02_awake.calls  false _ A3.out).mono ?_); rintro e w' ⟨rfl, ⟨nd, rfl⟩⟩; refine ⟨_, rfl, ?_⟩) | ((with_reducible refine gate_callee (f := 12) rfl ?_); refine goesL_ (some 11) rfl rfl Try.func12 (by kernel_rfl) rfl #[.int .i64 a0, .int .i64 a1] rfl (by (try simp only [List.map_toArray, List.map_cons, List.map_nil]); first | done | rfl | (simp only [List.length_drop, List.length_take]; rfl)) ?_; (with_reducible refine (quarterdeckref02_Below.calls a0 a1 t114 _ A4.out).mono ?_); rintro e w' ⟨rfl, ⟨nd, rfl⟩⟩; refine ⟨_, rfl, ?_⟩) | ((with_reducible refine gate_callee (f := 12) rfl ?_); refine goesL_ (some 14) rfl rfl Try.func12 (by kernel_rfl) rfl #[.int .i64 a1, .int .i64 a0] rfl (by (try simp only [List.map_toArray, List.map_cons, List.map_nil]); first | done | rfl | (simp only [List.length_drop, List.length_take]; rfl)) ?_; (with_reducible refine (quarterdeckref02_Below.calls a1 a0 t115 _ A5.out).mono ?_); rintro e w' ⟨rfl, ⟨nd, rfl⟩⟩; refine ⟨_, rfl, ?_⟩))
    go_ret
    exact ⟨by first | rfl | (simp; done) | (simp [*]; done), by repeat (first | exact Drawn0.refl _ | apply Drawn0.step)⟩

/-- THE ONE PURE STATEMENT of quarterdecklaw02_RealBelow: yours. -/
def quarterdecklaw02_RealBelow.Pure : Prop := ∀ (a0 : Int) (a1 : Int), (Lit.int .i64 a0).wf = true → (Lit.int .i64 a1).wf = true → quarterdecklaw02_RealBelow.f a0 a1 = some true
theorem quarterdecklaw02_RealBelow.walk (P : quarterdecklaw02_RealBelow.Pure) (a0 : Int) (a1 : Int) (w : World) (w0 : (Lit.int .i64 a0).wf = true) (w1 : (Lit.int .i64 a1).wf = true) :
    Calls Try.prog 3 #[.int .i64 a0, .int .i64 a1] w fun e w' => e = .returned (.bool true) ∧ Below w.heap.size w w' := by
  have h := P a0 a1 w0 w1
  refine (quarterdecklaw02_RealBelow.calls a0 a1 true w h).mono ?_
  rintro e w' ⟨rfl, hd⟩
  exact ⟨rfl, hd.below⟩

/-! ### quarterdeckref02_none: function 28 -/
def quarterdeckref02_none.f  : Option (Int) := (quarterdeckref02_inf.f).bind fun t118 => (some (wrap64 (t118 + 2251799813685248)))
set_option maxHeartbeats 8000000 in
set_option maxRecDepth 100000 in
theorem quarterdeckref02_none.calls  (r : Int) (w : World) (h : quarterdeckref02_none.f  = some r) :
    Calls Try.prog 28 #[] w fun e w' => e = .returned (.int .i64 r) ∧ Drawn0 w w' := by
  have H : ((quarterdeckref02_inf.f).bind fun t118 => (some (wrap64 (t118 + 2251799813685248)))) = some r := h
  clear h
  replace H := Option.bind_eq_some_iff.mp H
  obtain ⟨t118, A10, H⟩ := H
  replace H : (some (wrap64 (t118 + 2251799813685248))) = some r := H
  have A1 := Aside0.mk A10
  clear A10
  obtain rfl := Option.some.inj H
  go_enter Try.func28, Try.ntmps28
  go_wp2_with (first | ((with_reducible refine gate_callee (f := 31) rfl ?_); refine goesL_ (some 1) rfl rfl Try.func31 (by kernel_rfl) rfl #[] rfl (by (try simp only [List.map_toArray, List.map_cons, List.map_nil]); first | done | rfl | (simp only [List.length_drop, List.length_take]; rfl)) ?_; (with_reducible refine (quarterdeckref02_inf.calls  t118 _ A1.out).mono ?_); rintro e w' ⟨rfl, ⟨nd, rfl⟩⟩; refine ⟨_, rfl, ?_⟩))
  go_ret
  exact ⟨by first | rfl | (simp; done) | (simp [*]; done), by repeat (first | exact Drawn0.refl _ | apply Drawn0.step)⟩

/-! ### quarterdeckref02_with: function 32 -/
def quarterdeckref02_with.f (a0 : Bool) (a1 : Int) : Option (Int) := if a0 = true then (some (wrap64 ((wrap64 (a1 - 4611686018427387904)) - 4611686018427387904))) else (some a1)
set_option maxHeartbeats 8000000 in
set_option maxRecDepth 100000 in
theorem quarterdeckref02_with.calls (a0 : Bool) (a1 : Int) (r : Int) (w : World) (h : quarterdeckref02_with.f a0 a1 = some r) :
    Calls Try.prog 32 #[.bool a0, .int .i64 a1] w fun e w' => e = .returned (.int .i64 r) ∧ Drawn0 w w' := by
  have H : (if a0 = true then (some (wrap64 ((wrap64 (a1 - 4611686018427387904)) - 4611686018427387904))) else (some a1)) = some r := h
  clear h
  by_cases c3 : a0 = true
  · subst c3
    have H1 : (some (wrap64 ((wrap64 (a1 - 4611686018427387904)) - 4611686018427387904))) = some r := by rw [if_pos rfl] at H; exact H
    clear H
    have H := H1
    clear H1
    obtain rfl := Option.some.inj H
    go_enter Try.func32, Try.ntmps32
    go_wp2
    go_ret
    exact ⟨by first | rfl | (simp; done) | (simp [*]; done), by repeat (first | exact Drawn0.refl _ | apply Drawn0.step)⟩
  · replace c3 := Bool.eq_false_iff.mpr c3
    subst c3
    have H1 : (some a1) = some r := by rw [if_neg (show ¬ (false = true) by decide)] at H; exact H
    clear H
    have H := H1
    clear H1
    obtain rfl := Option.some.inj H
    go_enter Try.func32, Try.ntmps32
    go_wp2
    go_ret
    exact ⟨by first | rfl | (simp; done) | (simp [*]; done), by repeat (first | exact Drawn0.refl _ | apply Drawn0.step)⟩

/-! ### quarterdeckref02_Half: function 15 -/
def quarterdeckref02_Half.f (a0 : Int) : Option (Int) := (quarterdeckref02_nan.f a0).bind fun t119 => (if t119 = true then ((quarterdeckref02_none.f).bind fun t120 => (some t120)) else ((quarterdeckref02_rest.f a0).bind fun t121 => ((quarterdeckref02_sign.f a0).bind fun t122 => ((quarterdeckref02_inf.f).bind fun t123 => (if t121 = t123 then (some a0) else (if (t121 / 4503599627370496) > 1 then ((quarterdeckref02_with.f t122 (wrap64 (t121 - 4503599627370496))).bind fun t124 => (some t124)) else (if (Int.tmod t121 2) = 1 then (if (Int.tmod (wrap64 (Int.tdiv t121 2)) 2) = 1 then ((quarterdeckref02_with.f t122 (wrap64 ((wrap64 (Int.tdiv t121 2)) + 1))).bind fun t125 => (some t125)) else ((quarterdeckref02_with.f t122 (wrap64 (Int.tdiv t121 2))).bind fun t126 => (some t126))) else ((quarterdeckref02_with.f t122 (wrap64 (Int.tdiv t121 2))).bind fun t127 => (some t127)))))))))
set_option maxHeartbeats 8000000 in
set_option maxRecDepth 100000 in
theorem quarterdeckref02_Half.calls (a0 : Int) (r : Int) (w : World) (h : quarterdeckref02_Half.f a0 = some r) :
    Calls Try.prog 15 #[.int .i64 a0] w fun e w' => e = .returned (.int .i64 r) ∧ Drawn0 w w' := by
  have H : ((quarterdeckref02_nan.f a0).bind fun t119 => (if t119 = true then ((quarterdeckref02_none.f).bind fun t120 => (some t120)) else ((quarterdeckref02_rest.f a0).bind fun t121 => ((quarterdeckref02_sign.f a0).bind fun t122 => ((quarterdeckref02_inf.f).bind fun t123 => (if t121 = t123 then (some a0) else (if (t121 / 4503599627370496) > 1 then ((quarterdeckref02_with.f t122 (wrap64 (t121 - 4503599627370496))).bind fun t124 => (some t124)) else (if (Int.tmod t121 2) = 1 then (if (Int.tmod (wrap64 (Int.tdiv t121 2)) 2) = 1 then ((quarterdeckref02_with.f t122 (wrap64 ((wrap64 (Int.tdiv t121 2)) + 1))).bind fun t125 => (some t125)) else ((quarterdeckref02_with.f t122 (wrap64 (Int.tdiv t121 2))).bind fun t126 => (some t126))) else ((quarterdeckref02_with.f t122 (wrap64 (Int.tdiv t121 2))).bind fun t127 => (some t127)))))))))) = some r := h
  clear h
  replace H := Option.bind_eq_some_iff.mp H
  obtain ⟨t119, A20, H⟩ := H
  replace H : (if t119 = true then ((quarterdeckref02_none.f).bind fun t120 => (some t120)) else ((quarterdeckref02_rest.f a0).bind fun t121 => ((quarterdeckref02_sign.f a0).bind fun t122 => ((quarterdeckref02_inf.f).bind fun t123 => (if t121 = t123 then (some a0) else (if (t121 / 4503599627370496) > 1 then ((quarterdeckref02_with.f t122 (wrap64 (t121 - 4503599627370496))).bind fun t124 => (some t124)) else (if (Int.tmod t121 2) = 1 then (if (Int.tmod (wrap64 (Int.tdiv t121 2)) 2) = 1 then ((quarterdeckref02_with.f t122 (wrap64 ((wrap64 (Int.tdiv t121 2)) + 1))).bind fun t125 => (some t125)) else ((quarterdeckref02_with.f t122 (wrap64 (Int.tdiv t121 2))).bind fun t126 => (some t126))) else ((quarterdeckref02_with.f t122 (wrap64 (Int.tdiv t121 2))).bind fun t127 => (some t127))))))))) = some r := H
  have A2 := Aside0.mk A20
  clear A20
  by_cases c3 : t119 = true
  · subst c3
    have H1 : ((quarterdeckref02_none.f).bind fun t120 => (some t120)) = some r := by rw [if_pos rfl] at H; exact H
    clear H
    have H := H1
    clear H1
    replace H := Option.bind_eq_some_iff.mp H
    obtain ⟨t120, A40, H⟩ := H
    replace H : (some t120) = some r := H
    have A4 := Aside0.mk A40
    clear A40
    obtain rfl := Option.some.inj H
    go_enter Try.func15, Try.ntmps15
    go_wp2_with (first | ((with_reducible refine gate_callee (f := 24) rfl ?_); refine goesL_ (some 8) rfl rfl Try.func24 (by kernel_rfl) rfl #[.int .i64 a0] rfl (by (try simp only [List.map_toArray, List.map_cons, List.map_nil]); first | done | rfl | (simp only [List.length_drop, List.length_take]; rfl)) ?_; (with_reducible refine (quarterdeckref02_nan.calls a0 true _ A2.out).mono ?_); rintro e w' ⟨rfl, ⟨nd, rfl⟩⟩; refine ⟨_, rfl, ?_⟩) | ((with_reducible refine gate_callee (f := 28) rfl ?_); refine goesL_ (some 10) rfl rfl Try.func28 (by kernel_rfl) rfl #[] rfl (by (try simp only [List.map_toArray, List.map_cons, List.map_nil]); first | done | rfl | (simp only [List.length_drop, List.length_take]; rfl)) ?_; (with_reducible refine (quarterdeckref02_none.calls  t120 _ A4.out).mono ?_); rintro e w' ⟨rfl, ⟨nd, rfl⟩⟩; refine ⟨_, rfl, ?_⟩))
    go_ret
    exact ⟨by first | rfl | (simp; done) | (simp [*]; done), by repeat (first | exact Drawn0.refl _ | apply Drawn0.step)⟩
  · replace c3 := Bool.eq_false_iff.mpr c3
    subst c3
    have H1 : ((quarterdeckref02_rest.f a0).bind fun t121 => ((quarterdeckref02_sign.f a0).bind fun t122 => ((quarterdeckref02_inf.f).bind fun t123 => (if t121 = t123 then (some a0) else (if (t121 / 4503599627370496) > 1 then ((quarterdeckref02_with.f t122 (wrap64 (t121 - 4503599627370496))).bind fun t124 => (some t124)) else (if (Int.tmod t121 2) = 1 then (if (Int.tmod (wrap64 (Int.tdiv t121 2)) 2) = 1 then ((quarterdeckref02_with.f t122 (wrap64 ((wrap64 (Int.tdiv t121 2)) + 1))).bind fun t125 => (some t125)) else ((quarterdeckref02_with.f t122 (wrap64 (Int.tdiv t121 2))).bind fun t126 => (some t126))) else ((quarterdeckref02_with.f t122 (wrap64 (Int.tdiv t121 2))).bind fun t127 => (some t127)))))))) = some r := by rw [if_neg (show ¬ (false = true) by decide)] at H; exact H
    clear H
    have H := H1
    clear H1
    replace H := Option.bind_eq_some_iff.mp H
    obtain ⟨t121, A50, H⟩ := H
    replace H : ((quarterdeckref02_sign.f a0).bind fun t122 => ((quarterdeckref02_inf.f).bind fun t123 => (if t121 = t123 then (some a0) else (if (t121 / 4503599627370496) > 1 then ((quarterdeckref02_with.f t122 (wrap64 (t121 - 4503599627370496))).bind fun t124 => (some t124)) else (if (Int.tmod t121 2) = 1 then (if (Int.tmod (wrap64 (Int.tdiv t121 2)) 2) = 1 then ((quarterdeckref02_with.f t122 (wrap64 ((wrap64 (Int.tdiv t121 2)) + 1))).bind fun t125 => (some t125)) else ((quarterdeckref02_with.f t122 (wrap64 (Int.tdiv t121 2))).bind fun t126 => (some t126))) else ((quarterdeckref02_with.f t122 (wrap64 (Int.tdiv t121 2))).bind fun t127 => (some t127))))))) = some r := H
    have A5 := Aside0.mk A50
    clear A50
    replace H := Option.bind_eq_some_iff.mp H
    obtain ⟨t122, A60, H⟩ := H
    replace H : ((quarterdeckref02_inf.f).bind fun t123 => (if t121 = t123 then (some a0) else (if (t121 / 4503599627370496) > 1 then ((quarterdeckref02_with.f t122 (wrap64 (t121 - 4503599627370496))).bind fun t124 => (some t124)) else (if (Int.tmod t121 2) = 1 then (if (Int.tmod (wrap64 (Int.tdiv t121 2)) 2) = 1 then ((quarterdeckref02_with.f t122 (wrap64 ((wrap64 (Int.tdiv t121 2)) + 1))).bind fun t125 => (some t125)) else ((quarterdeckref02_with.f t122 (wrap64 (Int.tdiv t121 2))).bind fun t126 => (some t126))) else ((quarterdeckref02_with.f t122 (wrap64 (Int.tdiv t121 2))).bind fun t127 => (some t127)))))) = some r := H
    have A6 := Aside0.mk A60
    clear A60
    replace H := Option.bind_eq_some_iff.mp H
    obtain ⟨t123, A70, H⟩ := H
    replace H : (if t121 = t123 then (some a0) else (if (t121 / 4503599627370496) > 1 then ((quarterdeckref02_with.f t122 (wrap64 (t121 - 4503599627370496))).bind fun t124 => (some t124)) else (if (Int.tmod t121 2) = 1 then (if (Int.tmod (wrap64 (Int.tdiv t121 2)) 2) = 1 then ((quarterdeckref02_with.f t122 (wrap64 ((wrap64 (Int.tdiv t121 2)) + 1))).bind fun t125 => (some t125)) else ((quarterdeckref02_with.f t122 (wrap64 (Int.tdiv t121 2))).bind fun t126 => (some t126))) else ((quarterdeckref02_with.f t122 (wrap64 (Int.tdiv t121 2))).bind fun t127 => (some t127))))) = some r := H
    have A7 := Aside0.mk A70
    clear A70
    by_cases c8 : t121 = t123
    · rw [if_pos c8] at H
      have c8b0 : (t121 == t123) = true := beq_iff_eq.mpr c8
      have c8b1 : (t121 != t123) = false := bne_eq_false_iff_eq.mpr c8
      clear c8
      obtain rfl := Option.some.inj H
      go_enter Try.func15, Try.ntmps15
      go_wp2_with (first | ((with_reducible refine gate_callee (f := 24) rfl ?_); refine goesL_ (some 8) rfl rfl Try.func24 (by kernel_rfl) rfl #[.int .i64 a0] rfl (by (try simp only [List.map_toArray, List.map_cons, List.map_nil]); first | done | rfl | (simp only [List.length_drop, List.length_take]; rfl)) ?_; (with_reducible refine (quarterdeckref02_nan.calls a0 false _ A2.out).mono ?_); rintro e w' ⟨rfl, ⟨nd, rfl⟩⟩; refine ⟨_, rfl, ?_⟩) | ((with_reducible refine gate_callee (f := 29) rfl ?_); refine goesL_ (some 12) rfl rfl Try.func29 (by kernel_rfl) rfl #[.int .i64 a0] rfl (by (try simp only [List.map_toArray, List.map_cons, List.map_nil]); first | done | rfl | (simp only [List.length_drop, List.length_take]; rfl)) ?_; (with_reducible refine (quarterdeckref02_rest.calls a0 t121 _ A5.out).mono ?_); rintro e w' ⟨rfl, ⟨nd, rfl⟩⟩; refine ⟨_, rfl, ?_⟩) | ((with_reducible refine gate_callee (f := 30) rfl ?_); refine goesL_ (some 14) rfl rfl Try.func30 (by kernel_rfl) rfl #[.int .i64 a0] rfl (by (try simp only [List.map_toArray, List.map_cons, List.map_nil]); first | done | rfl | (simp only [List.length_drop, List.length_take]; rfl)) ?_; (with_reducible refine (quarterdeckref02_sign.calls a0 t122 _ A6.out).mono ?_); rintro e w' ⟨rfl, ⟨nd, rfl⟩⟩; refine ⟨_, rfl, ?_⟩) | ((with_reducible refine gate_callee (f := 31) rfl ?_); refine goesL_ (some 16) rfl rfl Try.func31 (by kernel_rfl) rfl #[] rfl (by (try simp only [List.map_toArray, List.map_cons, List.map_nil]); first | done | rfl | (simp only [List.length_drop, List.length_take]; rfl)) ?_; (with_reducible refine (quarterdeckref02_inf.calls  t123 _ A7.out).mono ?_); rintro e w' ⟨rfl, ⟨nd, rfl⟩⟩; refine ⟨_, rfl, ?_⟩))
      go_ret
      exact ⟨by first | rfl | (simp; done) | (simp [*]; done), by repeat (first | exact Drawn0.refl _ | apply Drawn0.step)⟩
    · rw [if_neg c8] at H
      have c8b0 : (t121 == t123) = false := beq_eq_false_iff_ne.mpr c8
      have c8b1 : (t121 != t123) = true := bne_iff_ne.mpr c8
      by_cases c9 : (t121 / 4503599627370496) > 1
      · rw [if_pos c9] at H
        have c9b0 : decide (1 < (t121 / 4503599627370496)) = true := decide_eq_true c9
        clear c9
        replace H := Option.bind_eq_some_iff.mp H
        obtain ⟨t124, A100, H⟩ := H
        replace H : (some t124) = some r := H
        have A10 := Aside0.mk A100
        clear A100
        obtain rfl := Option.some.inj H
        go_enter Try.func15, Try.ntmps15
        go_wp2_with (first | ((with_reducible refine gate_callee (f := 24) rfl ?_); refine goesL_ (some 8) rfl rfl Try.func24 (by kernel_rfl) rfl #[.int .i64 a0] rfl (by (try simp only [List.map_toArray, List.map_cons, List.map_nil]); first | done | rfl | (simp only [List.length_drop, List.length_take]; rfl)) ?_; (with_reducible refine (quarterdeckref02_nan.calls a0 false _ A2.out).mono ?_); rintro e w' ⟨rfl, ⟨nd, rfl⟩⟩; refine ⟨_, rfl, ?_⟩) | ((with_reducible refine gate_callee (f := 29) rfl ?_); refine goesL_ (some 12) rfl rfl Try.func29 (by kernel_rfl) rfl #[.int .i64 a0] rfl (by (try simp only [List.map_toArray, List.map_cons, List.map_nil]); first | done | rfl | (simp only [List.length_drop, List.length_take]; rfl)) ?_; (with_reducible refine (quarterdeckref02_rest.calls a0 t121 _ A5.out).mono ?_); rintro e w' ⟨rfl, ⟨nd, rfl⟩⟩; refine ⟨_, rfl, ?_⟩) | ((with_reducible refine gate_callee (f := 30) rfl ?_); refine goesL_ (some 14) rfl rfl Try.func30 (by kernel_rfl) rfl #[.int .i64 a0] rfl (by (try simp only [List.map_toArray, List.map_cons, List.map_nil]); first | done | rfl | (simp only [List.length_drop, List.length_take]; rfl)) ?_; (with_reducible refine (quarterdeckref02_sign.calls a0 t122 _ A6.out).mono ?_); rintro e w' ⟨rfl, ⟨nd, rfl⟩⟩; refine ⟨_, rfl, ?_⟩) | ((with_reducible refine gate_callee (f := 31) rfl ?_); refine goesL_ (some 16) rfl rfl Try.func31 (by kernel_rfl) rfl #[] rfl (by (try simp only [List.map_toArray, List.map_cons, List.map_nil]); first | done | rfl | (simp only [List.length_drop, List.length_take]; rfl)) ?_; (with_reducible refine (quarterdeckref02_inf.calls  t123 _ A7.out).mono ?_); rintro e w' ⟨rfl, ⟨nd, rfl⟩⟩; refine ⟨_, rfl, ?_⟩) | ((with_reducible refine gate_callee (f := 32) rfl ?_); refine goesL_ (some 25) rfl rfl Try.func32 (by kernel_rfl) rfl #[.bool t122, .int .i64 (wrap64 (t121 - 4503599627370496))] rfl (by (try simp only [List.map_toArray, List.map_cons, List.map_nil]); first | done | rfl | (simp only [List.length_drop, List.length_take]; rfl)) ?_; (with_reducible refine (quarterdeckref02_with.calls t122 (wrap64 (t121 - 4503599627370496)) t124 _ A10.out).mono ?_); rintro e w' ⟨rfl, ⟨nd, rfl⟩⟩; refine ⟨_, rfl, ?_⟩))
        go_ret
        exact ⟨by first | rfl | (simp; done) | (simp [*]; done), by repeat (first | exact Drawn0.refl _ | apply Drawn0.step)⟩
      · rw [if_neg c9] at H
        have c9b0 : decide (1 < (t121 / 4503599627370496)) = false := decide_eq_false c9
        clear c9
        by_cases c11 : (Int.tmod t121 2) = 1
        · rw [if_pos c11] at H
          have c11b0 : ((Int.tmod t121 2) == 1) = true := beq_iff_eq.mpr c11
          have c11b1 : ((Int.tmod t121 2) != 1) = false := bne_eq_false_iff_eq.mpr c11
          clear c11
          by_cases c12 : (Int.tmod (wrap64 (Int.tdiv t121 2)) 2) = 1
          · rw [if_pos c12] at H
            have c12b0 : ((Int.tmod (wrap64 (Int.tdiv t121 2)) 2) == 1) = true := beq_iff_eq.mpr c12
            have c12b1 : ((Int.tmod (wrap64 (Int.tdiv t121 2)) 2) != 1) = false := bne_eq_false_iff_eq.mpr c12
            clear c12
            replace H := Option.bind_eq_some_iff.mp H
            obtain ⟨t125, A130, H⟩ := H
            replace H : (some t125) = some r := H
            have A13 := Aside0.mk A130
            clear A130
            obtain rfl := Option.some.inj H
            go_enter Try.func15, Try.ntmps15
            go_wp2_with (first | ((with_reducible refine gate_callee (f := 24) rfl ?_); refine goesL_ (some 8) rfl rfl Try.func24 (by kernel_rfl) rfl #[.int .i64 a0] rfl (by (try simp only [List.map_toArray, List.map_cons, List.map_nil]); first | done | rfl | (simp only [List.length_drop, List.length_take]; rfl)) ?_; (with_reducible refine (quarterdeckref02_nan.calls a0 false _ A2.out).mono ?_); rintro e w' ⟨rfl, ⟨nd, rfl⟩⟩; refine ⟨_, rfl, ?_⟩) | ((with_reducible refine gate_callee (f := 29) rfl ?_); refine goesL_ (some 12) rfl rfl Try.func29 (by kernel_rfl) rfl #[.int .i64 a0] rfl (by (try simp only [List.map_toArray, List.map_cons, List.map_nil]); first | done | rfl | (simp only [List.length_drop, List.length_take]; rfl)) ?_; (with_reducible refine (quarterdeckref02_rest.calls a0 t121 _ A5.out).mono ?_); rintro e w' ⟨rfl, ⟨nd, rfl⟩⟩; refine ⟨_, rfl, ?_⟩) | ((with_reducible refine gate_callee (f := 30) rfl ?_); refine goesL_ (some 14) rfl rfl Try.func30 (by kernel_rfl) rfl #[.int .i64 a0] rfl (by (try simp only [List.map_toArray, List.map_cons, List.map_nil]); first | done | rfl | (simp only [List.length_drop, List.length_take]; rfl)) ?_; (with_reducible refine (quarterdeckref02_sign.calls a0 t122 _ A6.out).mono ?_); rintro e w' ⟨rfl, ⟨nd, rfl⟩⟩; refine ⟨_, rfl, ?_⟩) | ((with_reducible refine gate_callee (f := 31) rfl ?_); refine goesL_ (some 16) rfl rfl Try.func31 (by kernel_rfl) rfl #[] rfl (by (try simp only [List.map_toArray, List.map_cons, List.map_nil]); first | done | rfl | (simp only [List.length_drop, List.length_take]; rfl)) ?_; (with_reducible refine (quarterdeckref02_inf.calls  t123 _ A7.out).mono ?_); rintro e w' ⟨rfl, ⟨nd, rfl⟩⟩; refine ⟨_, rfl, ?_⟩) | ((with_reducible refine gate_callee (f := 32) rfl ?_); refine goesL_ (some 40) rfl rfl Try.func32 (by kernel_rfl) rfl #[.bool t122, .int .i64 (wrap64 ((wrap64 (Int.tdiv t121 2)) + 1))] rfl (by (try simp only [List.map_toArray, List.map_cons, List.map_nil]); first | done | rfl | (simp only [List.length_drop, List.length_take]; rfl)) ?_; (with_reducible refine (quarterdeckref02_with.calls t122 (wrap64 ((wrap64 (Int.tdiv t121 2)) + 1)) t125 _ A13.out).mono ?_); rintro e w' ⟨rfl, ⟨nd, rfl⟩⟩; refine ⟨_, rfl, ?_⟩))
            go_ret
            exact ⟨by first | rfl | (simp; done) | (simp [*]; done), by repeat (first | exact Drawn0.refl _ | apply Drawn0.step)⟩
          · rw [if_neg c12] at H
            have c12b0 : ((Int.tmod (wrap64 (Int.tdiv t121 2)) 2) == 1) = false := beq_eq_false_iff_ne.mpr c12
            have c12b1 : ((Int.tmod (wrap64 (Int.tdiv t121 2)) 2) != 1) = true := bne_iff_ne.mpr c12
            replace H := Option.bind_eq_some_iff.mp H
            obtain ⟨t126, A140, H⟩ := H
            replace H : (some t126) = some r := H
            have A14 := Aside0.mk A140
            clear A140
            obtain rfl := Option.some.inj H
            go_enter Try.func15, Try.ntmps15
            go_wp2_with (first | ((with_reducible refine gate_callee (f := 24) rfl ?_); refine goesL_ (some 8) rfl rfl Try.func24 (by kernel_rfl) rfl #[.int .i64 a0] rfl (by (try simp only [List.map_toArray, List.map_cons, List.map_nil]); first | done | rfl | (simp only [List.length_drop, List.length_take]; rfl)) ?_; (with_reducible refine (quarterdeckref02_nan.calls a0 false _ A2.out).mono ?_); rintro e w' ⟨rfl, ⟨nd, rfl⟩⟩; refine ⟨_, rfl, ?_⟩) | ((with_reducible refine gate_callee (f := 29) rfl ?_); refine goesL_ (some 12) rfl rfl Try.func29 (by kernel_rfl) rfl #[.int .i64 a0] rfl (by (try simp only [List.map_toArray, List.map_cons, List.map_nil]); first | done | rfl | (simp only [List.length_drop, List.length_take]; rfl)) ?_; (with_reducible refine (quarterdeckref02_rest.calls a0 t121 _ A5.out).mono ?_); rintro e w' ⟨rfl, ⟨nd, rfl⟩⟩; refine ⟨_, rfl, ?_⟩) | ((with_reducible refine gate_callee (f := 30) rfl ?_); refine goesL_ (some 14) rfl rfl Try.func30 (by kernel_rfl) rfl #[.int .i64 a0] rfl (by (try simp only [List.map_toArray, List.map_cons, List.map_nil]); first | done | rfl | (simp only [List.length_drop, List.length_take]; rfl)) ?_; (with_reducible refine (quarterdeckref02_sign.calls a0 t122 _ A6.out).mono ?_); rintro e w' ⟨rfl, ⟨nd, rfl⟩⟩; refine ⟨_, rfl, ?_⟩) | ((with_reducible refine gate_callee (f := 31) rfl ?_); refine goesL_ (some 16) rfl rfl Try.func31 (by kernel_rfl) rfl #[] rfl (by (try simp only [List.map_toArray, List.map_cons, List.map_nil]); first | done | rfl | (simp only [List.length_drop, List.length_take]; rfl)) ?_; (with_reducible refine (quarterdeckref02_inf.calls  t123 _ A7.out).mono ?_); rintro e w' ⟨rfl, ⟨nd, rfl⟩⟩; refine ⟨_, rfl, ?_⟩) | ((with_reducible refine gate_callee (f := 32) rfl ?_); refine goesL_ (some 40) rfl rfl Try.func32 (by kernel_rfl) rfl #[.bool t122, .int .i64 (wrap64 (Int.tdiv t121 2))] rfl (by (try simp only [List.map_toArray, List.map_cons, List.map_nil]); first | done | rfl | (simp only [List.length_drop, List.length_take]; rfl)) ?_; (with_reducible refine (quarterdeckref02_with.calls t122 (wrap64 (Int.tdiv t121 2)) t126 _ A14.out).mono ?_); rintro e w' ⟨rfl, ⟨nd, rfl⟩⟩; refine ⟨_, rfl, ?_⟩))
            go_ret
            exact ⟨by first | rfl | (simp; done) | (simp [*]; done), by repeat (first | exact Drawn0.refl _ | apply Drawn0.step)⟩
        · rw [if_neg c11] at H
          have c11b0 : ((Int.tmod t121 2) == 1) = false := beq_eq_false_iff_ne.mpr c11
          have c11b1 : ((Int.tmod t121 2) != 1) = true := bne_iff_ne.mpr c11
          replace H := Option.bind_eq_some_iff.mp H
          obtain ⟨t127, A150, H⟩ := H
          replace H : (some t127) = some r := H
          have A15 := Aside0.mk A150
          clear A150
          obtain rfl := Option.some.inj H
          go_enter Try.func15, Try.ntmps15
          go_wp2_with (first | ((with_reducible refine gate_callee (f := 24) rfl ?_); refine goesL_ (some 8) rfl rfl Try.func24 (by kernel_rfl) rfl #[.int .i64 a0] rfl (by (try simp only [List.map_toArray, List.map_cons, List.map_nil]); first | done | rfl | (simp only [List.length_drop, List.length_take]; rfl)) ?_; (with_reducible refine (quarterdeckref02_nan.calls a0 false _ A2.out).mono ?_); rintro e w' ⟨rfl, ⟨nd, rfl⟩⟩; refine ⟨_, rfl, ?_⟩) | ((with_reducible refine gate_callee (f := 29) rfl ?_); refine goesL_ (some 12) rfl rfl Try.func29 (by kernel_rfl) rfl #[.int .i64 a0] rfl (by (try simp only [List.map_toArray, List.map_cons, List.map_nil]); first | done | rfl | (simp only [List.length_drop, List.length_take]; rfl)) ?_; (with_reducible refine (quarterdeckref02_rest.calls a0 t121 _ A5.out).mono ?_); rintro e w' ⟨rfl, ⟨nd, rfl⟩⟩; refine ⟨_, rfl, ?_⟩) | ((with_reducible refine gate_callee (f := 30) rfl ?_); refine goesL_ (some 14) rfl rfl Try.func30 (by kernel_rfl) rfl #[.int .i64 a0] rfl (by (try simp only [List.map_toArray, List.map_cons, List.map_nil]); first | done | rfl | (simp only [List.length_drop, List.length_take]; rfl)) ?_; (with_reducible refine (quarterdeckref02_sign.calls a0 t122 _ A6.out).mono ?_); rintro e w' ⟨rfl, ⟨nd, rfl⟩⟩; refine ⟨_, rfl, ?_⟩) | ((with_reducible refine gate_callee (f := 31) rfl ?_); refine goesL_ (some 16) rfl rfl Try.func31 (by kernel_rfl) rfl #[] rfl (by (try simp only [List.map_toArray, List.map_cons, List.map_nil]); first | done | rfl | (simp only [List.length_drop, List.length_take]; rfl)) ?_; (with_reducible refine (quarterdeckref02_inf.calls  t123 _ A7.out).mono ?_); rintro e w' ⟨rfl, ⟨nd, rfl⟩⟩; refine ⟨_, rfl, ?_⟩) | ((with_reducible refine gate_callee (f := 32) rfl ?_); refine goesL_ (some 40) rfl rfl Try.func32 (by kernel_rfl) rfl #[.bool t122, .int .i64 (wrap64 (Int.tdiv t121 2))] rfl (by (try simp only [List.map_toArray, List.map_cons, List.map_nil]); first | done | rfl | (simp only [List.length_drop, List.length_take]; rfl)) ?_; (with_reducible refine (quarterdeckref02_with.calls t122 (wrap64 (Int.tdiv t121 2)) t127 _ A15.out).mono ?_); rintro e w' ⟨rfl, ⟨nd, rfl⟩⟩; refine ⟨_, rfl, ?_⟩))
          go_ret
          exact ⟨by first | rfl | (simp; done) | (simp [*]; done), by repeat (first | exact Drawn0.refl _ | apply Drawn0.step)⟩

/-! ### quarterdeckref02_Twice: function 17 -/
def quarterdeckref02_Twice.f (a0 : Int) : Option (Int) := (quarterdeckref02_nan.f a0).bind fun t128 => (if t128 = true then ((quarterdeckref02_none.f).bind fun t129 => (some t129)) else ((quarterdeckref02_rest.f a0).bind fun t130 => ((quarterdeckref02_sign.f a0).bind fun t131 => ((quarterdeckref02_inf.f).bind fun t132 => (if t130 = t132 then (some a0) else (if (t130 / 4503599627370496) = 0 then ((quarterdeckref02_with.f t131 (wrap64 (2 * t130))).bind fun t133 => (some t133)) else ((quarterdeckref02_inf.f).bind fun t134 => (if (wrap64 (t130 + 4503599627370496)) > t134 then ((quarterdeckref02_inf.f).bind fun t135 => ((quarterdeckref02_with.f t131 t135).bind fun t136 => (some t136))) else ((quarterdeckref02_with.f t131 (wrap64 (t130 + 4503599627370496))).bind fun t137 => (some t137))))))))))
set_option maxHeartbeats 8000000 in
set_option maxRecDepth 100000 in
theorem quarterdeckref02_Twice.calls (a0 : Int) (r : Int) (w : World) (h : quarterdeckref02_Twice.f a0 = some r) :
    Calls Try.prog 17 #[.int .i64 a0] w fun e w' => e = .returned (.int .i64 r) ∧ Drawn0 w w' := by
  have H : ((quarterdeckref02_nan.f a0).bind fun t128 => (if t128 = true then ((quarterdeckref02_none.f).bind fun t129 => (some t129)) else ((quarterdeckref02_rest.f a0).bind fun t130 => ((quarterdeckref02_sign.f a0).bind fun t131 => ((quarterdeckref02_inf.f).bind fun t132 => (if t130 = t132 then (some a0) else (if (t130 / 4503599627370496) = 0 then ((quarterdeckref02_with.f t131 (wrap64 (2 * t130))).bind fun t133 => (some t133)) else ((quarterdeckref02_inf.f).bind fun t134 => (if (wrap64 (t130 + 4503599627370496)) > t134 then ((quarterdeckref02_inf.f).bind fun t135 => ((quarterdeckref02_with.f t131 t135).bind fun t136 => (some t136))) else ((quarterdeckref02_with.f t131 (wrap64 (t130 + 4503599627370496))).bind fun t137 => (some t137))))))))))) = some r := h
  clear h
  replace H := Option.bind_eq_some_iff.mp H
  obtain ⟨t128, A20, H⟩ := H
  replace H : (if t128 = true then ((quarterdeckref02_none.f).bind fun t129 => (some t129)) else ((quarterdeckref02_rest.f a0).bind fun t130 => ((quarterdeckref02_sign.f a0).bind fun t131 => ((quarterdeckref02_inf.f).bind fun t132 => (if t130 = t132 then (some a0) else (if (t130 / 4503599627370496) = 0 then ((quarterdeckref02_with.f t131 (wrap64 (2 * t130))).bind fun t133 => (some t133)) else ((quarterdeckref02_inf.f).bind fun t134 => (if (wrap64 (t130 + 4503599627370496)) > t134 then ((quarterdeckref02_inf.f).bind fun t135 => ((quarterdeckref02_with.f t131 t135).bind fun t136 => (some t136))) else ((quarterdeckref02_with.f t131 (wrap64 (t130 + 4503599627370496))).bind fun t137 => (some t137)))))))))) = some r := H
  have A2 := Aside0.mk A20
  clear A20
  by_cases c3 : t128 = true
  · subst c3
    have H1 : ((quarterdeckref02_none.f).bind fun t129 => (some t129)) = some r := by rw [if_pos rfl] at H; exact H
    clear H
    have H := H1
    clear H1
    replace H := Option.bind_eq_some_iff.mp H
    obtain ⟨t129, A40, H⟩ := H
    replace H : (some t129) = some r := H
    have A4 := Aside0.mk A40
    clear A40
    obtain rfl := Option.some.inj H
    go_enter Try.func17, Try.ntmps17
    go_wp2_with (first | ((with_reducible refine gate_callee (f := 24) rfl ?_); refine goesL_ (some 7) rfl rfl Try.func24 (by kernel_rfl) rfl #[.int .i64 a0] rfl (by (try simp only [List.map_toArray, List.map_cons, List.map_nil]); first | done | rfl | (simp only [List.length_drop, List.length_take]; rfl)) ?_; (with_reducible refine (quarterdeckref02_nan.calls a0 true _ A2.out).mono ?_); rintro e w' ⟨rfl, ⟨nd, rfl⟩⟩; refine ⟨_, rfl, ?_⟩) | ((with_reducible refine gate_callee (f := 28) rfl ?_); refine goesL_ (some 9) rfl rfl Try.func28 (by kernel_rfl) rfl #[] rfl (by (try simp only [List.map_toArray, List.map_cons, List.map_nil]); first | done | rfl | (simp only [List.length_drop, List.length_take]; rfl)) ?_; (with_reducible refine (quarterdeckref02_none.calls  t129 _ A4.out).mono ?_); rintro e w' ⟨rfl, ⟨nd, rfl⟩⟩; refine ⟨_, rfl, ?_⟩))
    go_ret
    exact ⟨by first | rfl | (simp; done) | (simp [*]; done), by repeat (first | exact Drawn0.refl _ | apply Drawn0.step)⟩
  · replace c3 := Bool.eq_false_iff.mpr c3
    subst c3
    have H1 : ((quarterdeckref02_rest.f a0).bind fun t130 => ((quarterdeckref02_sign.f a0).bind fun t131 => ((quarterdeckref02_inf.f).bind fun t132 => (if t130 = t132 then (some a0) else (if (t130 / 4503599627370496) = 0 then ((quarterdeckref02_with.f t131 (wrap64 (2 * t130))).bind fun t133 => (some t133)) else ((quarterdeckref02_inf.f).bind fun t134 => (if (wrap64 (t130 + 4503599627370496)) > t134 then ((quarterdeckref02_inf.f).bind fun t135 => ((quarterdeckref02_with.f t131 t135).bind fun t136 => (some t136))) else ((quarterdeckref02_with.f t131 (wrap64 (t130 + 4503599627370496))).bind fun t137 => (some t137))))))))) = some r := by rw [if_neg (show ¬ (false = true) by decide)] at H; exact H
    clear H
    have H := H1
    clear H1
    replace H := Option.bind_eq_some_iff.mp H
    obtain ⟨t130, A50, H⟩ := H
    replace H : ((quarterdeckref02_sign.f a0).bind fun t131 => ((quarterdeckref02_inf.f).bind fun t132 => (if t130 = t132 then (some a0) else (if (t130 / 4503599627370496) = 0 then ((quarterdeckref02_with.f t131 (wrap64 (2 * t130))).bind fun t133 => (some t133)) else ((quarterdeckref02_inf.f).bind fun t134 => (if (wrap64 (t130 + 4503599627370496)) > t134 then ((quarterdeckref02_inf.f).bind fun t135 => ((quarterdeckref02_with.f t131 t135).bind fun t136 => (some t136))) else ((quarterdeckref02_with.f t131 (wrap64 (t130 + 4503599627370496))).bind fun t137 => (some t137)))))))) = some r := H
    have A5 := Aside0.mk A50
    clear A50
    replace H := Option.bind_eq_some_iff.mp H
    obtain ⟨t131, A60, H⟩ := H
    replace H : ((quarterdeckref02_inf.f).bind fun t132 => (if t130 = t132 then (some a0) else (if (t130 / 4503599627370496) = 0 then ((quarterdeckref02_with.f t131 (wrap64 (2 * t130))).bind fun t133 => (some t133)) else ((quarterdeckref02_inf.f).bind fun t134 => (if (wrap64 (t130 + 4503599627370496)) > t134 then ((quarterdeckref02_inf.f).bind fun t135 => ((quarterdeckref02_with.f t131 t135).bind fun t136 => (some t136))) else ((quarterdeckref02_with.f t131 (wrap64 (t130 + 4503599627370496))).bind fun t137 => (some t137))))))) = some r := H
    have A6 := Aside0.mk A60
    clear A60
    replace H := Option.bind_eq_some_iff.mp H
    obtain ⟨t132, A70, H⟩ := H
    replace H : (if t130 = t132 then (some a0) else (if (t130 / 4503599627370496) = 0 then ((quarterdeckref02_with.f t131 (wrap64 (2 * t130))).bind fun t133 => (some t133)) else ((quarterdeckref02_inf.f).bind fun t134 => (if (wrap64 (t130 + 4503599627370496)) > t134 then ((quarterdeckref02_inf.f).bind fun t135 => ((quarterdeckref02_with.f t131 t135).bind fun t136 => (some t136))) else ((quarterdeckref02_with.f t131 (wrap64 (t130 + 4503599627370496))).bind fun t137 => (some t137)))))) = some r := H
    have A7 := Aside0.mk A70
    clear A70
    by_cases c8 : t130 = t132
    · rw [if_pos c8] at H
      have c8b0 : (t130 == t132) = true := beq_iff_eq.mpr c8
      have c8b1 : (t130 != t132) = false := bne_eq_false_iff_eq.mpr c8
      clear c8
      obtain rfl := Option.some.inj H
      go_enter Try.func17, Try.ntmps17
      go_wp2_with (first | ((with_reducible refine gate_callee (f := 24) rfl ?_); refine goesL_ (some 7) rfl rfl Try.func24 (by kernel_rfl) rfl #[.int .i64 a0] rfl (by (try simp only [List.map_toArray, List.map_cons, List.map_nil]); first | done | rfl | (simp only [List.length_drop, List.length_take]; rfl)) ?_; (with_reducible refine (quarterdeckref02_nan.calls a0 false _ A2.out).mono ?_); rintro e w' ⟨rfl, ⟨nd, rfl⟩⟩; refine ⟨_, rfl, ?_⟩) | ((with_reducible refine gate_callee (f := 29) rfl ?_); refine goesL_ (some 11) rfl rfl Try.func29 (by kernel_rfl) rfl #[.int .i64 a0] rfl (by (try simp only [List.map_toArray, List.map_cons, List.map_nil]); first | done | rfl | (simp only [List.length_drop, List.length_take]; rfl)) ?_; (with_reducible refine (quarterdeckref02_rest.calls a0 t130 _ A5.out).mono ?_); rintro e w' ⟨rfl, ⟨nd, rfl⟩⟩; refine ⟨_, rfl, ?_⟩) | ((with_reducible refine gate_callee (f := 30) rfl ?_); refine goesL_ (some 13) rfl rfl Try.func30 (by kernel_rfl) rfl #[.int .i64 a0] rfl (by (try simp only [List.map_toArray, List.map_cons, List.map_nil]); first | done | rfl | (simp only [List.length_drop, List.length_take]; rfl)) ?_; (with_reducible refine (quarterdeckref02_sign.calls a0 t131 _ A6.out).mono ?_); rintro e w' ⟨rfl, ⟨nd, rfl⟩⟩; refine ⟨_, rfl, ?_⟩) | ((with_reducible refine gate_callee (f := 31) rfl ?_); refine goesL_ (some 15) rfl rfl Try.func31 (by kernel_rfl) rfl #[] rfl (by (try simp only [List.map_toArray, List.map_cons, List.map_nil]); first | done | rfl | (simp only [List.length_drop, List.length_take]; rfl)) ?_; (with_reducible refine (quarterdeckref02_inf.calls  t132 _ A7.out).mono ?_); rintro e w' ⟨rfl, ⟨nd, rfl⟩⟩; refine ⟨_, rfl, ?_⟩))
      go_ret
      exact ⟨by first | rfl | (simp; done) | (simp [*]; done), by repeat (first | exact Drawn0.refl _ | apply Drawn0.step)⟩
    · rw [if_neg c8] at H
      have c8b0 : (t130 == t132) = false := beq_eq_false_iff_ne.mpr c8
      have c8b1 : (t130 != t132) = true := bne_iff_ne.mpr c8
      by_cases c9 : (t130 / 4503599627370496) = 0
      · rw [if_pos c9] at H
        have c9b0 : ((t130 / 4503599627370496) == 0) = true := beq_iff_eq.mpr c9
        have c9b1 : ((t130 / 4503599627370496) != 0) = false := bne_eq_false_iff_eq.mpr c9
        clear c9
        replace H := Option.bind_eq_some_iff.mp H
        obtain ⟨t133, A100, H⟩ := H
        replace H : (some t133) = some r := H
        have A10 := Aside0.mk A100
        clear A100
        obtain rfl := Option.some.inj H
        go_enter Try.func17, Try.ntmps17
        go_wp2_with (first | ((with_reducible refine gate_callee (f := 24) rfl ?_); refine goesL_ (some 7) rfl rfl Try.func24 (by kernel_rfl) rfl #[.int .i64 a0] rfl (by (try simp only [List.map_toArray, List.map_cons, List.map_nil]); first | done | rfl | (simp only [List.length_drop, List.length_take]; rfl)) ?_; (with_reducible refine (quarterdeckref02_nan.calls a0 false _ A2.out).mono ?_); rintro e w' ⟨rfl, ⟨nd, rfl⟩⟩; refine ⟨_, rfl, ?_⟩) | ((with_reducible refine gate_callee (f := 29) rfl ?_); refine goesL_ (some 11) rfl rfl Try.func29 (by kernel_rfl) rfl #[.int .i64 a0] rfl (by (try simp only [List.map_toArray, List.map_cons, List.map_nil]); first | done | rfl | (simp only [List.length_drop, List.length_take]; rfl)) ?_; (with_reducible refine (quarterdeckref02_rest.calls a0 t130 _ A5.out).mono ?_); rintro e w' ⟨rfl, ⟨nd, rfl⟩⟩; refine ⟨_, rfl, ?_⟩) | ((with_reducible refine gate_callee (f := 30) rfl ?_); refine goesL_ (some 13) rfl rfl Try.func30 (by kernel_rfl) rfl #[.int .i64 a0] rfl (by (try simp only [List.map_toArray, List.map_cons, List.map_nil]); first | done | rfl | (simp only [List.length_drop, List.length_take]; rfl)) ?_; (with_reducible refine (quarterdeckref02_sign.calls a0 t131 _ A6.out).mono ?_); rintro e w' ⟨rfl, ⟨nd, rfl⟩⟩; refine ⟨_, rfl, ?_⟩) | ((with_reducible refine gate_callee (f := 31) rfl ?_); refine goesL_ (some 15) rfl rfl Try.func31 (by kernel_rfl) rfl #[] rfl (by (try simp only [List.map_toArray, List.map_cons, List.map_nil]); first | done | rfl | (simp only [List.length_drop, List.length_take]; rfl)) ?_; (with_reducible refine (quarterdeckref02_inf.calls  t132 _ A7.out).mono ?_); rintro e w' ⟨rfl, ⟨nd, rfl⟩⟩; refine ⟨_, rfl, ?_⟩) | ((with_reducible refine gate_callee (f := 32) rfl ?_); refine goesL_ (some 24) rfl rfl Try.func32 (by kernel_rfl) rfl #[.bool t131, .int .i64 (wrap64 (2 * t130))] rfl (by (try simp only [List.map_toArray, List.map_cons, List.map_nil]); first | done | rfl | (simp only [List.length_drop, List.length_take]; rfl)) ?_; (with_reducible refine (quarterdeckref02_with.calls t131 (wrap64 (2 * t130)) t133 _ A10.out).mono ?_); rintro e w' ⟨rfl, ⟨nd, rfl⟩⟩; refine ⟨_, rfl, ?_⟩))
        go_ret
        exact ⟨by first | rfl | (simp; done) | (simp [*]; done), by repeat (first | exact Drawn0.refl _ | apply Drawn0.step)⟩
      · rw [if_neg c9] at H
        have c9b0 : ((t130 / 4503599627370496) == 0) = false := beq_eq_false_iff_ne.mpr c9
        have c9b1 : ((t130 / 4503599627370496) != 0) = true := bne_iff_ne.mpr c9
        replace H := Option.bind_eq_some_iff.mp H
        obtain ⟨t134, A110, H⟩ := H
        replace H : (if (wrap64 (t130 + 4503599627370496)) > t134 then ((quarterdeckref02_inf.f).bind fun t135 => ((quarterdeckref02_with.f t131 t135).bind fun t136 => (some t136))) else ((quarterdeckref02_with.f t131 (wrap64 (t130 + 4503599627370496))).bind fun t137 => (some t137))) = some r := H
        have A11 := Aside0.mk A110
        clear A110
        by_cases c12 : (wrap64 (t130 + 4503599627370496)) > t134
        · rw [if_pos c12] at H
          have c12b0 : decide (t134 < (wrap64 (t130 + 4503599627370496))) = true := decide_eq_true c12
          clear c12
          replace H := Option.bind_eq_some_iff.mp H
          obtain ⟨t135, A130, H⟩ := H
          replace H : ((quarterdeckref02_with.f t131 t135).bind fun t136 => (some t136)) = some r := H
          have A13 := Aside0.mk A130
          clear A130
          replace H := Option.bind_eq_some_iff.mp H
          obtain ⟨t136, A140, H⟩ := H
          replace H : (some t136) = some r := H
          have A14 := Aside0.mk A140
          clear A140
          obtain rfl := Option.some.inj H
          go_enter Try.func17, Try.ntmps17
          go_wp2_with (first | ((with_reducible refine gate_callee (f := 24) rfl ?_); refine goesL_ (some 7) rfl rfl Try.func24 (by kernel_rfl) rfl #[.int .i64 a0] rfl (by (try simp only [List.map_toArray, List.map_cons, List.map_nil]); first | done | rfl | (simp only [List.length_drop, List.length_take]; rfl)) ?_; (with_reducible refine (quarterdeckref02_nan.calls a0 false _ A2.out).mono ?_); rintro e w' ⟨rfl, ⟨nd, rfl⟩⟩; refine ⟨_, rfl, ?_⟩) | ((with_reducible refine gate_callee (f := 29) rfl ?_); refine goesL_ (some 11) rfl rfl Try.func29 (by kernel_rfl) rfl #[.int .i64 a0] rfl (by (try simp only [List.map_toArray, List.map_cons, List.map_nil]); first | done | rfl | (simp only [List.length_drop, List.length_take]; rfl)) ?_; (with_reducible refine (quarterdeckref02_rest.calls a0 t130 _ A5.out).mono ?_); rintro e w' ⟨rfl, ⟨nd, rfl⟩⟩; refine ⟨_, rfl, ?_⟩) | ((with_reducible refine gate_callee (f := 30) rfl ?_); refine goesL_ (some 13) rfl rfl Try.func30 (by kernel_rfl) rfl #[.int .i64 a0] rfl (by (try simp only [List.map_toArray, List.map_cons, List.map_nil]); first | done | rfl | (simp only [List.length_drop, List.length_take]; rfl)) ?_; (with_reducible refine (quarterdeckref02_sign.calls a0 t131 _ A6.out).mono ?_); rintro e w' ⟨rfl, ⟨nd, rfl⟩⟩; refine ⟨_, rfl, ?_⟩) | ((with_reducible refine gate_callee (f := 31) rfl ?_); refine goesL_ (some 15) rfl rfl Try.func31 (by kernel_rfl) rfl #[] rfl (by (try simp only [List.map_toArray, List.map_cons, List.map_nil]); first | done | rfl | (simp only [List.length_drop, List.length_take]; rfl)) ?_; (with_reducible refine (quarterdeckref02_inf.calls  t132 _ A7.out).mono ?_); rintro e w' ⟨rfl, ⟨nd, rfl⟩⟩; refine ⟨_, rfl, ?_⟩) | ((with_reducible refine gate_callee (f := 31) rfl ?_); refine goesL_ (some 28) rfl rfl Try.func31 (by kernel_rfl) rfl #[] rfl (by (try simp only [List.map_toArray, List.map_cons, List.map_nil]); first | done | rfl | (simp only [List.length_drop, List.length_take]; rfl)) ?_; (with_reducible refine (quarterdeckref02_inf.calls  t134 _ A11.out).mono ?_); rintro e w' ⟨rfl, ⟨nd, rfl⟩⟩; refine ⟨_, rfl, ?_⟩) | ((with_reducible refine gate_callee (f := 31) rfl ?_); refine goesL_ (some 30) rfl rfl Try.func31 (by kernel_rfl) rfl #[] rfl (by (try simp only [List.map_toArray, List.map_cons, List.map_nil]); first | done | rfl | (simp only [List.length_drop, List.length_take]; rfl)) ?_; (with_reducible refine (quarterdeckref02_inf.calls  t135 _ A13.out).mono ?_); rintro e w' ⟨rfl, ⟨nd, rfl⟩⟩; refine ⟨_, rfl, ?_⟩) | ((with_reducible refine gate_callee (f := 32) rfl ?_); refine goesL_ (some 33) rfl rfl Try.func32 (by kernel_rfl) rfl #[.bool t131, .int .i64 t135] rfl (by (try simp only [List.map_toArray, List.map_cons, List.map_nil]); first | done | rfl | (simp only [List.length_drop, List.length_take]; rfl)) ?_; (with_reducible refine (quarterdeckref02_with.calls t131 t135 t136 _ A14.out).mono ?_); rintro e w' ⟨rfl, ⟨nd, rfl⟩⟩; refine ⟨_, rfl, ?_⟩))
          go_ret
          exact ⟨by first | rfl | (simp; done) | (simp [*]; done), by repeat (first | exact Drawn0.refl _ | apply Drawn0.step)⟩
        · rw [if_neg c12] at H
          have c12b0 : decide (t134 < (wrap64 (t130 + 4503599627370496))) = false := decide_eq_false c12
          clear c12
          replace H := Option.bind_eq_some_iff.mp H
          obtain ⟨t137, A150, H⟩ := H
          replace H : (some t137) = some r := H
          have A15 := Aside0.mk A150
          clear A150
          obtain rfl := Option.some.inj H
          go_enter Try.func17, Try.ntmps17
          go_wp2_with (first | ((with_reducible refine gate_callee (f := 24) rfl ?_); refine goesL_ (some 7) rfl rfl Try.func24 (by kernel_rfl) rfl #[.int .i64 a0] rfl (by (try simp only [List.map_toArray, List.map_cons, List.map_nil]); first | done | rfl | (simp only [List.length_drop, List.length_take]; rfl)) ?_; (with_reducible refine (quarterdeckref02_nan.calls a0 false _ A2.out).mono ?_); rintro e w' ⟨rfl, ⟨nd, rfl⟩⟩; refine ⟨_, rfl, ?_⟩) | ((with_reducible refine gate_callee (f := 29) rfl ?_); refine goesL_ (some 11) rfl rfl Try.func29 (by kernel_rfl) rfl #[.int .i64 a0] rfl (by (try simp only [List.map_toArray, List.map_cons, List.map_nil]); first | done | rfl | (simp only [List.length_drop, List.length_take]; rfl)) ?_; (with_reducible refine (quarterdeckref02_rest.calls a0 t130 _ A5.out).mono ?_); rintro e w' ⟨rfl, ⟨nd, rfl⟩⟩; refine ⟨_, rfl, ?_⟩) | ((with_reducible refine gate_callee (f := 30) rfl ?_); refine goesL_ (some 13) rfl rfl Try.func30 (by kernel_rfl) rfl #[.int .i64 a0] rfl (by (try simp only [List.map_toArray, List.map_cons, List.map_nil]); first | done | rfl | (simp only [List.length_drop, List.length_take]; rfl)) ?_; (with_reducible refine (quarterdeckref02_sign.calls a0 t131 _ A6.out).mono ?_); rintro e w' ⟨rfl, ⟨nd, rfl⟩⟩; refine ⟨_, rfl, ?_⟩) | ((with_reducible refine gate_callee (f := 31) rfl ?_); refine goesL_ (some 15) rfl rfl Try.func31 (by kernel_rfl) rfl #[] rfl (by (try simp only [List.map_toArray, List.map_cons, List.map_nil]); first | done | rfl | (simp only [List.length_drop, List.length_take]; rfl)) ?_; (with_reducible refine (quarterdeckref02_inf.calls  t132 _ A7.out).mono ?_); rintro e w' ⟨rfl, ⟨nd, rfl⟩⟩; refine ⟨_, rfl, ?_⟩) | ((with_reducible refine gate_callee (f := 31) rfl ?_); refine goesL_ (some 28) rfl rfl Try.func31 (by kernel_rfl) rfl #[] rfl (by (try simp only [List.map_toArray, List.map_cons, List.map_nil]); first | done | rfl | (simp only [List.length_drop, List.length_take]; rfl)) ?_; (with_reducible refine (quarterdeckref02_inf.calls  t134 _ A11.out).mono ?_); rintro e w' ⟨rfl, ⟨nd, rfl⟩⟩; refine ⟨_, rfl, ?_⟩) | ((with_reducible refine gate_callee (f := 32) rfl ?_); refine goesL_ (some 33) rfl rfl Try.func32 (by kernel_rfl) rfl #[.bool t131, .int .i64 (wrap64 (t130 + 4503599627370496))] rfl (by (try simp only [List.map_toArray, List.map_cons, List.map_nil]); first | done | rfl | (simp only [List.length_drop, List.length_take]; rfl)) ?_; (with_reducible refine (quarterdeckref02_with.calls t131 (wrap64 (t130 + 4503599627370496)) t137 _ A15.out).mono ?_); rintro e w' ⟨rfl, ⟨nd, rfl⟩⟩; refine ⟨_, rfl, ?_⟩))
          go_ret
          exact ⟨by first | rfl | (simp; done) | (simp [*]; done), by repeat (first | exact Drawn0.refl _ | apply Drawn0.step)⟩


/-! ### real_Flip: function 18, given -/
def real_Flip.f (a0 : Int) : Option (Int) := some (Go.Proofs.Ytiamipopddaeiaa.RealG.flipX a0)
theorem real_Flip.calls (a0 : Int) (r : Int) (w : World) (h : real_Flip.f a0 = some r) :
    Calls Try.prog 18 #[.int .i64 a0] w fun e w' => e = .returned (.int .i64 r) ∧ Drawn0 w w' := by
  unfold real_Flip.f at h
  injection h with h
  subst h
  exact (Go.Proofs.Ytiamipopddaeiaa.RealG.flip_eq a0 w).mono fun e w' ⟨h1, n, h2⟩ => ⟨h1, ⟨⟨n, h2⟩⟩⟩

/-! ### quarterdeckref02_Flip: function 19 -/
def quarterdeckref02_Flip.f (a0 : Int) : Option (Int) := (quarterdeckref02_nan.f a0).bind fun t138 => (if t138 = true then ((quarterdeckref02_none.f).bind fun t139 => (some t139)) else ((quarterdeckref02_sign.f a0).bind fun t140 => ((quarterdeckref02_rest.f a0).bind fun t141 => ((quarterdeckref02_with.f (!t140) t141).bind fun t142 => (some t142)))))
set_option maxHeartbeats 8000000 in
set_option maxRecDepth 100000 in
theorem quarterdeckref02_Flip.calls (a0 : Int) (r : Int) (w : World) (h : quarterdeckref02_Flip.f a0 = some r) :
    Calls Try.prog 19 #[.int .i64 a0] w fun e w' => e = .returned (.int .i64 r) ∧ Drawn0 w w' := by
  have H : ((quarterdeckref02_nan.f a0).bind fun t138 => (if t138 = true then ((quarterdeckref02_none.f).bind fun t139 => (some t139)) else ((quarterdeckref02_sign.f a0).bind fun t140 => ((quarterdeckref02_rest.f a0).bind fun t141 => ((quarterdeckref02_with.f (!t140) t141).bind fun t142 => (some t142)))))) = some r := h
  clear h
  replace H := Option.bind_eq_some_iff.mp H
  obtain ⟨t138, A20, H⟩ := H
  replace H : (if t138 = true then ((quarterdeckref02_none.f).bind fun t139 => (some t139)) else ((quarterdeckref02_sign.f a0).bind fun t140 => ((quarterdeckref02_rest.f a0).bind fun t141 => ((quarterdeckref02_with.f (!t140) t141).bind fun t142 => (some t142))))) = some r := H
  have A2 := Aside0.mk A20
  clear A20
  by_cases c3 : t138 = true
  · subst c3
    have H1 : ((quarterdeckref02_none.f).bind fun t139 => (some t139)) = some r := by rw [if_pos rfl] at H; exact H
    clear H
    have H := H1
    clear H1
    replace H := Option.bind_eq_some_iff.mp H
    obtain ⟨t139, A40, H⟩ := H
    replace H : (some t139) = some r := H
    have A4 := Aside0.mk A40
    clear A40
    obtain rfl := Option.some.inj H
    go_enter Try.func19, Try.ntmps19
    go_wp2_with (first | ((with_reducible refine gate_callee (f := 24) rfl ?_); refine goesL_ (some 5) rfl rfl Try.func24 (by kernel_rfl) rfl #[.int .i64 a0] rfl (by (try simp only [List.map_toArray, List.map_cons, List.map_nil]); first | done | rfl | (simp only [List.length_drop, List.length_take]; rfl)) ?_; (with_reducible refine (quarterdeckref02_nan.calls a0 true _ A2.out).mono ?_); rintro e w' ⟨rfl, ⟨nd, rfl⟩⟩; refine ⟨_, rfl, ?_⟩) | ((with_reducible refine gate_callee (f := 28) rfl ?_); refine goesL_ (some 7) rfl rfl Try.func28 (by kernel_rfl) rfl #[] rfl (by (try simp only [List.map_toArray, List.map_cons, List.map_nil]); first | done | rfl | (simp only [List.length_drop, List.length_take]; rfl)) ?_; (with_reducible refine (quarterdeckref02_none.calls  t139 _ A4.out).mono ?_); rintro e w' ⟨rfl, ⟨nd, rfl⟩⟩; refine ⟨_, rfl, ?_⟩))
    go_ret
    exact ⟨by first | rfl | (simp; done) | (simp [*]; done), by repeat (first | exact Drawn0.refl _ | apply Drawn0.step)⟩
  · replace c3 := Bool.eq_false_iff.mpr c3
    subst c3
    have H1 : ((quarterdeckref02_sign.f a0).bind fun t140 => ((quarterdeckref02_rest.f a0).bind fun t141 => ((quarterdeckref02_with.f (!t140) t141).bind fun t142 => (some t142)))) = some r := by rw [if_neg (show ¬ (false = true) by decide)] at H; exact H
    clear H
    have H := H1
    clear H1
    replace H := Option.bind_eq_some_iff.mp H
    obtain ⟨t140, A50, H⟩ := H
    replace H : ((quarterdeckref02_rest.f a0).bind fun t141 => ((quarterdeckref02_with.f (!t140) t141).bind fun t142 => (some t142))) = some r := H
    have A5 := Aside0.mk A50
    clear A50
    replace H := Option.bind_eq_some_iff.mp H
    obtain ⟨t141, A60, H⟩ := H
    replace H : ((quarterdeckref02_with.f (!t140) t141).bind fun t142 => (some t142)) = some r := H
    have A6 := Aside0.mk A60
    clear A60
    replace H := Option.bind_eq_some_iff.mp H
    obtain ⟨t142, A70, H⟩ := H
    replace H : (some t142) = some r := H
    have A7 := Aside0.mk A70
    clear A70
    obtain rfl := Option.some.inj H
    go_enter Try.func19, Try.ntmps19
    go_wp2_with (first | ((with_reducible refine gate_callee (f := 24) rfl ?_); refine goesL_ (some 5) rfl rfl Try.func24 (by kernel_rfl) rfl #[.int .i64 a0] rfl (by (try simp only [List.map_toArray, List.map_cons, List.map_nil]); first | done | rfl | (simp only [List.length_drop, List.length_take]; rfl)) ?_; (with_reducible refine (quarterdeckref02_nan.calls a0 false _ A2.out).mono ?_); rintro e w' ⟨rfl, ⟨nd, rfl⟩⟩; refine ⟨_, rfl, ?_⟩) | ((with_reducible refine gate_callee (f := 30) rfl ?_); refine goesL_ (some 9) rfl rfl Try.func30 (by kernel_rfl) rfl #[.int .i64 a0] rfl (by (try simp only [List.map_toArray, List.map_cons, List.map_nil]); first | done | rfl | (simp only [List.length_drop, List.length_take]; rfl)) ?_; (with_reducible refine (quarterdeckref02_sign.calls a0 t140 _ A5.out).mono ?_); rintro e w' ⟨rfl, ⟨nd, rfl⟩⟩; refine ⟨_, rfl, ?_⟩) | ((with_reducible refine gate_callee (f := 29) rfl ?_); refine goesL_ (some 12) rfl rfl Try.func29 (by kernel_rfl) rfl #[.int .i64 a0] rfl (by (try simp only [List.map_toArray, List.map_cons, List.map_nil]); first | done | rfl | (simp only [List.length_drop, List.length_take]; rfl)) ?_; (with_reducible refine (quarterdeckref02_rest.calls a0 t141 _ A6.out).mono ?_); rintro e w' ⟨rfl, ⟨nd, rfl⟩⟩; refine ⟨_, rfl, ?_⟩) | ((with_reducible refine gate_callee (f := 32) rfl ?_); refine goesL_ (some 13) rfl rfl Try.func32 (by kernel_rfl) rfl #[.bool (!t140), .int .i64 t141] rfl (by (try simp only [List.map_toArray, List.map_cons, List.map_nil]); first | done | rfl | (simp only [List.length_drop, List.length_take]; rfl)) ?_; (with_reducible refine (quarterdeckref02_with.calls (!t140) t141 t142 _ A7.out).mono ?_); rintro e w' ⟨rfl, ⟨nd, rfl⟩⟩; refine ⟨_, rfl, ?_⟩))
    go_ret
    exact ⟨by first | rfl | (simp; done) | (simp [*]; done), by repeat (first | exact Drawn0.refl _ | apply Drawn0.step)⟩

/-! ### quarterdecklaw02_RealChanges: function 4 -/
def quarterdecklaw02_RealChanges.f (a0 : Int) : Option (Bool) := (quarterdecklaw02_awake.f).bind fun t143 => (if t143 = true then ((real_Half.f a0).bind fun t144 => ((quarterdeckref02_Half.f a0).bind fun t145 => (if t144 = t145 then ((real_Twice.f a0).bind fun t146 => ((quarterdeckref02_Twice.f a0).bind fun t147 => (if t146 = t147 then ((real_Flip.f a0).bind fun t148 => ((quarterdeckref02_Flip.f a0).bind fun t149 => (some (t148 == t149)))) else (some false)))) else (some false)))) else (some false))
set_option maxHeartbeats 8000000 in
set_option maxRecDepth 100000 in
theorem quarterdecklaw02_RealChanges.calls (a0 : Int) (r : Bool) (w : World) (h : quarterdecklaw02_RealChanges.f a0 = some r) :
    Calls Try.prog 4 #[.int .i64 a0] w fun e w' => e = .returned (.bool r) ∧ Drawn0 w w' := by
  have H : ((quarterdecklaw02_awake.f).bind fun t143 => (if t143 = true then ((real_Half.f a0).bind fun t144 => ((quarterdeckref02_Half.f a0).bind fun t145 => (if t144 = t145 then ((real_Twice.f a0).bind fun t146 => ((quarterdeckref02_Twice.f a0).bind fun t147 => (if t146 = t147 then ((real_Flip.f a0).bind fun t148 => ((quarterdeckref02_Flip.f a0).bind fun t149 => (some (t148 == t149)))) else (some false)))) else (some false)))) else (some false))) = some r := h
  clear h
  replace H := Option.bind_eq_some_iff.mp H
  obtain ⟨t143, A20, H⟩ := H
  replace H : (if t143 = true then ((real_Half.f a0).bind fun t144 => ((quarterdeckref02_Half.f a0).bind fun t145 => (if t144 = t145 then ((real_Twice.f a0).bind fun t146 => ((quarterdeckref02_Twice.f a0).bind fun t147 => (if t146 = t147 then ((real_Flip.f a0).bind fun t148 => ((quarterdeckref02_Flip.f a0).bind fun t149 => (some (t148 == t149)))) else (some false)))) else (some false)))) else (some false)) = some r := H
  have A2 := Aside0.mk A20
  clear A20
  by_cases c3 : t143 = true
  · subst c3
    have H1 : ((real_Half.f a0).bind fun t144 => ((quarterdeckref02_Half.f a0).bind fun t145 => (if t144 = t145 then ((real_Twice.f a0).bind fun t146 => ((quarterdeckref02_Twice.f a0).bind fun t147 => (if t146 = t147 then ((real_Flip.f a0).bind fun t148 => ((quarterdeckref02_Flip.f a0).bind fun t149 => (some (t148 == t149)))) else (some false)))) else (some false)))) = some r := by rw [if_pos rfl] at H; exact H
    clear H
    have H := H1
    clear H1
    replace H := Option.bind_eq_some_iff.mp H
    obtain ⟨t144, A40, H⟩ := H
    replace H : ((quarterdeckref02_Half.f a0).bind fun t145 => (if t144 = t145 then ((real_Twice.f a0).bind fun t146 => ((quarterdeckref02_Twice.f a0).bind fun t147 => (if t146 = t147 then ((real_Flip.f a0).bind fun t148 => ((quarterdeckref02_Flip.f a0).bind fun t149 => (some (t148 == t149)))) else (some false)))) else (some false))) = some r := H
    have A4 := Aside0.mk A40
    clear A40
    replace H := Option.bind_eq_some_iff.mp H
    obtain ⟨t145, A50, H⟩ := H
    replace H : (if t144 = t145 then ((real_Twice.f a0).bind fun t146 => ((quarterdeckref02_Twice.f a0).bind fun t147 => (if t146 = t147 then ((real_Flip.f a0).bind fun t148 => ((quarterdeckref02_Flip.f a0).bind fun t149 => (some (t148 == t149)))) else (some false)))) else (some false)) = some r := H
    have A5 := Aside0.mk A50
    clear A50
    by_cases c6 : t144 = t145
    · rw [if_pos c6] at H
      have c6b0 : (t144 == t145) = true := beq_iff_eq.mpr c6
      have c6b1 : (t144 != t145) = false := bne_eq_false_iff_eq.mpr c6
      clear c6
      replace H := Option.bind_eq_some_iff.mp H
      obtain ⟨t146, A70, H⟩ := H
      replace H : ((quarterdeckref02_Twice.f a0).bind fun t147 => (if t146 = t147 then ((real_Flip.f a0).bind fun t148 => ((quarterdeckref02_Flip.f a0).bind fun t149 => (some (t148 == t149)))) else (some false))) = some r := H
      have A7 := Aside0.mk A70
      clear A70
      replace H := Option.bind_eq_some_iff.mp H
      obtain ⟨t147, A80, H⟩ := H
      replace H : (if t146 = t147 then ((real_Flip.f a0).bind fun t148 => ((quarterdeckref02_Flip.f a0).bind fun t149 => (some (t148 == t149)))) else (some false)) = some r := H
      have A8 := Aside0.mk A80
      clear A80
      by_cases c9 : t146 = t147
      · rw [if_pos c9] at H
        have c9b0 : (t146 == t147) = true := beq_iff_eq.mpr c9
        have c9b1 : (t146 != t147) = false := bne_eq_false_iff_eq.mpr c9
        clear c9
        replace H := Option.bind_eq_some_iff.mp H
        obtain ⟨t148, A100, H⟩ := H
        replace H : ((quarterdeckref02_Flip.f a0).bind fun t149 => (some (t148 == t149))) = some r := H
        have A10 := Aside0.mk A100
        clear A100
        replace H := Option.bind_eq_some_iff.mp H
        obtain ⟨t149, A110, H⟩ := H
        replace H : (some (t148 == t149)) = some r := H
        have A11 := Aside0.mk A110
        clear A110
        obtain rfl := Option.some.inj H
        go_enter Try.func4, Try.ntmps4
        go_wp2_with (first | ((with_reducible refine gate_callee (f := 11) rfl ?_); refine goesL_ (some 4) rfl rfl Try.func11 (by kernel_rfl) rfl #[] rfl (by (try simp only [List.map_toArray, List.map_cons, List.map_nil]); first | done | rfl | (simp only [List.length_drop, List.length_take]; rfl)) ?_; (with_reducible refine (quarterdecklaw02_awake.calls  true _ A2.out).mono ?_); rintro e w' ⟨rfl, ⟨nd, rfl⟩⟩; refine ⟨_, rfl, ?_⟩) | (go_at_call 14; (with_reducible refine (real_Half.calls a0 t144 _ A4.out).mono ?_); rintro e w' ⟨rfl, ⟨nd, rfl⟩⟩) | (go_at_call 15; (with_reducible refine (quarterdeckref02_Half.calls a0 t145 _ A5.out).mono ?_); rintro e w' ⟨rfl, ⟨nd, rfl⟩⟩) | (go_at_call 16; (with_reducible refine (real_Twice.calls a0 t146 _ A7.out).mono ?_); rintro e w' ⟨rfl, ⟨nd, rfl⟩⟩) | (go_at_call 17; (with_reducible refine (quarterdeckref02_Twice.calls a0 t147 _ A8.out).mono ?_); rintro e w' ⟨rfl, ⟨nd, rfl⟩⟩) | (go_at_call 18; (with_reducible refine (real_Flip.calls a0 t148 _ A10.out).mono ?_); rintro e w' ⟨rfl, ⟨nd, rfl⟩⟩) | (go_at_call 19; (with_reducible refine (quarterdeckref02_Flip.calls a0 t149 _ A11.out).mono ?_); rintro e w' ⟨rfl, ⟨nd, rfl⟩⟩))
        go_ret
        exact ⟨by first | rfl | (simp; done) | (simp [*]; done), by repeat (first | exact Drawn0.refl _ | apply Drawn0.step)⟩
      · rw [if_neg c9] at H
        have c9b0 : (t146 == t147) = false := beq_eq_false_iff_ne.mpr c9
        have c9b1 : (t146 != t147) = true := bne_iff_ne.mpr c9
        obtain rfl := Option.some.inj H
        go_enter Try.func4, Try.ntmps4
        go_wp2_with (first | ((with_reducible refine gate_callee (f := 11) rfl ?_); refine goesL_ (some 4) rfl rfl Try.func11 (by kernel_rfl) rfl #[] rfl (by (try simp only [List.map_toArray, List.map_cons, List.map_nil]); first | done | rfl | (simp only [List.length_drop, List.length_take]; rfl)) ?_; (with_reducible refine (quarterdecklaw02_awake.calls  true _ A2.out).mono ?_); rintro e w' ⟨rfl, ⟨nd, rfl⟩⟩; refine ⟨_, rfl, ?_⟩) | (go_at_call 14; (with_reducible refine (real_Half.calls a0 t144 _ A4.out).mono ?_); rintro e w' ⟨rfl, ⟨nd, rfl⟩⟩) | (go_at_call 15; (with_reducible refine (quarterdeckref02_Half.calls a0 t145 _ A5.out).mono ?_); rintro e w' ⟨rfl, ⟨nd, rfl⟩⟩) | (go_at_call 16; (with_reducible refine (real_Twice.calls a0 t146 _ A7.out).mono ?_); rintro e w' ⟨rfl, ⟨nd, rfl⟩⟩) | (go_at_call 17; (with_reducible refine (quarterdeckref02_Twice.calls a0 t147 _ A8.out).mono ?_); rintro e w' ⟨rfl, ⟨nd, rfl⟩⟩))
        go_ret
        exact ⟨by first | rfl | (simp; done) | (simp [*]; done), by repeat (first | exact Drawn0.refl _ | apply Drawn0.step)⟩
    · rw [if_neg c6] at H
      have c6b0 : (t144 == t145) = false := beq_eq_false_iff_ne.mpr c6
      have c6b1 : (t144 != t145) = true := bne_iff_ne.mpr c6
      obtain rfl := Option.some.inj H
      go_enter Try.func4, Try.ntmps4
      go_wp2_with (first | ((with_reducible refine gate_callee (f := 11) rfl ?_); refine goesL_ (some 4) rfl rfl Try.func11 (by kernel_rfl) rfl #[] rfl (by (try simp only [List.map_toArray, List.map_cons, List.map_nil]); first | done | rfl | (simp only [List.length_drop, List.length_take]; rfl)) ?_; (with_reducible refine (quarterdecklaw02_awake.calls  true _ A2.out).mono ?_); rintro e w' ⟨rfl, ⟨nd, rfl⟩⟩; refine ⟨_, rfl, ?_⟩) | (go_at_call 14; (with_reducible refine (real_Half.calls a0 t144 _ A4.out).mono ?_); rintro e w' ⟨rfl, ⟨nd, rfl⟩⟩) | (go_at_call 15; (with_reducible refine (quarterdeckref02_Half.calls a0 t145 _ A5.out).mono ?_); rintro e w' ⟨rfl, ⟨nd, rfl⟩⟩))
      go_ret
      exact ⟨by first | rfl | (simp; done) | (simp [*]; done), by repeat (first | exact Drawn0.refl _ | apply Drawn0.step)⟩
  · replace c3 := Bool.eq_false_iff.mpr c3
    subst c3
    have H1 : (some false) = some r := by rw [if_neg (show ¬ (false = true) by decide)] at H; exact H
    clear H
    have H := H1
    clear H1
    obtain rfl := Option.some.inj H
    go_enter Try.func4, Try.ntmps4
    go_wp2_with (first | ((with_reducible refine gate_callee (f := 11) rfl ?_); refine goesL_ (some 4) rfl rfl Try.func11 (by kernel_rfl) rfl #[] rfl (by (try simp only [List.map_toArray, List.map_cons, List.map_nil]); first | done | rfl | (simp only [List.length_drop, List.length_take]; rfl)) ?_; (with_reducible refine (quarterdecklaw02_awake.calls  false _ A2.out).mono ?_); rintro e w' ⟨rfl, ⟨nd, rfl⟩⟩; refine ⟨_, rfl, ?_⟩))
    go_ret
    exact ⟨by first | rfl | (simp; done) | (simp [*]; done), by repeat (first | exact Drawn0.refl _ | apply Drawn0.step)⟩

/-- THE ONE PURE STATEMENT of quarterdecklaw02_RealChanges: yours. -/
def quarterdecklaw02_RealChanges.Pure : Prop := ∀ (a0 : Int), (Lit.int .i64 a0).wf = true → quarterdecklaw02_RealChanges.f a0 = some true
theorem quarterdecklaw02_RealChanges.walk (P : quarterdecklaw02_RealChanges.Pure) (a0 : Int) (w : World) (w0 : (Lit.int .i64 a0).wf = true) :
    Calls Try.prog 4 #[.int .i64 a0] w fun e w' => e = .returned (.bool true) ∧ Below w.heap.size w w' := by
  have h := P a0 w0
  refine (quarterdecklaw02_RealChanges.calls a0 true w h).mono ?_
  rintro e w' ⟨rfl, hd⟩
  exact ⟨rfl, hd.below⟩

end Go.Proofs.Ytiamipopddaeiaa.Pr

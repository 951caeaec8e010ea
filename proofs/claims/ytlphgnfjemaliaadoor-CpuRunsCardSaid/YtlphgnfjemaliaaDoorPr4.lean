/- Go functions as Lean functions, each with its contract (written by wip/given_print.py); conditions: the premises of each theorem. -/
import Derived.Test.YtlphgnfjemaliaaDoorPr0
import Derived.Test.YtlphgnfjemaliaaDoorPr3
namespace Go.Proofs.YtlphgnfjemaliaaDoor.Pr
open Go.RowKit Go.Proofs.YtlphgnfjemaliaaDoorW.PrintWords Go.Proofs.YtlphgnfjemaliaaDoorW.PrintLast Go.Proofs.YtlphgnfjemaliaaDoorW.PrintMore
attribute [local go_sem] max2_int min2_int max_two min_two max_three min_three max_four min_four   -- for this text's walks alone
set_option linter.unusedVariables false
set_option linter.unusedSimpArgs false

/-! ### quarterdeckref02_with: function 68 -/
def quarterdeckref02_with.f (a0 : Bool) (a1 : Int) : Option (Int) := if a0 = true then (some (wrap64 ((wrap64 (a1 - 4611686018427387904)) - 4611686018427387904))) else (some a1)
set_option maxHeartbeats 8000000 in
set_option maxRecDepth 100000 in
theorem quarterdeckref02_with.calls (a0 : Bool) (a1 : Int) (r : Int) (w : World) (h : quarterdeckref02_with.f a0 a1 = some r) :
    Calls Tryd.prog 68 #[.bool a0, .int .i64 a1] w fun e w' => e = .returned (.int .i64 r) ∧ Drawn0 w w' := by
  have H : (if a0 = true then (some (wrap64 ((wrap64 (a1 - 4611686018427387904)) - 4611686018427387904))) else (some a1)) = some r := h
  clear h
  by_cases c3 : a0 = true
  · subst c3
    have H1 : (some (wrap64 ((wrap64 (a1 - 4611686018427387904)) - 4611686018427387904))) = some r := by rw [if_pos rfl] at H; exact H
    clear H
    have H := H1
    clear H1
    obtain rfl := Option.some.inj H
    go_enter Tryd.func68, Tryd.ntmps68
    go_wp2
    go_ret
    exact ⟨by first | rfl | (simp; done) | (simp [*]; done), by repeat (first | exact Drawn0.refl _ | apply Drawn0.step)⟩
  · replace c3 := Bool.eq_false_iff.mpr c3
    subst c3
    have H1 : (some a1) = some r := by rw [if_neg (show ¬ (false = true) by decide)] at H; exact H
    clear H
    have H := H1
    clear H1
    obtain rfl := Option.some.inj H
    go_enter Tryd.func68, Tryd.ntmps68
    go_wp2
    go_ret
    exact ⟨by first | rfl | (simp; done) | (simp [*]; done), by repeat (first | exact Drawn0.refl _ | apply Drawn0.step)⟩

/-! ### quarterdeckref02_Half: function 42 -/
def quarterdeckref02_Half.f (a0 : Int) : Option (Int) := (quarterdeckref02_nan.f a0).bind fun t123 => (if t123 = true then ((quarterdeckref02_none.f).bind fun t124 => (some t124)) else ((quarterdeckref02_rest.f a0).bind fun t125 => ((quarterdeckref02_sign.f a0).bind fun t126 => ((quarterdeckref02_inf.f).bind fun t127 => (if t125 = t127 then (some a0) else (if (t125 / 4503599627370496) > 1 then ((quarterdeckref02_with.f t126 (wrap64 (t125 - 4503599627370496))).bind fun t128 => (some t128)) else (if (Int.tmod t125 2) = 1 then (if (Int.tmod (wrap64 (Int.tdiv t125 2)) 2) = 1 then ((quarterdeckref02_with.f t126 (wrap64 ((wrap64 (Int.tdiv t125 2)) + 1))).bind fun t129 => (some t129)) else ((quarterdeckref02_with.f t126 (wrap64 (Int.tdiv t125 2))).bind fun t130 => (some t130))) else ((quarterdeckref02_with.f t126 (wrap64 (Int.tdiv t125 2))).bind fun t131 => (some t131)))))))))
set_option maxHeartbeats 8000000 in
set_option maxRecDepth 100000 in
theorem quarterdeckref02_Half.calls (a0 : Int) (r : Int) (w : World) (h : quarterdeckref02_Half.f a0 = some r) :
    Calls Tryd.prog 42 #[.int .i64 a0] w fun e w' => e = .returned (.int .i64 r) ∧ Drawn0 w w' := by
  have H : ((quarterdeckref02_nan.f a0).bind fun t123 => (if t123 = true then ((quarterdeckref02_none.f).bind fun t124 => (some t124)) else ((quarterdeckref02_rest.f a0).bind fun t125 => ((quarterdeckref02_sign.f a0).bind fun t126 => ((quarterdeckref02_inf.f).bind fun t127 => (if t125 = t127 then (some a0) else (if (t125 / 4503599627370496) > 1 then ((quarterdeckref02_with.f t126 (wrap64 (t125 - 4503599627370496))).bind fun t128 => (some t128)) else (if (Int.tmod t125 2) = 1 then (if (Int.tmod (wrap64 (Int.tdiv t125 2)) 2) = 1 then ((quarterdeckref02_with.f t126 (wrap64 ((wrap64 (Int.tdiv t125 2)) + 1))).bind fun t129 => (some t129)) else ((quarterdeckref02_with.f t126 (wrap64 (Int.tdiv t125 2))).bind fun t130 => (some t130))) else ((quarterdeckref02_with.f t126 (wrap64 (Int.tdiv t125 2))).bind fun t131 => (some t131)))))))))) = some r := h
  clear h
  replace H := Option.bind_eq_some_iff.mp H
  obtain ⟨t123, A20, H⟩ := H
  replace H : (if t123 = true then ((quarterdeckref02_none.f).bind fun t124 => (some t124)) else ((quarterdeckref02_rest.f a0).bind fun t125 => ((quarterdeckref02_sign.f a0).bind fun t126 => ((quarterdeckref02_inf.f).bind fun t127 => (if t125 = t127 then (some a0) else (if (t125 / 4503599627370496) > 1 then ((quarterdeckref02_with.f t126 (wrap64 (t125 - 4503599627370496))).bind fun t128 => (some t128)) else (if (Int.tmod t125 2) = 1 then (if (Int.tmod (wrap64 (Int.tdiv t125 2)) 2) = 1 then ((quarterdeckref02_with.f t126 (wrap64 ((wrap64 (Int.tdiv t125 2)) + 1))).bind fun t129 => (some t129)) else ((quarterdeckref02_with.f t126 (wrap64 (Int.tdiv t125 2))).bind fun t130 => (some t130))) else ((quarterdeckref02_with.f t126 (wrap64 (Int.tdiv t125 2))).bind fun t131 => (some t131))))))))) = some r := H
  have A2 := Aside0.mk A20
  clear A20
  by_cases c3 : t123 = true
  · subst c3
    have H1 : ((quarterdeckref02_none.f).bind fun t124 => (some t124)) = some r := by rw [if_pos rfl] at H; exact H
    clear H
    have H := H1
    clear H1
    replace H := Option.bind_eq_some_iff.mp H
    obtain ⟨t124, A40, H⟩ := H
    replace H : (some t124) = some r := H
    have A4 := Aside0.mk A40
    clear A40
    obtain rfl := Option.some.inj H
    go_enter Tryd.func42, Tryd.ntmps42
    go_wp2_with (first | ((with_reducible refine gate_callee (f := 63) rfl ?_); refine goesL_ (some 8) rfl rfl Tryd.func63 (by kernel_rfl) rfl #[.int .i64 a0] rfl (by (try simp only [List.map_toArray, List.map_cons, List.map_nil]); first | done | rfl | (simp only [List.length_drop, List.length_take]; rfl)) ?_; (with_reducible refine (quarterdeckref02_nan.calls a0 true _ A2.out).mono ?_); rintro e w' ⟨rfl, ⟨nd, rfl⟩⟩; refine ⟨_, rfl, ?_⟩) | ((with_reducible refine gate_callee (f := 64) rfl ?_); refine goesL_ (some 10) rfl rfl Tryd.func64 (by kernel_rfl) rfl #[] rfl (by (try simp only [List.map_toArray, List.map_cons, List.map_nil]); first | done | rfl | (simp only [List.length_drop, List.length_take]; rfl)) ?_; (with_reducible refine (quarterdeckref02_none.calls  t124 _ A4.out).mono ?_); rintro e w' ⟨rfl, ⟨nd, rfl⟩⟩; refine ⟨_, rfl, ?_⟩))
    go_ret
    exact ⟨by first | rfl | (simp; done) | (simp [*]; done), by repeat (first | exact Drawn0.refl _ | apply Drawn0.step)⟩
  · replace c3 := Bool.eq_false_iff.mpr c3
    subst c3
    have H1 : ((quarterdeckref02_rest.f a0).bind fun t125 => ((quarterdeckref02_sign.f a0).bind fun t126 => ((quarterdeckref02_inf.f).bind fun t127 => (if t125 = t127 then (some a0) else (if (t125 / 4503599627370496) > 1 then ((quarterdeckref02_with.f t126 (wrap64 (t125 - 4503599627370496))).bind fun t128 => (some t128)) else (if (Int.tmod t125 2) = 1 then (if (Int.tmod (wrap64 (Int.tdiv t125 2)) 2) = 1 then ((quarterdeckref02_with.f t126 (wrap64 ((wrap64 (Int.tdiv t125 2)) + 1))).bind fun t129 => (some t129)) else ((quarterdeckref02_with.f t126 (wrap64 (Int.tdiv t125 2))).bind fun t130 => (some t130))) else ((quarterdeckref02_with.f t126 (wrap64 (Int.tdiv t125 2))).bind fun t131 => (some t131)))))))) = some r := by rw [if_neg (show ¬ (false = true) by decide)] at H; exact H
    clear H
    have H := H1
    clear H1
    replace H := Option.bind_eq_some_iff.mp H
    obtain ⟨t125, A50, H⟩ := H
    replace H : ((quarterdeckref02_sign.f a0).bind fun t126 => ((quarterdeckref02_inf.f).bind fun t127 => (if t125 = t127 then (some a0) else (if (t125 / 4503599627370496) > 1 then ((quarterdeckref02_with.f t126 (wrap64 (t125 - 4503599627370496))).bind fun t128 => (some t128)) else (if (Int.tmod t125 2) = 1 then (if (Int.tmod (wrap64 (Int.tdiv t125 2)) 2) = 1 then ((quarterdeckref02_with.f t126 (wrap64 ((wrap64 (Int.tdiv t125 2)) + 1))).bind fun t129 => (some t129)) else ((quarterdeckref02_with.f t126 (wrap64 (Int.tdiv t125 2))).bind fun t130 => (some t130))) else ((quarterdeckref02_with.f t126 (wrap64 (Int.tdiv t125 2))).bind fun t131 => (some t131))))))) = some r := H
    have A5 := Aside0.mk A50
    clear A50
    replace H := Option.bind_eq_some_iff.mp H
    obtain ⟨t126, A60, H⟩ := H
    replace H : ((quarterdeckref02_inf.f).bind fun t127 => (if t125 = t127 then (some a0) else (if (t125 / 4503599627370496) > 1 then ((quarterdeckref02_with.f t126 (wrap64 (t125 - 4503599627370496))).bind fun t128 => (some t128)) else (if (Int.tmod t125 2) = 1 then (if (Int.tmod (wrap64 (Int.tdiv t125 2)) 2) = 1 then ((quarterdeckref02_with.f t126 (wrap64 ((wrap64 (Int.tdiv t125 2)) + 1))).bind fun t129 => (some t129)) else ((quarterdeckref02_with.f t126 (wrap64 (Int.tdiv t125 2))).bind fun t130 => (some t130))) else ((quarterdeckref02_with.f t126 (wrap64 (Int.tdiv t125 2))).bind fun t131 => (some t131)))))) = some r := H
    have A6 := Aside0.mk A60
    clear A60
    replace H := Option.bind_eq_some_iff.mp H
    obtain ⟨t127, A70, H⟩ := H
    replace H : (if t125 = t127 then (some a0) else (if (t125 / 4503599627370496) > 1 then ((quarterdeckref02_with.f t126 (wrap64 (t125 - 4503599627370496))).bind fun t128 => (some t128)) else (if (Int.tmod t125 2) = 1 then (if (Int.tmod (wrap64 (Int.tdiv t125 2)) 2) = 1 then ((quarterdeckref02_with.f t126 (wrap64 ((wrap64 (Int.tdiv t125 2)) + 1))).bind fun t129 => (some t129)) else ((quarterdeckref02_with.f t126 (wrap64 (Int.tdiv t125 2))).bind fun t130 => (some t130))) else ((quarterdeckref02_with.f t126 (wrap64 (Int.tdiv t125 2))).bind fun t131 => (some t131))))) = some r := H
    have A7 := Aside0.mk A70
    clear A70
    by_cases c8 : t125 = t127
    · rw [if_pos c8] at H
      have c8b0 : (t125 == t127) = true := beq_iff_eq.mpr c8
      have c8b1 : (t125 != t127) = false := bne_eq_false_iff_eq.mpr c8
      clear c8
      obtain rfl := Option.some.inj H
      go_enter Tryd.func42, Tryd.ntmps42
      go_wp2_with (first | ((with_reducible refine gate_callee (f := 63) rfl ?_); refine goesL_ (some 8) rfl rfl Tryd.func63 (by kernel_rfl) rfl #[.int .i64 a0] rfl (by (try simp only [List.map_toArray, List.map_cons, List.map_nil]); first | done | rfl | (simp only [List.length_drop, List.length_take]; rfl)) ?_; (with_reducible refine (quarterdeckref02_nan.calls a0 false _ A2.out).mono ?_); rintro e w' ⟨rfl, ⟨nd, rfl⟩⟩; refine ⟨_, rfl, ?_⟩) | ((with_reducible refine gate_callee (f := 65) rfl ?_); refine goesL_ (some 12) rfl rfl Tryd.func65 (by kernel_rfl) rfl #[.int .i64 a0] rfl (by (try simp only [List.map_toArray, List.map_cons, List.map_nil]); first | done | rfl | (simp only [List.length_drop, List.length_take]; rfl)) ?_; (with_reducible refine (quarterdeckref02_rest.calls a0 t125 _ A5.out).mono ?_); rintro e w' ⟨rfl, ⟨nd, rfl⟩⟩; refine ⟨_, rfl, ?_⟩) | ((with_reducible refine gate_callee (f := 66) rfl ?_); refine goesL_ (some 14) rfl rfl Tryd.func66 (by kernel_rfl) rfl #[.int .i64 a0] rfl (by (try simp only [List.map_toArray, List.map_cons, List.map_nil]); first | done | rfl | (simp only [List.length_drop, List.length_take]; rfl)) ?_; (with_reducible refine (quarterdeckref02_sign.calls a0 t126 _ A6.out).mono ?_); rintro e w' ⟨rfl, ⟨nd, rfl⟩⟩; refine ⟨_, rfl, ?_⟩) | ((with_reducible refine gate_callee (f := 67) rfl ?_); refine goesL_ (some 16) rfl rfl Tryd.func67 (by kernel_rfl) rfl #[] rfl (by (try simp only [List.map_toArray, List.map_cons, List.map_nil]); first | done | rfl | (simp only [List.length_drop, List.length_take]; rfl)) ?_; (with_reducible refine (quarterdeckref02_inf.calls  t127 _ A7.out).mono ?_); rintro e w' ⟨rfl, ⟨nd, rfl⟩⟩; refine ⟨_, rfl, ?_⟩))
      go_ret
      exact ⟨by first | rfl | (simp; done) | (simp [*]; done), by repeat (first | exact Drawn0.refl _ | apply Drawn0.step)⟩
    · rw [if_neg c8] at H
      have c8b0 : (t125 == t127) = false := beq_eq_false_iff_ne.mpr c8
      have c8b1 : (t125 != t127) = true := bne_iff_ne.mpr c8
      by_cases c9 : (t125 / 4503599627370496) > 1
      · rw [if_pos c9] at H
        have c9b0 : decide (1 < (t125 / 4503599627370496)) = true := decide_eq_true c9
        clear c9
        replace H := Option.bind_eq_some_iff.mp H
        obtain ⟨t128, A100, H⟩ := H
        replace H : (some t128) = some r := H
        have A10 := Aside0.mk A100
        clear A100
        obtain rfl := Option.some.inj H
        go_enter Tryd.func42, Tryd.ntmps42
        go_wp2_with (first | ((with_reducible refine gate_callee (f := 63) rfl ?_); refine goesL_ (some 8) rfl rfl Tryd.func63 (by kernel_rfl) rfl #[.int .i64 a0] rfl (by (try simp only [List.map_toArray, List.map_cons, List.map_nil]); first | done | rfl | (simp only [List.length_drop, List.length_take]; rfl)) ?_; (with_reducible refine (quarterdeckref02_nan.calls a0 false _ A2.out).mono ?_); rintro e w' ⟨rfl, ⟨nd, rfl⟩⟩; refine ⟨_, rfl, ?_⟩) | ((with_reducible refine gate_callee (f := 65) rfl ?_); refine goesL_ (some 12) rfl rfl Tryd.func65 (by kernel_rfl) rfl #[.int .i64 a0] rfl (by (try simp only [List.map_toArray, List.map_cons, List.map_nil]); first | done | rfl | (simp only [List.length_drop, List.length_take]; rfl)) ?_; (with_reducible refine (quarterdeckref02_rest.calls a0 t125 _ A5.out).mono ?_); rintro e w' ⟨rfl, ⟨nd, rfl⟩⟩; refine ⟨_, rfl, ?_⟩) | ((with_reducible refine gate_callee (f := 66) rfl ?_); refine goesL_ (some 14) rfl rfl Tryd.func66 (by kernel_rfl) rfl #[.int .i64 a0] rfl (by (try simp only [List.map_toArray, List.map_cons, List.map_nil]); first | done | rfl | (simp only [List.length_drop, List.length_take]; rfl)) ?_; (with_reducible refine (quarterdeckref02_sign.calls a0 t126 _ A6.out).mono ?_); rintro e w' ⟨rfl, ⟨nd, rfl⟩⟩; refine ⟨_, rfl, ?_⟩) | ((with_reducible refine gate_callee (f := 67) rfl ?_); refine goesL_ (some 16) rfl rfl Tryd.func67 (by kernel_rfl) rfl #[] rfl (by (try simp only [List.map_toArray, List.map_cons, List.map_nil]); first | done | rfl | (simp only [List.length_drop, List.length_take]; rfl)) ?_; (with_reducible refine (quarterdeckref02_inf.calls  t127 _ A7.out).mono ?_); rintro e w' ⟨rfl, ⟨nd, rfl⟩⟩; refine ⟨_, rfl, ?_⟩) | ((with_reducible refine gate_callee (f := 68) rfl ?_); refine goesL_ (some 25) rfl rfl Tryd.func68 (by kernel_rfl) rfl #[.bool t126, .int .i64 (wrap64 (t125 - 4503599627370496))] rfl (by (try simp only [List.map_toArray, List.map_cons, List.map_nil]); first | done | rfl | (simp only [List.length_drop, List.length_take]; rfl)) ?_; (with_reducible refine (quarterdeckref02_with.calls t126 (wrap64 (t125 - 4503599627370496)) t128 _ A10.out).mono ?_); rintro e w' ⟨rfl, ⟨nd, rfl⟩⟩; refine ⟨_, rfl, ?_⟩))
        go_ret
        exact ⟨by first | rfl | (simp; done) | (simp [*]; done), by repeat (first | exact Drawn0.refl _ | apply Drawn0.step)⟩
      · rw [if_neg c9] at H
        have c9b0 : decide (1 < (t125 / 4503599627370496)) = false := decide_eq_false c9
        clear c9
        by_cases c11 : (Int.tmod t125 2) = 1
        · rw [if_pos c11] at H
          have c11b0 : ((Int.tmod t125 2) == 1) = true := beq_iff_eq.mpr c11
          have c11b1 : ((Int.tmod t125 2) != 1) = false := bne_eq_false_iff_eq.mpr c11
          clear c11
          by_cases c12 : (Int.tmod (wrap64 (Int.tdiv t125 2)) 2) = 1
          · rw [if_pos c12] at H
            have c12b0 : ((Int.tmod (wrap64 (Int.tdiv t125 2)) 2) == 1) = true := beq_iff_eq.mpr c12
            have c12b1 : ((Int.tmod (wrap64 (Int.tdiv t125 2)) 2) != 1) = false := bne_eq_false_iff_eq.mpr c12
            clear c12
            replace H := Option.bind_eq_some_iff.mp H
            obtain ⟨t129, A130, H⟩ := H
            replace H : (some t129) = some r := H
            have A13 := Aside0.mk A130
            clear A130
            obtain rfl := Option.some.inj H
            go_enter Tryd.func42, Tryd.ntmps42
            go_wp2_with (first | ((with_reducible refine gate_callee (f := 63) rfl ?_); refine goesL_ (some 8) rfl rfl Tryd.func63 (by kernel_rfl) rfl #[.int .i64 a0] rfl (by (try simp only [List.map_toArray, List.map_cons, List.map_nil]); first | done | rfl | (simp only [List.length_drop, List.length_take]; rfl)) ?_; (with_reducible refine (quarterdeckref02_nan.calls a0 false _ A2.out).mono ?_); rintro e w' ⟨rfl, ⟨nd, rfl⟩⟩; refine ⟨_, rfl, ?_⟩) | ((with_reducible refine gate_callee (f := 65) rfl ?_); refine goesL_ (some 12) rfl rfl Tryd.func65 (by kernel_rfl) rfl #[.int .i64 a0] rfl (by (try simp only [List.map_toArray, List.map_cons, List.map_nil]); first | done | rfl | (simp only [List.length_drop, List.length_take]; rfl)) ?_; (with_reducible refine (quarterdeckref02_rest.calls a0 t125 _ A5.out).mono ?_); rintro e w' ⟨rfl, ⟨nd, rfl⟩⟩; refine ⟨_, rfl, ?_⟩) | ((with_reducible refine gate_callee (f := 66) rfl ?_); refine goesL_ (some 14) rfl rfl Tryd.func66 (by kernel_rfl) rfl #[.int .i64 a0] rfl (by (try simp only [List.map_toArray, List.map_cons, List.map_nil]); first | done | rfl | (simp only [List.length_drop, List.length_take]; rfl)) ?_; (with_reducible refine (quarterdeckref02_sign.calls a0 t126 _ A6.out).mono ?_); rintro e w' ⟨rfl, ⟨nd, rfl⟩⟩; refine ⟨_, rfl, ?_⟩) | ((with_reducible refine gate_callee (f := 67) rfl ?_); refine goesL_ (some 16) rfl rfl Tryd.func67 (by kernel_rfl) rfl #[] rfl (by (try simp only [List.map_toArray, List.map_cons, List.map_nil]); first | done | rfl | (simp only [List.length_drop, List.length_take]; rfl)) ?_; (with_reducible refine (quarterdeckref02_inf.calls  t127 _ A7.out).mono ?_); rintro e w' ⟨rfl, ⟨nd, rfl⟩⟩; refine ⟨_, rfl, ?_⟩) | ((with_reducible refine gate_callee (f := 68) rfl ?_); refine goesL_ (some 40) rfl rfl Tryd.func68 (by kernel_rfl) rfl #[.bool t126, .int .i64 (wrap64 ((wrap64 (Int.tdiv t125 2)) + 1))] rfl (by (try simp only [List.map_toArray, List.map_cons, List.map_nil]); first | done | rfl | (simp only [List.length_drop, List.length_take]; rfl)) ?_; (with_reducible refine (quarterdeckref02_with.calls t126 (wrap64 ((wrap64 (Int.tdiv t125 2)) + 1)) t129 _ A13.out).mono ?_); rintro e w' ⟨rfl, ⟨nd, rfl⟩⟩; refine ⟨_, rfl, ?_⟩))
            go_ret
            exact ⟨by first | rfl | (simp; done) | (simp [*]; done), by repeat (first | exact Drawn0.refl _ | apply Drawn0.step)⟩
          · rw [if_neg c12] at H
            have c12b0 : ((Int.tmod (wrap64 (Int.tdiv t125 2)) 2) == 1) = false := beq_eq_false_iff_ne.mpr c12
            have c12b1 : ((Int.tmod (wrap64 (Int.tdiv t125 2)) 2) != 1) = true := bne_iff_ne.mpr c12
            replace H := Option.bind_eq_some_iff.mp H
            obtain ⟨t130, A140, H⟩ := H
            replace H : (some t130) = some r := H
            have A14 := Aside0.mk A140
            clear A140
            obtain rfl := Option.some.inj H
            go_enter Tryd.func42, Tryd.ntmps42
            go_wp2_with (first | ((with_reducible refine gate_callee (f := 63) rfl ?_); refine goesL_ (some 8) rfl rfl Tryd.func63 (by kernel_rfl) rfl #[.int .i64 a0] rfl (by (try simp only [List.map_toArray, List.map_cons, List.map_nil]); first | done | rfl | (simp only [List.length_drop, List.length_take]; rfl)) ?_; (with_reducible refine (quarterdeckref02_nan.calls a0 false _ A2.out).mono ?_); rintro e w' ⟨rfl, ⟨nd, rfl⟩⟩; refine ⟨_, rfl, ?_⟩) | ((with_reducible refine gate_callee (f := 65) rfl ?_); refine goesL_ (some 12) rfl rfl Tryd.func65 (by kernel_rfl) rfl #[.int .i64 a0] rfl (by (try simp only [List.map_toArray, List.map_cons, List.map_nil]); first | done | rfl | (simp only [List.length_drop, List.length_take]; rfl)) ?_; (with_reducible refine (quarterdeckref02_rest.calls a0 t125 _ A5.out).mono ?_); rintro e w' ⟨rfl, ⟨nd, rfl⟩⟩; refine ⟨_, rfl, ?_⟩) | ((with_reducible refine gate_callee (f := 66) rfl ?_); refine goesL_ (some 14) rfl rfl Tryd.func66 (by kernel_rfl) rfl #[.int .i64 a0] rfl (by (try simp only [List.map_toArray, List.map_cons, List.map_nil]); first | done | rfl | (simp only [List.length_drop, List.length_take]; rfl)) ?_; (with_reducible refine (quarterdeckref02_sign.calls a0 t126 _ A6.out).mono ?_); rintro e w' ⟨rfl, ⟨nd, rfl⟩⟩; refine ⟨_, rfl, ?_⟩) | ((with_reducible refine gate_callee (f := 67) rfl ?_); refine goesL_ (some 16) rfl rfl Tryd.func67 (by kernel_rfl) rfl #[] rfl (by (try simp only [List.map_toArray, List.map_cons, List.map_nil]); first | done | rfl | (simp only [List.length_drop, List.length_take]; rfl)) ?_; (with_reducible refine (quarterdeckref02_inf.calls  t127 _ A7.out).mono ?_); rintro e w' ⟨rfl, ⟨nd, rfl⟩⟩; refine ⟨_, rfl, ?_⟩) | ((with_reducible refine gate_callee (f := 68) rfl ?_); refine goesL_ (some 40) rfl rfl Tryd.func68 (by kernel_rfl) rfl #[.bool t126, .int .i64 (wrap64 (Int.tdiv t125 2))] rfl (by (try simp only [List.map_toArray, List.map_cons, List.map_nil]); first | done | rfl | (simp only [List.length_drop, List.length_take]; rfl)) ?_; (with_reducible refine (quarterdeckref02_with.calls t126 (wrap64 (Int.tdiv t125 2)) t130 _ A14.out).mono ?_); rintro e w' ⟨rfl, ⟨nd, rfl⟩⟩; refine ⟨_, rfl, ?_⟩))
            go_ret
            exact ⟨by first | rfl | (simp; done) | (simp [*]; done), by repeat (first | exact Drawn0.refl _ | apply Drawn0.step)⟩
        · rw [if_neg c11] at H
          have c11b0 : ((Int.tmod t125 2) == 1) = false := beq_eq_false_iff_ne.mpr c11
          have c11b1 : ((Int.tmod t125 2) != 1) = true := bne_iff_ne.mpr c11
          replace H := Option.bind_eq_some_iff.mp H
          obtain ⟨t131, A150, H⟩ := H
          replace H : (some t131) = some r := H
          have A15 := Aside0.mk A150
          clear A150
          obtain rfl := Option.some.inj H
          go_enter Tryd.func42, Tryd.ntmps42
          go_wp2_with (first | ((with_reducible refine gate_callee (f := 63) rfl ?_); refine goesL_ (some 8) rfl rfl Tryd.func63 (by kernel_rfl) rfl #[.int .i64 a0] rfl (by (try simp only [List.map_toArray, List.map_cons, List.map_nil]); first | done | rfl | (simp only [List.length_drop, List.length_take]; rfl)) ?_; (with_reducible refine (quarterdeckref02_nan.calls a0 false _ A2.out).mono ?_); rintro e w' ⟨rfl, ⟨nd, rfl⟩⟩; refine ⟨_, rfl, ?_⟩) | ((with_reducible refine gate_callee (f := 65) rfl ?_); refine goesL_ (some 12) rfl rfl Tryd.func65 (by kernel_rfl) rfl #[.int .i64 a0] rfl (by (try simp only [List.map_toArray, List.map_cons, List.map_nil]); first | done | rfl | (simp only [List.length_drop, List.length_take]; rfl)) ?_; (with_reducible refine (quarterdeckref02_rest.calls a0 t125 _ A5.out).mono ?_); rintro e w' ⟨rfl, ⟨nd, rfl⟩⟩; refine ⟨_, rfl, ?_⟩) | ((with_reducible refine gate_callee (f := 66) rfl ?_); refine goesL_ (some 14) rfl rfl Tryd.func66 (by kernel_rfl) rfl #[.int .i64 a0] rfl (by (try simp only [List.map_toArray, List.map_cons, List.map_nil]); first | done | rfl | (simp only [List.length_drop, List.length_take]; rfl)) ?_; (with_reducible refine (quarterdeckref02_sign.calls a0 t126 _ A6.out).mono ?_); rintro e w' ⟨rfl, ⟨nd, rfl⟩⟩; refine ⟨_, rfl, ?_⟩) | ((with_reducible refine gate_callee (f := 67) rfl ?_); refine goesL_ (some 16) rfl rfl Tryd.func67 (by kernel_rfl) rfl #[] rfl (by (try simp only [List.map_toArray, List.map_cons, List.map_nil]); first | done | rfl | (simp only [List.length_drop, List.length_take]; rfl)) ?_; (with_reducible refine (quarterdeckref02_inf.calls  t127 _ A7.out).mono ?_); rintro e w' ⟨rfl, ⟨nd, rfl⟩⟩; refine ⟨_, rfl, ?_⟩) | ((with_reducible refine gate_callee (f := 68) rfl ?_); refine goesL_ (some 40) rfl rfl Tryd.func68 (by kernel_rfl) rfl #[.bool t126, .int .i64 (wrap64 (Int.tdiv t125 2))] rfl (by (try simp only [List.map_toArray, List.map_cons, List.map_nil]); first | done | rfl | (simp only [List.length_drop, List.length_take]; rfl)) ?_; (with_reducible refine (quarterdeckref02_with.calls t126 (wrap64 (Int.tdiv t125 2)) t131 _ A15.out).mono ?_); rintro e w' ⟨rfl, ⟨nd, rfl⟩⟩; refine ⟨_, rfl, ?_⟩))
          go_ret
          exact ⟨by first | rfl | (simp; done) | (simp [*]; done), by repeat (first | exact Drawn0.refl _ | apply Drawn0.step)⟩

/-! ### quarterdeckref02_Twice: function 43 -/
def quarterdeckref02_Twice.f (a0 : Int) : Option (Int) := (quarterdeckref02_nan.f a0).bind fun t132 => (if t132 = true then ((quarterdeckref02_none.f).bind fun t133 => (some t133)) else ((quarterdeckref02_rest.f a0).bind fun t134 => ((quarterdeckref02_sign.f a0).bind fun t135 => ((quarterdeckref02_inf.f).bind fun t136 => (if t134 = t136 then (some a0) else (if (t134 / 4503599627370496) = 0 then ((quarterdeckref02_with.f t135 (wrap64 (2 * t134))).bind fun t137 => (some t137)) else ((quarterdeckref02_inf.f).bind fun t138 => (if (wrap64 (t134 + 4503599627370496)) > t138 then ((quarterdeckref02_inf.f).bind fun t139 => ((quarterdeckref02_with.f t135 t139).bind fun t140 => (some t140))) else ((quarterdeckref02_with.f t135 (wrap64 (t134 + 4503599627370496))).bind fun t141 => (some t141))))))))))
set_option maxHeartbeats 8000000 in
set_option maxRecDepth 100000 in
theorem quarterdeckref02_Twice.calls (a0 : Int) (r : Int) (w : World) (h : quarterdeckref02_Twice.f a0 = some r) :
    Calls Tryd.prog 43 #[.int .i64 a0] w fun e w' => e = .returned (.int .i64 r) ∧ Drawn0 w w' := by
  have H : ((quarterdeckref02_nan.f a0).bind fun t132 => (if t132 = true then ((quarterdeckref02_none.f).bind fun t133 => (some t133)) else ((quarterdeckref02_rest.f a0).bind fun t134 => ((quarterdeckref02_sign.f a0).bind fun t135 => ((quarterdeckref02_inf.f).bind fun t136 => (if t134 = t136 then (some a0) else (if (t134 / 4503599627370496) = 0 then ((quarterdeckref02_with.f t135 (wrap64 (2 * t134))).bind fun t137 => (some t137)) else ((quarterdeckref02_inf.f).bind fun t138 => (if (wrap64 (t134 + 4503599627370496)) > t138 then ((quarterdeckref02_inf.f).bind fun t139 => ((quarterdeckref02_with.f t135 t139).bind fun t140 => (some t140))) else ((quarterdeckref02_with.f t135 (wrap64 (t134 + 4503599627370496))).bind fun t141 => (some t141))))))))))) = some r := h
  clear h
  replace H := Option.bind_eq_some_iff.mp H
  obtain ⟨t132, A20, H⟩ := H
  replace H : (if t132 = true then ((quarterdeckref02_none.f).bind fun t133 => (some t133)) else ((quarterdeckref02_rest.f a0).bind fun t134 => ((quarterdeckref02_sign.f a0).bind fun t135 => ((quarterdeckref02_inf.f).bind fun t136 => (if t134 = t136 then (some a0) else (if (t134 / 4503599627370496) = 0 then ((quarterdeckref02_with.f t135 (wrap64 (2 * t134))).bind fun t137 => (some t137)) else ((quarterdeckref02_inf.f).bind fun t138 => (if (wrap64 (t134 + 4503599627370496)) > t138 then ((quarterdeckref02_inf.f).bind fun t139 => ((quarterdeckref02_with.f t135 t139).bind fun t140 => (some t140))) else ((quarterdeckref02_with.f t135 (wrap64 (t134 + 4503599627370496))).bind fun t141 => (some t141)))))))))) = some r := H
  have A2 := Aside0.mk A20
  clear A20
  by_cases c3 : t132 = true
  · subst c3
    have H1 : ((quarterdeckref02_none.f).bind fun t133 => (some t133)) = some r := by rw [if_pos rfl] at H; exact H
    clear H
    have H := H1
    clear H1
    replace H := Option.bind_eq_some_iff.mp H
    obtain ⟨t133, A40, H⟩ := H
    replace H : (some t133) = some r := H
    have A4 := Aside0.mk A40
    clear A40
    obtain rfl := Option.some.inj H
    go_enter Tryd.func43, Tryd.ntmps43
    go_wp2_with (first | ((with_reducible refine gate_callee (f := 63) rfl ?_); refine goesL_ (some 7) rfl rfl Tryd.func63 (by kernel_rfl) rfl #[.int .i64 a0] rfl (by (try simp only [List.map_toArray, List.map_cons, List.map_nil]); first | done | rfl | (simp only [List.length_drop, List.length_take]; rfl)) ?_; (with_reducible refine (quarterdeckref02_nan.calls a0 true _ A2.out).mono ?_); rintro e w' ⟨rfl, ⟨nd, rfl⟩⟩; refine ⟨_, rfl, ?_⟩) | ((with_reducible refine gate_callee (f := 64) rfl ?_); refine goesL_ (some 9) rfl rfl Tryd.func64 (by kernel_rfl) rfl #[] rfl (by (try simp only [List.map_toArray, List.map_cons, List.map_nil]); first | done | rfl | (simp only [List.length_drop, List.length_take]; rfl)) ?_; (with_reducible refine (quarterdeckref02_none.calls  t133 _ A4.out).mono ?_); rintro e w' ⟨rfl, ⟨nd, rfl⟩⟩; refine ⟨_, rfl, ?_⟩))
    go_ret
    exact ⟨by first | rfl | (simp; done) | (simp [*]; done), by repeat (first | exact Drawn0.refl _ | apply Drawn0.step)⟩
  · replace c3 := Bool.eq_false_iff.mpr c3
    subst c3
    have H1 : ((quarterdeckref02_rest.f a0).bind fun t134 => ((quarterdeckref02_sign.f a0).bind fun t135 => ((quarterdeckref02_inf.f).bind fun t136 => (if t134 = t136 then (some a0) else (if (t134 / 4503599627370496) = 0 then ((quarterdeckref02_with.f t135 (wrap64 (2 * t134))).bind fun t137 => (some t137)) else ((quarterdeckref02_inf.f).bind fun t138 => (if (wrap64 (t134 + 4503599627370496)) > t138 then ((quarterdeckref02_inf.f).bind fun t139 => ((quarterdeckref02_with.f t135 t139).bind fun t140 => (some t140))) else ((quarterdeckref02_with.f t135 (wrap64 (t134 + 4503599627370496))).bind fun t141 => (some t141))))))))) = some r := by rw [if_neg (show ¬ (false = true) by decide)] at H; exact H
    clear H
    have H := H1
    clear H1
    replace H := Option.bind_eq_some_iff.mp H
    obtain ⟨t134, A50, H⟩ := H
    replace H : ((quarterdeckref02_sign.f a0).bind fun t135 => ((quarterdeckref02_inf.f).bind fun t136 => (if t134 = t136 then (some a0) else (if (t134 / 4503599627370496) = 0 then ((quarterdeckref02_with.f t135 (wrap64 (2 * t134))).bind fun t137 => (some t137)) else ((quarterdeckref02_inf.f).bind fun t138 => (if (wrap64 (t134 + 4503599627370496)) > t138 then ((quarterdeckref02_inf.f).bind fun t139 => ((quarterdeckref02_with.f t135 t139).bind fun t140 => (some t140))) else ((quarterdeckref02_with.f t135 (wrap64 (t134 + 4503599627370496))).bind fun t141 => (some t141)))))))) = some r := H
    have A5 := Aside0.mk A50
    clear A50
    replace H := Option.bind_eq_some_iff.mp H
    obtain ⟨t135, A60, H⟩ := H
    replace H : ((quarterdeckref02_inf.f).bind fun t136 => (if t134 = t136 then (some a0) else (if (t134 / 4503599627370496) = 0 then ((quarterdeckref02_with.f t135 (wrap64 (2 * t134))).bind fun t137 => (some t137)) else ((quarterdeckref02_inf.f).bind fun t138 => (if (wrap64 (t134 + 4503599627370496)) > t138 then ((quarterdeckref02_inf.f).bind fun t139 => ((quarterdeckref02_with.f t135 t139).bind fun t140 => (some t140))) else ((quarterdeckref02_with.f t135 (wrap64 (t134 + 4503599627370496))).bind fun t141 => (some t141))))))) = some r := H
    have A6 := Aside0.mk A60
    clear A60
    replace H := Option.bind_eq_some_iff.mp H
    obtain ⟨t136, A70, H⟩ := H
    replace H : (if t134 = t136 then (some a0) else (if (t134 / 4503599627370496) = 0 then ((quarterdeckref02_with.f t135 (wrap64 (2 * t134))).bind fun t137 => (some t137)) else ((quarterdeckref02_inf.f).bind fun t138 => (if (wrap64 (t134 + 4503599627370496)) > t138 then ((quarterdeckref02_inf.f).bind fun t139 => ((quarterdeckref02_with.f t135 t139).bind fun t140 => (some t140))) else ((quarterdeckref02_with.f t135 (wrap64 (t134 + 4503599627370496))).bind fun t141 => (some t141)))))) = some r := H
    have A7 := Aside0.mk A70
    clear A70
    by_cases c8 : t134 = t136
    · rw [if_pos c8] at H
      have c8b0 : (t134 == t136) = true := beq_iff_eq.mpr c8
      have c8b1 : (t134 != t136) = false := bne_eq_false_iff_eq.mpr c8
      clear c8
      obtain rfl := Option.some.inj H
      go_enter Tryd.func43, Tryd.ntmps43
      go_wp2_with (first | ((with_reducible refine gate_callee (f := 63) rfl ?_); refine goesL_ (some 7) rfl rfl Tryd.func63 (by kernel_rfl) rfl #[.int .i64 a0] rfl (by (try simp only [List.map_toArray, List.map_cons, List.map_nil]); first | done | rfl | (simp only [List.length_drop, List.length_take]; rfl)) ?_; (with_reducible refine (quarterdeckref02_nan.calls a0 false _ A2.out).mono ?_); rintro e w' ⟨rfl, ⟨nd, rfl⟩⟩; refine ⟨_, rfl, ?_⟩) | ((with_reducible refine gate_callee (f := 65) rfl ?_); refine goesL_ (some 11) rfl rfl Tryd.func65 (by kernel_rfl) rfl #[.int .i64 a0] rfl (by (try simp only [List.map_toArray, List.map_cons, List.map_nil]); first | done | rfl | (simp only [List.length_drop, List.length_take]; rfl)) ?_; (with_reducible refine (quarterdeckref02_rest.calls a0 t134 _ A5.out).mono ?_); rintro e w' ⟨rfl, ⟨nd, rfl⟩⟩; refine ⟨_, rfl, ?_⟩) | ((with_reducible refine gate_callee (f := 66) rfl ?_); refine goesL_ (some 13) rfl rfl Tryd.func66 (by kernel_rfl) rfl #[.int .i64 a0] rfl (by (try simp only [List.map_toArray, List.map_cons, List.map_nil]); first | done | rfl | (simp only [List.length_drop, List.length_take]; rfl)) ?_; (with_reducible refine (quarterdeckref02_sign.calls a0 t135 _ A6.out).mono ?_); rintro e w' ⟨rfl, ⟨nd, rfl⟩⟩; refine ⟨_, rfl, ?_⟩) | ((with_reducible refine gate_callee (f := 67) rfl ?_); refine goesL_ (some 15) rfl rfl Tryd.func67 (by kernel_rfl) rfl #[] rfl (by (try simp only [List.map_toArray, List.map_cons, List.map_nil]); first | done | rfl | (simp only [List.length_drop, List.length_take]; rfl)) ?_; (with_reducible refine (quarterdeckref02_inf.calls  t136 _ A7.out).mono ?_); rintro e w' ⟨rfl, ⟨nd, rfl⟩⟩; refine ⟨_, rfl, ?_⟩))
      go_ret
      exact ⟨by first | rfl | (simp; done) | (simp [*]; done), by repeat (first | exact Drawn0.refl _ | apply Drawn0.step)⟩
    · rw [if_neg c8] at H
      have c8b0 : (t134 == t136) = false := beq_eq_false_iff_ne.mpr c8
      have c8b1 : (t134 != t136) = true := bne_iff_ne.mpr c8
      by_cases c9 : (t134 / 4503599627370496) = 0
      · rw [if_pos c9] at H
        have c9b0 : ((t134 / 4503599627370496) == 0) = true := beq_iff_eq.mpr c9
        have c9b1 : ((t134 / 4503599627370496) != 0) = false := bne_eq_false_iff_eq.mpr c9
        clear c9
        replace H := Option.bind_eq_some_iff.mp H
        obtain ⟨t137, A100, H⟩ := H
        replace H : (some t137) = some r := H
        have A10 := Aside0.mk A100
        clear A100
        obtain rfl := Option.some.inj H
        go_enter Tryd.func43, Tryd.ntmps43
        go_wp2_with (first | ((with_reducible refine gate_callee (f := 63) rfl ?_); refine goesL_ (some 7) rfl rfl Tryd.func63 (by kernel_rfl) rfl #[.int .i64 a0] rfl (by (try simp only [List.map_toArray, List.map_cons, List.map_nil]); first | done | rfl | (simp only [List.length_drop, List.length_take]; rfl)) ?_; (with_reducible refine (quarterdeckref02_nan.calls a0 false _ A2.out).mono ?_); rintro e w' ⟨rfl, ⟨nd, rfl⟩⟩; refine ⟨_, rfl, ?_⟩) | ((with_reducible refine gate_callee (f := 65) rfl ?_); refine goesL_ (some 11) rfl rfl Tryd.func65 (by kernel_rfl) rfl #[.int .i64 a0] rfl (by (try simp only [List.map_toArray, List.map_cons, List.map_nil]); first | done | rfl | (simp only [List.length_drop, List.length_take]; rfl)) ?_; (with_reducible refine (quarterdeckref02_rest.calls a0 t134 _ A5.out).mono ?_); rintro e w' ⟨rfl, ⟨nd, rfl⟩⟩; refine ⟨_, rfl, ?_⟩) | ((with_reducible refine gate_callee (f := 66) rfl ?_); refine goesL_ (some 13) rfl rfl Tryd.func66 (by kernel_rfl) rfl #[.int .i64 a0] rfl (by (try simp only [List.map_toArray, List.map_cons, List.map_nil]); first | done | rfl | (simp only [List.length_drop, List.length_take]; rfl)) ?_; (with_reducible refine (quarterdeckref02_sign.calls a0 t135 _ A6.out).mono ?_); rintro e w' ⟨rfl, ⟨nd, rfl⟩⟩; refine ⟨_, rfl, ?_⟩) | ((with_reducible refine gate_callee (f := 67) rfl ?_); refine goesL_ (some 15) rfl rfl Tryd.func67 (by kernel_rfl) rfl #[] rfl (by (try simp only [List.map_toArray, List.map_cons, List.map_nil]); first | done | rfl | (simp only [List.length_drop, List.length_take]; rfl)) ?_; (with_reducible refine (quarterdeckref02_inf.calls  t136 _ A7.out).mono ?_); rintro e w' ⟨rfl, ⟨nd, rfl⟩⟩; refine ⟨_, rfl, ?_⟩) | ((with_reducible refine gate_callee (f := 68) rfl ?_); refine goesL_ (some 24) rfl rfl Tryd.func68 (by kernel_rfl) rfl #[.bool t135, .int .i64 (wrap64 (2 * t134))] rfl (by (try simp only [List.map_toArray, List.map_cons, List.map_nil]); first | done | rfl | (simp only [List.length_drop, List.length_take]; rfl)) ?_; (with_reducible refine (quarterdeckref02_with.calls t135 (wrap64 (2 * t134)) t137 _ A10.out).mono ?_); rintro e w' ⟨rfl, ⟨nd, rfl⟩⟩; refine ⟨_, rfl, ?_⟩))
        go_ret
        exact ⟨by first | rfl | (simp; done) | (simp [*]; done), by repeat (first | exact Drawn0.refl _ | apply Drawn0.step)⟩
      · rw [if_neg c9] at H
        have c9b0 : ((t134 / 4503599627370496) == 0) = false := beq_eq_false_iff_ne.mpr c9
        have c9b1 : ((t134 / 4503599627370496) != 0) = true := bne_iff_ne.mpr c9
        replace H := Option.bind_eq_some_iff.mp H
        obtain ⟨t138, A110, H⟩ := H
        replace H : (if (wrap64 (t134 + 4503599627370496)) > t138 then ((quarterdeckref02_inf.f).bind fun t139 => ((quarterdeckref02_with.f t135 t139).bind fun t140 => (some t140))) else ((quarterdeckref02_with.f t135 (wrap64 (t134 + 4503599627370496))).bind fun t141 => (some t141))) = some r := H
        have A11 := Aside0.mk A110
        clear A110
        by_cases c12 : (wrap64 (t134 + 4503599627370496)) > t138
        · rw [if_pos c12] at H
          have c12b0 : decide (t138 < (wrap64 (t134 + 4503599627370496))) = true := decide_eq_true c12
          clear c12
          replace H := Option.bind_eq_some_iff.mp H
          obtain ⟨t139, A130, H⟩ := H
          replace H : ((quarterdeckref02_with.f t135 t139).bind fun t140 => (some t140)) = some r := H
          have A13 := Aside0.mk A130
          clear A130
          replace H := Option.bind_eq_some_iff.mp H
          obtain ⟨t140, A140, H⟩ := H
          replace H : (some t140) = some r := H
          have A14 := Aside0.mk A140
          clear A140
          obtain rfl := Option.some.inj H
          go_enter Tryd.func43, Tryd.ntmps43
          go_wp2_with (first | ((with_reducible refine gate_callee (f := 63) rfl ?_); refine goesL_ (some 7) rfl rfl Tryd.func63 (by kernel_rfl) rfl #[.int .i64 a0] rfl (by (try simp only [List.map_toArray, List.map_cons, List.map_nil]); first | done | rfl | (simp only [List.length_drop, List.length_take]; rfl)) ?_; (with_reducible refine (quarterdeckref02_nan.calls a0 false _ A2.out).mono ?_); rintro e w' ⟨rfl, ⟨nd, rfl⟩⟩; refine ⟨_, rfl, ?_⟩) | ((with_reducible refine gate_callee (f := 65) rfl ?_); refine goesL_ (some 11) rfl rfl Tryd.func65 (by kernel_rfl) rfl #[.int .i64 a0] rfl (by (try simp only [List.map_toArray, List.map_cons, List.map_nil]); first | done | rfl | (simp only [List.length_drop, List.length_take]; rfl)) ?_; (with_reducible refine (quarterdeckref02_rest.calls a0 t134 _ A5.out).mono ?_); rintro e w' ⟨rfl, ⟨nd, rfl⟩⟩; refine ⟨_, rfl, ?_⟩) | ((with_reducible refine gate_callee (f := 66) rfl ?_); refine goesL_ (some 13) rfl rfl Tryd.func66 (by kernel_rfl) rfl #[.int .i64 a0] rfl (by (try simp only [List.map_toArray, List.map_cons, List.map_nil]); first | done | rfl | (simp only [List.length_drop, List.length_take]; rfl)) ?_; (with_reducible refine (quarterdeckref02_sign.calls a0 t135 _ A6.out).mono ?_); rintro e w' ⟨rfl, ⟨nd, rfl⟩⟩; refine ⟨_, rfl, ?_⟩) | ((with_reducible refine gate_callee (f := 67) rfl ?_); refine goesL_ (some 15) rfl rfl Tryd.func67 (by kernel_rfl) rfl #[] rfl (by (try simp only [List.map_toArray, List.map_cons, List.map_nil]); first | done | rfl | (simp only [List.length_drop, List.length_take]; rfl)) ?_; (with_reducible refine (quarterdeckref02_inf.calls  t136 _ A7.out).mono ?_); rintro e w' ⟨rfl, ⟨nd, rfl⟩⟩; refine ⟨_, rfl, ?_⟩) | ((with_reducible refine gate_callee (f := 67) rfl ?_); refine goesL_ (some 28) rfl rfl Tryd.func67 (by kernel_rfl) rfl #[] rfl (by (try simp only [List.map_toArray, List.map_cons, List.map_nil]); first | done | rfl | (simp only [List.length_drop, List.length_take]; rfl)) ?_; (with_reducible refine (quarterdeckref02_inf.calls  t138 _ A11.out).mono ?_); rintro e w' ⟨rfl, ⟨nd, rfl⟩⟩; refine ⟨_, rfl, ?_⟩) | ((with_reducible refine gate_callee (f := 67) rfl ?_); refine goesL_ (some 30) rfl rfl Tryd.func67 (by kernel_rfl) rfl #[] rfl (by (try simp only [List.map_toArray, List.map_cons, List.map_nil]); first | done | rfl | (simp only [List.length_drop, List.length_take]; rfl)) ?_; (with_reducible refine (quarterdeckref02_inf.calls  t139 _ A13.out).mono ?_); rintro e w' ⟨rfl, ⟨nd, rfl⟩⟩; refine ⟨_, rfl, ?_⟩) | ((with_reducible refine gate_callee (f := 68) rfl ?_); refine goesL_ (some 33) rfl rfl Tryd.func68 (by kernel_rfl) rfl #[.bool t135, .int .i64 t139] rfl (by (try simp only [List.map_toArray, List.map_cons, List.map_nil]); first | done | rfl | (simp only [List.length_drop, List.length_take]; rfl)) ?_; (with_reducible refine (quarterdeckref02_with.calls t135 t139 t140 _ A14.out).mono ?_); rintro e w' ⟨rfl, ⟨nd, rfl⟩⟩; refine ⟨_, rfl, ?_⟩))
          go_ret
          exact ⟨by first | rfl | (simp; done) | (simp [*]; done), by repeat (first | exact Drawn0.refl _ | apply Drawn0.step)⟩
        · rw [if_neg c12] at H
          have c12b0 : decide (t138 < (wrap64 (t134 + 4503599627370496))) = false := decide_eq_false c12
          clear c12
          replace H := Option.bind_eq_some_iff.mp H
          obtain ⟨t141, A150, H⟩ := H
          replace H : (some t141) = some r := H
          have A15 := Aside0.mk A150
          clear A150
          obtain rfl := Option.some.inj H
          go_enter Tryd.func43, Tryd.ntmps43
          go_wp2_with (first | ((with_reducible refine gate_callee (f := 63) rfl ?_); refine goesL_ (some 7) rfl rfl Tryd.func63 (by kernel_rfl) rfl #[.int .i64 a0] rfl (by (try simp only [List.map_toArray, List.map_cons, List.map_nil]); first | done | rfl | (simp only [List.length_drop, List.length_take]; rfl)) ?_; (with_reducible refine (quarterdeckref02_nan.calls a0 false _ A2.out).mono ?_); rintro e w' ⟨rfl, ⟨nd, rfl⟩⟩; refine ⟨_, rfl, ?_⟩) | ((with_reducible refine gate_callee (f := 65) rfl ?_); refine goesL_ (some 11) rfl rfl Tryd.func65 (by kernel_rfl) rfl #[.int .i64 a0] rfl (by (try simp only [List.map_toArray, List.map_cons, List.map_nil]); first | done | rfl | (simp only [List.length_drop, List.length_take]; rfl)) ?_; (with_reducible refine (quarterdeckref02_rest.calls a0 t134 _ A5.out).mono ?_); rintro e w' ⟨rfl, ⟨nd, rfl⟩⟩; refine ⟨_, rfl, ?_⟩) | ((with_reducible refine gate_callee (f := 66) rfl ?_); refine goesL_ (some 13) rfl rfl Tryd.func66 (by kernel_rfl) rfl #[.int .i64 a0] rfl (by (try simp only [List.map_toArray, List.map_cons, List.map_nil]); first | done | rfl | (simp only [List.length_drop, List.length_take]; rfl)) ?_; (with_reducible refine (quarterdeckref02_sign.calls a0 t135 _ A6.out).mono ?_); rintro e w' ⟨rfl, ⟨nd, rfl⟩⟩; refine ⟨_, rfl, ?_⟩) | ((with_reducible refine gate_callee (f := 67) rfl ?_); refine goesL_ (some 15) rfl rfl Tryd.func67 (by kernel_rfl) rfl #[] rfl (by (try simp only [List.map_toArray, List.map_cons, List.map_nil]); first | done | rfl | (simp only [List.length_drop, List.length_take]; rfl)) ?_; (with_reducible refine (quarterdeckref02_inf.calls  t136 _ A7.out).mono ?_); rintro e w' ⟨rfl, ⟨nd, rfl⟩⟩; refine ⟨_, rfl, ?_⟩) | ((with_reducible refine gate_callee (f := 67) rfl ?_); refine goesL_ (some 28) rfl rfl Tryd.func67 (by kernel_rfl) rfl #[] rfl (by (try simp only [List.map_toArray, List.map_cons, List.map_nil]); first | done | rfl | (simp only [List.length_drop, List.length_take]; rfl)) ?_; (with_reducible refine (quarterdeckref02_inf.calls  t138 _ A11.out).mono ?_); rintro e w' ⟨rfl, ⟨nd, rfl⟩⟩; refine ⟨_, rfl, ?_⟩) | ((with_reducible refine gate_callee (f := 68) rfl ?_); refine goesL_ (some 33) rfl rfl Tryd.func68 (by kernel_rfl) rfl #[.bool t135, .int .i64 (wrap64 (t134 + 4503599627370496))] rfl (by (try simp only [List.map_toArray, List.map_cons, List.map_nil]); first | done | rfl | (simp only [List.length_drop, List.length_take]; rfl)) ?_; (with_reducible refine (quarterdeckref02_with.calls t135 (wrap64 (t134 + 4503599627370496)) t141 _ A15.out).mono ?_); rintro e w' ⟨rfl, ⟨nd, rfl⟩⟩; refine ⟨_, rfl, ?_⟩))
          go_ret
          exact ⟨by first | rfl | (simp; done) | (simp [*]; done), by repeat (first | exact Drawn0.refl _ | apply Drawn0.step)⟩

/-! ### quarterdeckref02_Flip: function 44 -/
def quarterdeckref02_Flip.f (a0 : Int) : Option (Int) := (quarterdeckref02_nan.f a0).bind fun t142 => (if t142 = true then ((quarterdeckref02_none.f).bind fun t143 => (some t143)) else ((quarterdeckref02_sign.f a0).bind fun t144 => ((quarterdeckref02_rest.f a0).bind fun t145 => ((quarterdeckref02_with.f (!t144) t145).bind fun t146 => (some t146)))))
set_option maxHeartbeats 8000000 in
set_option maxRecDepth 100000 in
theorem quarterdeckref02_Flip.calls (a0 : Int) (r : Int) (w : World) (h : quarterdeckref02_Flip.f a0 = some r) :
    Calls Tryd.prog 44 #[.int .i64 a0] w fun e w' => e = .returned (.int .i64 r) ∧ Drawn0 w w' := by
  have H : ((quarterdeckref02_nan.f a0).bind fun t142 => (if t142 = true then ((quarterdeckref02_none.f).bind fun t143 => (some t143)) else ((quarterdeckref02_sign.f a0).bind fun t144 => ((quarterdeckref02_rest.f a0).bind fun t145 => ((quarterdeckref02_with.f (!t144) t145).bind fun t146 => (some t146)))))) = some r := h
  clear h
  replace H := Option.bind_eq_some_iff.mp H
  obtain ⟨t142, A20, H⟩ := H
  replace H : (if t142 = true then ((quarterdeckref02_none.f).bind fun t143 => (some t143)) else ((quarterdeckref02_sign.f a0).bind fun t144 => ((quarterdeckref02_rest.f a0).bind fun t145 => ((quarterdeckref02_with.f (!t144) t145).bind fun t146 => (some t146))))) = some r := H
  have A2 := Aside0.mk A20
  clear A20
  by_cases c3 : t142 = true
  · subst c3
    have H1 : ((quarterdeckref02_none.f).bind fun t143 => (some t143)) = some r := by rw [if_pos rfl] at H; exact H
    clear H
    have H := H1
    clear H1
    replace H := Option.bind_eq_some_iff.mp H
    obtain ⟨t143, A40, H⟩ := H
    replace H : (some t143) = some r := H
    have A4 := Aside0.mk A40
    clear A40
    obtain rfl := Option.some.inj H
    go_enter Tryd.func44, Tryd.ntmps44
    go_wp2_with (first | ((with_reducible refine gate_callee (f := 63) rfl ?_); refine goesL_ (some 5) rfl rfl Tryd.func63 (by kernel_rfl) rfl #[.int .i64 a0] rfl (by (try simp only [List.map_toArray, List.map_cons, List.map_nil]); first | done | rfl | (simp only [List.length_drop, List.length_take]; rfl)) ?_; (with_reducible refine (quarterdeckref02_nan.calls a0 true _ A2.out).mono ?_); rintro e w' ⟨rfl, ⟨nd, rfl⟩⟩; refine ⟨_, rfl, ?_⟩) | ((with_reducible refine gate_callee (f := 64) rfl ?_); refine goesL_ (some 7) rfl rfl Tryd.func64 (by kernel_rfl) rfl #[] rfl (by (try simp only [List.map_toArray, List.map_cons, List.map_nil]); first | done | rfl | (simp only [List.length_drop, List.length_take]; rfl)) ?_; (with_reducible refine (quarterdeckref02_none.calls  t143 _ A4.out).mono ?_); rintro e w' ⟨rfl, ⟨nd, rfl⟩⟩; refine ⟨_, rfl, ?_⟩))
    go_ret
    exact ⟨by first | rfl | (simp; done) | (simp [*]; done), by repeat (first | exact Drawn0.refl _ | apply Drawn0.step)⟩
  · replace c3 := Bool.eq_false_iff.mpr c3
    subst c3
    have H1 : ((quarterdeckref02_sign.f a0).bind fun t144 => ((quarterdeckref02_rest.f a0).bind fun t145 => ((quarterdeckref02_with.f (!t144) t145).bind fun t146 => (some t146)))) = some r := by rw [if_neg (show ¬ (false = true) by decide)] at H; exact H
    clear H
    have H := H1
    clear H1
    replace H := Option.bind_eq_some_iff.mp H
    obtain ⟨t144, A50, H⟩ := H
    replace H : ((quarterdeckref02_rest.f a0).bind fun t145 => ((quarterdeckref02_with.f (!t144) t145).bind fun t146 => (some t146))) = some r := H
    have A5 := Aside0.mk A50
    clear A50
    replace H := Option.bind_eq_some_iff.mp H
    obtain ⟨t145, A60, H⟩ := H
    replace H : ((quarterdeckref02_with.f (!t144) t145).bind fun t146 => (some t146)) = some r := H
    have A6 := Aside0.mk A60
    clear A60
    replace H := Option.bind_eq_some_iff.mp H
    obtain ⟨t146, A70, H⟩ := H
    replace H : (some t146) = some r := H
    have A7 := Aside0.mk A70
    clear A70
    obtain rfl := Option.some.inj H
    go_enter Tryd.func44, Tryd.ntmps44
    go_wp2_with (first | ((with_reducible refine gate_callee (f := 63) rfl ?_); refine goesL_ (some 5) rfl rfl Tryd.func63 (by kernel_rfl) rfl #[.int .i64 a0] rfl (by (try simp only [List.map_toArray, List.map_cons, List.map_nil]); first | done | rfl | (simp only [List.length_drop, List.length_take]; rfl)) ?_; (with_reducible refine (quarterdeckref02_nan.calls a0 false _ A2.out).mono ?_); rintro e w' ⟨rfl, ⟨nd, rfl⟩⟩; refine ⟨_, rfl, ?_⟩) | ((with_reducible refine gate_callee (f := 66) rfl ?_); refine goesL_ (some 9) rfl rfl Tryd.func66 (by kernel_rfl) rfl #[.int .i64 a0] rfl (by (try simp only [List.map_toArray, List.map_cons, List.map_nil]); first | done | rfl | (simp only [List.length_drop, List.length_take]; rfl)) ?_; (with_reducible refine (quarterdeckref02_sign.calls a0 t144 _ A5.out).mono ?_); rintro e w' ⟨rfl, ⟨nd, rfl⟩⟩; refine ⟨_, rfl, ?_⟩) | ((with_reducible refine gate_callee (f := 65) rfl ?_); refine goesL_ (some 12) rfl rfl Tryd.func65 (by kernel_rfl) rfl #[.int .i64 a0] rfl (by (try simp only [List.map_toArray, List.map_cons, List.map_nil]); first | done | rfl | (simp only [List.length_drop, List.length_take]; rfl)) ?_; (with_reducible refine (quarterdeckref02_rest.calls a0 t145 _ A6.out).mono ?_); rintro e w' ⟨rfl, ⟨nd, rfl⟩⟩; refine ⟨_, rfl, ?_⟩) | ((with_reducible refine gate_callee (f := 68) rfl ?_); refine goesL_ (some 13) rfl rfl Tryd.func68 (by kernel_rfl) rfl #[.bool (!t144), .int .i64 t145] rfl (by (try simp only [List.map_toArray, List.map_cons, List.map_nil]); first | done | rfl | (simp only [List.length_drop, List.length_take]; rfl)) ?_; (with_reducible refine (quarterdeckref02_with.calls (!t144) t145 t146 _ A7.out).mono ?_); rintro e w' ⟨rfl, ⟨nd, rfl⟩⟩; refine ⟨_, rfl, ?_⟩))
    go_ret
    exact ⟨by first | rfl | (simp; done) | (simp [*]; done), by repeat (first | exact Drawn0.refl _ | apply Drawn0.step)⟩


/-! ### quarterdeckref02_Of: function 45, given -/
def quarterdeckref02_Of.f (a0 : Int) : Option (Int) := some (Go.Proofs.YtlphgnfjemaliaaDoor.RealG.ofX a0)
theorem quarterdeckref02_Of.calls (a0 : Int) (r : Int) (w : World) (h : quarterdeckref02_Of.f a0 = some r) :
    Calls Tryd.prog 45 #[.int .i64 a0] w fun e w' => e = .returned (.int .i64 r) ∧ Drawn0 w w' := by
  unfold quarterdeckref02_Of.f at h
  injection h with h
  subst h
  exact (Go.Proofs.YtlphgnfjemaliaaDoor.RefOf.of_any a0 w).mono fun e w' ⟨h1, n, h2⟩ => ⟨h1, ⟨⟨n, h2⟩⟩⟩

/-! ### quarterdeckref02_Whole: function 46 -/
mutual
def quarterdeckref02_Whole.j0 : Nat → Int → Int → Int → Int → Option (Int)
  | 0, _, _, _, _ => none
  | k + 1, x0, x4, x5, x6 => quarterdeckref02_Whole.l0 k x0 x4 x5 x6
def quarterdeckref02_Whole.j2 : Nat → Int → Int → Int → Option (Int)
  | 0, _, _, _ => none
  | k + 1, x0, x4, x6 => if (x4 / 4503599627370496) = 0 then ((quarterdeckref02_sign.f x0).bind fun t149 => (if t149 = true then (some (-0)) else (some 0))) else ((quarterdeckref02_sign.f x0).bind fun t150 => (if t150 = true then (some (wrap64 (-x6))) else (some x6)))
def quarterdeckref02_Whole.l0 : Nat → Int → Int → Int → Int → Option (Int)
  | 0, _, _, _, _ => none
  | k + 1, x0, x4, x5, x6 => if x5 < 0 then (if x6 > 0 then (quarterdeckref02_Whole.l0 k x0 x4 (wrap64 (x5 + 1)) (wrap64 (Int.tdiv x6 2))) else (quarterdeckref02_Whole.j2 k x0 x4 x6)) else (quarterdeckref02_Whole.j2 k x0 x4 x6)
end
def quarterdeckref02_Whole.f (k : Nat) (a0 : Int) : Option (Int) := (quarterdeckref02_nan.f a0).bind fun t147 => (if t147 = true then (some 0) else ((quarterdeckref02_rest.f a0).bind fun t148 => (if (wrap64 ((t148 / 4503599627370496) - 1075)) > 0 then (quarterdeckref02_Whole.j0 k a0 t148 (wrap64 ((t148 / 4503599627370496) - 1075)) 9007199254740992) else (quarterdeckref02_Whole.j0 k a0 t148 (wrap64 ((t148 / 4503599627370496) - 1075)) (wrap64 ((Int.tmod t148 4503599627370496) + 4503599627370496))))))
theorem quarterdeckref02_Whole.mono_l : ∀ k, (∀ y0 y1 y2 y3, LeO (quarterdeckref02_Whole.j0 k y0 y1 y2 y3) (quarterdeckref02_Whole.j0 (k + 1) y0 y1 y2 y3)) ∧ (∀ y0 y1 y2, LeO (quarterdeckref02_Whole.j2 k y0 y1 y2) (quarterdeckref02_Whole.j2 (k + 1) y0 y1 y2)) ∧ (∀ y0 y1 y2 y3, LeO (quarterdeckref02_Whole.l0 k y0 y1 y2 y3) (quarterdeckref02_Whole.l0 (k + 1) y0 y1 y2 y3))
  | 0 => ⟨fun _ _ _ _ r h => by simp [quarterdeckref02_Whole.j0] at h, fun _ _ _ r h => by simp [quarterdeckref02_Whole.j2] at h, fun _ _ _ _ r h => by simp [quarterdeckref02_Whole.l0] at h⟩
  | k + 1 => by
    obtain ⟨ih0, ih1, ih2⟩ := quarterdeckref02_Whole.mono_l k
    refine ⟨?_, ?_, ?_⟩
    · intro y0 y1 y2 y3
      unfold quarterdeckref02_Whole.j0
      repeat' first
      | (with_reducible exact ih0 _ _ _ _)
      | (with_reducible exact ih1 _ _ _)
      | (with_reducible exact ih2 _ _ _ _)
      | (with_reducible exact LeO.refl _)
      | (with_reducible exact LeO.none _)
      | (with_reducible refine LeO.ite ?_ ?_)
      | (with_reducible refine LeO.bind ?_ (fun _ => ?_))
      | exact ih0 _ _ _ _
      | exact ih1 _ _ _
      | exact ih2 _ _ _ _
      | exact LeO.none _
      | refine LeO.ite ?_ ?_
      | refine LeO.bind ?_ (fun _ => ?_)
    · intro y0 y1 y2
      unfold quarterdeckref02_Whole.j2
      repeat' first
      | (with_reducible exact ih0 _ _ _ _)
      | (with_reducible exact ih1 _ _ _)
      | (with_reducible exact ih2 _ _ _ _)
      | (with_reducible exact LeO.refl _)
      | (with_reducible exact LeO.none _)
      | (with_reducible refine LeO.ite ?_ ?_)
      | (with_reducible refine LeO.bind ?_ (fun _ => ?_))
      | exact ih0 _ _ _ _
      | exact ih1 _ _ _
      | exact ih2 _ _ _ _
      | exact LeO.none _
      | refine LeO.ite ?_ ?_
      | refine LeO.bind ?_ (fun _ => ?_)
    · intro y0 y1 y2 y3
      unfold quarterdeckref02_Whole.l0
      repeat' first
      | (with_reducible exact ih0 _ _ _ _)
      | (with_reducible exact ih1 _ _ _)
      | (with_reducible exact ih2 _ _ _ _)
      | (with_reducible exact LeO.refl _)
      | (with_reducible exact LeO.none _)
      | (with_reducible refine LeO.ite ?_ ?_)
      | (with_reducible refine LeO.bind ?_ (fun _ => ?_))
      | exact ih0 _ _ _ _
      | exact ih1 _ _ _
      | exact ih2 _ _ _ _
      | exact LeO.none _
      | refine LeO.ite ?_ ?_
      | refine LeO.bind ?_ (fun _ => ?_)
theorem quarterdeckref02_Whole.mono : ∀ a0 k, LeO (quarterdeckref02_Whole.f k a0) (quarterdeckref02_Whole.f (k + 1) a0) := by
  intro a0 k
  obtain ⟨ih0, ih1, ih2⟩ := quarterdeckref02_Whole.mono_l k
  unfold quarterdeckref02_Whole.f
  repeat' first
      | (with_reducible exact ih0 _ _ _ _)
      | (with_reducible exact ih1 _ _ _)
      | (with_reducible exact ih2 _ _ _ _)
      | (with_reducible exact LeO.refl _)
      | (with_reducible exact LeO.none _)
      | (with_reducible refine LeO.ite ?_ ?_)
      | (with_reducible refine LeO.bind ?_ (fun _ => ?_))
      | exact ih0 _ _ _ _
      | exact ih1 _ _ _
      | exact ih2 _ _ _ _
      | exact LeO.none _
      | refine LeO.ite ?_ ?_
      | refine LeO.bind ?_ (fun _ => ?_)
set_option maxHeartbeats 8000000 in
set_option maxRecDepth 100000 in
theorem quarterdeckref02_Whole.calls (k : Nat) (a0 : Int) (r : Int) (w : World) (h : quarterdeckref02_Whole.f k a0 = some r) :
    Calls Tryd.prog 46 #[.int .i64 a0] w fun e w' => e = .returned (.int .i64 r) ∧ Drawn0 w w' := by
  have H : ((quarterdeckref02_nan.f a0).bind fun t147 => (if t147 = true then (some 0) else ((quarterdeckref02_rest.f a0).bind fun t148 => (if (wrap64 ((t148 / 4503599627370496) - 1075)) > 0 then (quarterdeckref02_Whole.j0 k a0 t148 (wrap64 ((t148 / 4503599627370496) - 1075)) 9007199254740992) else (quarterdeckref02_Whole.j0 k a0 t148 (wrap64 ((t148 / 4503599627370496) - 1075)) (wrap64 ((Int.tmod t148 4503599627370496) + 4503599627370496))))))) = some r := h
  clear h
  replace H := Option.bind_eq_some_iff.mp H
  obtain ⟨t147, A20, H⟩ := H
  replace H : (if t147 = true then (some 0) else ((quarterdeckref02_rest.f a0).bind fun t148 => (if (wrap64 ((t148 / 4503599627370496) - 1075)) > 0 then (quarterdeckref02_Whole.j0 k a0 t148 (wrap64 ((t148 / 4503599627370496) - 1075)) 9007199254740992) else (quarterdeckref02_Whole.j0 k a0 t148 (wrap64 ((t148 / 4503599627370496) - 1075)) (wrap64 ((Int.tmod t148 4503599627370496) + 4503599627370496)))))) = some r := H
  have A2 := Aside0.mk A20
  clear A20
  by_cases c3 : t147 = true
  · subst c3
    have H1 : (some 0) = some r := by rw [if_pos rfl] at H; exact H
    clear H
    have H := H1
    clear H1
    obtain rfl := Option.some.inj H
    go_enter Tryd.func46, Tryd.ntmps46
    go_wp2_with (first | ((with_reducible refine gate_callee (f := 63) rfl ?_); refine goesL_ (some 9) rfl rfl Tryd.func63 (by kernel_rfl) rfl #[.int .i64 a0] rfl (by (try simp only [List.map_toArray, List.map_cons, List.map_nil]); first | done | rfl | (simp only [List.length_drop, List.length_take]; rfl)) ?_; (with_reducible refine (quarterdeckref02_nan.calls a0 true _ A2.out).mono ?_); rintro e w' ⟨rfl, ⟨nd, rfl⟩⟩; refine ⟨_, rfl, ?_⟩))
    go_ret
    exact ⟨by first | rfl | (simp; done) | (simp [*]; done), by repeat (first | exact Drawn0.refl _ | apply Drawn0.step)⟩
  · replace c3 := Bool.eq_false_iff.mpr c3
    subst c3
    have H1 : ((quarterdeckref02_rest.f a0).bind fun t148 => (if (wrap64 ((t148 / 4503599627370496) - 1075)) > 0 then (quarterdeckref02_Whole.j0 k a0 t148 (wrap64 ((t148 / 4503599627370496) - 1075)) 9007199254740992) else (quarterdeckref02_Whole.j0 k a0 t148 (wrap64 ((t148 / 4503599627370496) - 1075)) (wrap64 ((Int.tmod t148 4503599627370496) + 4503599627370496))))) = some r := by rw [if_neg (show ¬ (false = true) by decide)] at H; exact H
    clear H
    have H := H1
    clear H1
    replace H := Option.bind_eq_some_iff.mp H
    obtain ⟨t148, A40, H⟩ := H
    replace H : (if (wrap64 ((t148 / 4503599627370496) - 1075)) > 0 then (quarterdeckref02_Whole.j0 k a0 t148 (wrap64 ((t148 / 4503599627370496) - 1075)) 9007199254740992) else (quarterdeckref02_Whole.j0 k a0 t148 (wrap64 ((t148 / 4503599627370496) - 1075)) (wrap64 ((Int.tmod t148 4503599627370496) + 4503599627370496)))) = some r := H
    have A4 := Aside0.mk A40
    clear A40
    have HC5 := Aside0.mk H
    clear H
    go_enter Tryd.func46, Tryd.ntmps46
    go_upto_if 20 with (first | ((with_reducible refine gate_callee (f := 63) rfl ?_); refine goesL_ (some 9) rfl rfl Tryd.func63 (by kernel_rfl) rfl #[.int .i64 a0] rfl (by (try simp only [List.map_toArray, List.map_cons, List.map_nil]); first | done | rfl | (simp only [List.length_drop, List.length_take]; rfl)) ?_; (with_reducible refine (quarterdeckref02_nan.calls a0 false _ A2.out).mono ?_); rintro e w' ⟨rfl, ⟨nd, rfl⟩⟩; refine ⟨_, rfl, ?_⟩) | ((with_reducible refine gate_callee (f := 65) rfl ?_); refine goesL_ (some 12) rfl rfl Tryd.func65 (by kernel_rfl) rfl #[.int .i64 a0] rfl (by (try simp only [List.map_toArray, List.map_cons, List.map_nil]); first | done | rfl | (simp only [List.length_drop, List.length_take]; rfl)) ?_; (with_reducible refine (quarterdeckref02_rest.calls a0 t148 _ A4.out).mono ?_); rintro e w' ⟨rfl, ⟨nd, rfl⟩⟩; refine ⟨_, rfl, ?_⟩))
    (try simp only [Act.put, List.setIfInBounds_toArray, List.set_cons_zero, List.set_cons_succ])
    go_cut [6] (fun v6 wc => ∃ (kq : Nat) (x6_4 : Int), v6 = .int .i64 x6_4 ∧ Aside0 (quarterdeckref02_Whole.j0 kq a0 t148 (wrap64 ((t148 / 4503599627370496) - 1075)) x6_4 = some r) ∧ Aside0 (kq ≤ k) ∧ Drawn0 w wc)
    case first =>
      have H := HC5.out
      clear HC5
      by_cases c6 : (wrap64 ((t148 / 4503599627370496) - 1075)) > 0
      · rw [if_pos c6] at H
        have c6b0 : decide (0 < (wrap64 ((t148 / 4503599627370496) - 1075))) = true := decide_eq_true c6
        clear c6
        (first | rw [c6b0] | (simp only [i64_w, i32_w]; rw [c6b0]) | skip)
        have H' := Aside0.mk H
        clear H
        go_wp2
        go_meet
        case rel => exact ⟨_, (9007199254740992), (by first | rfl | (simp; done) | (simp [*]; done)), H', ⟨by first | omega | exact Nat.le_refl _⟩, by repeat (first | exact Drawn0.refl _ | apply Drawn0.step)⟩
      · rw [if_neg c6] at H
        have c6b0 : decide (0 < (wrap64 ((t148 / 4503599627370496) - 1075))) = false := decide_eq_false c6
        clear c6
        (first | rw [c6b0] | (simp only [i64_w, i32_w]; rw [c6b0]) | skip)
        have H' := Aside0.mk H
        clear H
        go_wp2
        go_meet
        case rel => exact ⟨_, (wrap64 ((Int.tmod t148 4503599627370496) + 4503599627370496)), (by first | rfl | (simp; done) | (simp [*]; done)), H', ⟨by first | omega | exact Nat.le_refl _⟩, by repeat (first | exact Drawn0.refl _ | apply Drawn0.step)⟩
    case rest =>
      clear HC5
      try clear p2
      try clear c3
      try clear c4
      try clear c6
      try clear c6b0
      try clear p6
      obtain ⟨kq, x6_4, rfl, HA, HJ4, ⟨mc4, rfl⟩⟩ := hcut
      cases kq with
      | zero => exact absurd HA.out (by simp [quarterdeckref02_Whole.j0])
      | succ kj4 =>
        have H := HA.out
        clear HA
        simp only [quarterdeckref02_Whole.j0] at H
        have HC7 := Aside0.mk H
        clear H
        go_upto_block 0 with (fail)
        go_cut [6] (fun v6 wc => ∃ (kq : Nat) (x6_6 : Int), v6 = .int .i64 x6_6 ∧ Aside0 (quarterdeckref02_Whole.j2 kq a0 t148 x6_6 = some r) ∧ Aside0 (kq ≤ kj4) ∧ Drawn0 w wc)
        case first =>
          have H := HC7.out
          clear HC7
          have H' := Aside0.mk H
          clear H
          go_wp2
          go_loopg [5, 6] kj4 (fun kq v5 v6 w' => ∃ (x5_2 : Int) (x6_2 : Int), v5 = .int .i64 x5_2 ∧ v6 = .int .i64 x6_2 ∧ Aside0 (quarterdeckref02_Whole.l0 kq a0 t148 x5_2 x6_2 = some r) ∧ Aside0 (kq ≤ kj4) ∧ Drawn0 w w')
          case atStart => exact ⟨((wrap64 ((t148 / 4503599627370496) - 1075))), (x6_4), (by first | rfl | (simp; done) | (simp [*]; done)), (by first | rfl | (simp; done) | (simp [*]; done)), H', ⟨Nat.le_refl _⟩, by repeat (first | exact Drawn0.refl _ | apply Drawn0.step)⟩
          case round =>
            clear H'
            try clear p2
            try clear c3
            try clear c4
            try clear c6
            try clear c6b0
            try clear p6
            try clear p2
            try clear p6
            obtain ⟨x5_2, x6_2, rfl, rfl, HA, HK2, ⟨m2, rfl⟩⟩ := hrel
            cases gk with
            | zero => exact absurd HA.out (by simp [quarterdeckref02_Whole.l0])
            | succ k2 =>
              have H := HA.out
              clear HA
              simp only [quarterdeckref02_Whole.l0] at H
              by_cases c8 : x5_2 < 0
              · rw [if_pos c8] at H
                have c8b0 : decide (x5_2 < 0) = true := decide_eq_true c8
                clear c8
                (first | rw [c8b0] | (simp only [i64_w, i32_w]; rw [c8b0]) | skip)
                by_cases c9 : x6_2 > 0
                · rw [if_pos c9] at H
                  have c9b0 : decide (0 < x6_2) = true := decide_eq_true c9
                  clear c9
                  have H' := Aside0.mk H
                  clear H
                  go_wp2
                  go_roundg k2
                  case measure => have := HJ4.out; have := HK2.out; omega
                  case rel => exact ⟨(wrap64 (x5_2 + 1)), (wrap64 (Int.tdiv x6_2 2)), (by first | rfl | (simp; done) | (simp [*]; done)), (by first | rfl | (simp; done) | (simp [*]; done)), H', ⟨by have := HJ4.out; have := HK2.out; omega⟩, by repeat (first | exact Drawn0.refl _ | apply Drawn0.step)⟩
                · rw [if_neg c9] at H
                  have c9b0 : decide (0 < x6_2) = false := decide_eq_false c9
                  clear c9
                  have H' := Aside0.mk H
                  clear H
                  go_wp2
                  go_meet
                  case rel => exact ⟨_, (x6_2), (by first | rfl | (simp; done) | (simp [*]; done)), H', ⟨by have := HJ4.out; have := HK2.out; first | omega | exact Nat.le_refl _⟩, by repeat (first | exact Drawn0.refl _ | apply Drawn0.step)⟩
              · rw [if_neg c8] at H
                have c8b0 : decide (x5_2 < 0) = false := decide_eq_false c8
                clear c8
                (first | rw [c8b0] | (simp only [i64_w, i32_w]; rw [c8b0]) | skip)
                have H' := Aside0.mk H
                clear H
                go_wp2
                go_meet
                case rel => exact ⟨_, (x6_2), (by first | rfl | (simp; done) | (simp [*]; done)), H', ⟨by have := HJ4.out; have := HK2.out; first | omega | exact Nat.le_refl _⟩, by repeat (first | exact Drawn0.refl _ | apply Drawn0.step)⟩
        case rest =>
          clear HC7
          try clear p2
          try clear c3
          try clear c4
          try clear c6
          try clear c6b0
          try clear p6
          try clear c8
          try clear c8b0
          try clear c9
          try clear c9b0
          try clear p2
          try clear p6
          obtain ⟨kq, x6_6, rfl, HA, HJ6, ⟨mc6, rfl⟩⟩ := hcut
          cases kq with
          | zero => exact absurd HA.out (by simp [quarterdeckref02_Whole.j2])
          | succ kj6 =>
            have H := HA.out
            clear HA
            simp only [quarterdeckref02_Whole.j2] at H
            by_cases c10 : (t148 / 4503599627370496) = 0
            · rw [if_pos c10] at H
              have c10b0 : ((t148 / 4503599627370496) == 0) = true := beq_iff_eq.mpr c10
              have c10b1 : ((t148 / 4503599627370496) != 0) = false := bne_eq_false_iff_eq.mpr c10
              clear c10
              replace H := Option.bind_eq_some_iff.mp H
              obtain ⟨t149, A110, H⟩ := H
              replace H : (if t149 = true then (some (-0)) else (some 0)) = some r := H
              have A11 := Aside0.mk A110
              clear A110
              by_cases c12 : t149 = true
              · subst c12
                have H1 : (some (-0)) = some r := by rw [if_pos rfl] at H; exact H
                clear H
                have H := H1
                clear H1
                obtain rfl := Option.some.inj H
                go_wp2_with (first | ((with_reducible refine gate_callee (f := 66) rfl ?_); refine goesL_ (some 35) rfl rfl Tryd.func66 (by kernel_rfl) rfl #[.int .i64 a0] rfl (by (try simp only [List.map_toArray, List.map_cons, List.map_nil]); first | done | rfl | (simp only [List.length_drop, List.length_take]; rfl)) ?_; (with_reducible refine (quarterdeckref02_sign.calls a0 true _ A11.out).mono ?_); rintro e w' ⟨rfl, ⟨nd, rfl⟩⟩; refine ⟨_, rfl, ?_⟩))
                go_ret
                exact ⟨by first | rfl | (simp; done) | (simp [*]; done), by repeat (first | exact Drawn0.refl _ | apply Drawn0.step)⟩
              · replace c12 := Bool.eq_false_iff.mpr c12
                subst c12
                have H1 : (some 0) = some r := by rw [if_neg (show ¬ (false = true) by decide)] at H; exact H
                clear H
                have H := H1
                clear H1
                obtain rfl := Option.some.inj H
                go_wp2_with (first | ((with_reducible refine gate_callee (f := 66) rfl ?_); refine goesL_ (some 35) rfl rfl Tryd.func66 (by kernel_rfl) rfl #[.int .i64 a0] rfl (by (try simp only [List.map_toArray, List.map_cons, List.map_nil]); first | done | rfl | (simp only [List.length_drop, List.length_take]; rfl)) ?_; (with_reducible refine (quarterdeckref02_sign.calls a0 false _ A11.out).mono ?_); rintro e w' ⟨rfl, ⟨nd, rfl⟩⟩; refine ⟨_, rfl, ?_⟩))
                go_ret
                exact ⟨by first | rfl | (simp; done) | (simp [*]; done), by repeat (first | exact Drawn0.refl _ | apply Drawn0.step)⟩
            · rw [if_neg c10] at H
              have c10b0 : ((t148 / 4503599627370496) == 0) = false := beq_eq_false_iff_ne.mpr c10
              have c10b1 : ((t148 / 4503599627370496) != 0) = true := bne_iff_ne.mpr c10
              replace H := Option.bind_eq_some_iff.mp H
              obtain ⟨t150, A130, H⟩ := H
              replace H : (if t150 = true then (some (wrap64 (-x6_6))) else (some x6_6)) = some r := H
              have A13 := Aside0.mk A130
              clear A130
              by_cases c14 : t150 = true
              · subst c14
                have H1 : (some (wrap64 (-x6_6))) = some r := by rw [if_pos rfl] at H; exact H
                clear H
                have H := H1
                clear H1
                obtain rfl := Option.some.inj H
                go_wp2_with (first | ((with_reducible refine gate_callee (f := 66) rfl ?_); refine goesL_ (some 35) rfl rfl Tryd.func66 (by kernel_rfl) rfl #[.int .i64 a0] rfl (by (try simp only [List.map_toArray, List.map_cons, List.map_nil]); first | done | rfl | (simp only [List.length_drop, List.length_take]; rfl)) ?_; (with_reducible refine (quarterdeckref02_sign.calls a0 true _ A13.out).mono ?_); rintro e w' ⟨rfl, ⟨nd, rfl⟩⟩; refine ⟨_, rfl, ?_⟩))
                go_ret
                exact ⟨by first | rfl | (simp; done) | (simp [*]; done), by repeat (first | exact Drawn0.refl _ | apply Drawn0.step)⟩
              · replace c14 := Bool.eq_false_iff.mpr c14
                subst c14
                have H1 : (some x6_6) = some r := by rw [if_neg (show ¬ (false = true) by decide)] at H; exact H
                clear H
                have H := H1
                clear H1
                obtain rfl := Option.some.inj H
                go_wp2_with (first | ((with_reducible refine gate_callee (f := 66) rfl ?_); refine goesL_ (some 35) rfl rfl Tryd.func66 (by kernel_rfl) rfl #[.int .i64 a0] rfl (by (try simp only [List.map_toArray, List.map_cons, List.map_nil]); first | done | rfl | (simp only [List.length_drop, List.length_take]; rfl)) ?_; (with_reducible refine (quarterdeckref02_sign.calls a0 false _ A13.out).mono ?_); rintro e w' ⟨rfl, ⟨nd, rfl⟩⟩; refine ⟨_, rfl, ?_⟩))
                go_ret
                exact ⟨by first | rfl | (simp; done) | (simp [*]; done), by repeat (first | exact Drawn0.refl _ | apply Drawn0.step)⟩

/-! ### quarterdeckref02_place: function 69 -/
def quarterdeckref02_place.f (a0 : Int) : Option (Int) := (quarterdeckref02_sign.f a0).bind fun t151 => (if t151 = true then ((quarterdeckref02_rest.f a0).bind fun t152 => (some (wrap64 (-t152)))) else (some a0))
set_option maxHeartbeats 8000000 in
set_option maxRecDepth 100000 in
theorem quarterdeckref02_place.calls (a0 : Int) (r : Int) (w : World) (h : quarterdeckref02_place.f a0 = some r) :
    Calls Tryd.prog 69 #[.int .i64 a0] w fun e w' => e = .returned (.int .i64 r) ∧ Drawn0 w w' := by
  have H : ((quarterdeckref02_sign.f a0).bind fun t151 => (if t151 = true then ((quarterdeckref02_rest.f a0).bind fun t152 => (some (wrap64 (-t152)))) else (some a0))) = some r := h
  clear h
  replace H := Option.bind_eq_some_iff.mp H
  obtain ⟨t151, A20, H⟩ := H
  replace H : (if t151 = true then ((quarterdeckref02_rest.f a0).bind fun t152 => (some (wrap64 (-t152)))) else (some a0)) = some r := H
  have A2 := Aside0.mk A20
  clear A20
  by_cases c3 : t151 = true
  · subst c3
    have H1 : ((quarterdeckref02_rest.f a0).bind fun t152 => (some (wrap64 (-t152)))) = some r := by rw [if_pos rfl] at H; exact H
    clear H
    have H := H1
    clear H1
    replace H := Option.bind_eq_some_iff.mp H
    obtain ⟨t152, A40, H⟩ := H
    replace H : (some (wrap64 (-t152))) = some r := H
    have A4 := Aside0.mk A40
    clear A40
    obtain rfl := Option.some.inj H
    go_enter Tryd.func69, Tryd.ntmps69
    go_wp2_with (first | ((with_reducible refine gate_callee (f := 66) rfl ?_); refine goesL_ (some 5) rfl rfl Tryd.func66 (by kernel_rfl) rfl #[.int .i64 a0] rfl (by (try simp only [List.map_toArray, List.map_cons, List.map_nil]); first | done | rfl | (simp only [List.length_drop, List.length_take]; rfl)) ?_; (with_reducible refine (quarterdeckref02_sign.calls a0 true _ A2.out).mono ?_); rintro e w' ⟨rfl, ⟨nd, rfl⟩⟩; refine ⟨_, rfl, ?_⟩) | ((with_reducible refine gate_callee (f := 65) rfl ?_); refine goesL_ (some 8) rfl rfl Tryd.func65 (by kernel_rfl) rfl #[.int .i64 a0] rfl (by (try simp only [List.map_toArray, List.map_cons, List.map_nil]); first | done | rfl | (simp only [List.length_drop, List.length_take]; rfl)) ?_; (with_reducible refine (quarterdeckref02_rest.calls a0 t152 _ A4.out).mono ?_); rintro e w' ⟨rfl, ⟨nd, rfl⟩⟩; refine ⟨_, rfl, ?_⟩))
    go_ret
    exact ⟨by first | rfl | (simp; done) | (simp [*]; done), by repeat (first | exact Drawn0.refl _ | apply Drawn0.step)⟩
  · replace c3 := Bool.eq_false_iff.mpr c3
    subst c3
    have H1 : (some a0) = some r := by rw [if_neg (show ¬ (false = true) by decide)] at H; exact H
    clear H
    have H := H1
    clear H1
    obtain rfl := Option.some.inj H
    go_enter Tryd.func69, Tryd.ntmps69
    go_wp2_with (first | ((with_reducible refine gate_callee (f := 66) rfl ?_); refine goesL_ (some 5) rfl rfl Tryd.func66 (by kernel_rfl) rfl #[.int .i64 a0] rfl (by (try simp only [List.map_toArray, List.map_cons, List.map_nil]); first | done | rfl | (simp only [List.length_drop, List.length_take]; rfl)) ?_; (with_reducible refine (quarterdeckref02_sign.calls a0 false _ A2.out).mono ?_); rintro e w' ⟨rfl, ⟨nd, rfl⟩⟩; refine ⟨_, rfl, ?_⟩))
    go_ret
    exact ⟨by first | rfl | (simp; done) | (simp [*]; done), by repeat (first | exact Drawn0.refl _ | apply Drawn0.step)⟩

/-! ### quarterdeckref02_Below: function 47 -/
def quarterdeckref02_Below.f (a0 : Int) (a1 : Int) : Option (Bool) := (quarterdeckref02_nan.f a0).bind fun t153 => ((quarterdeckref02_nan.f a1).bind fun t154 => (if t153 = true then (some false) else (if t154 = true then (some false) else ((quarterdeckref02_place.f a0).bind fun t155 => ((quarterdeckref02_place.f a1).bind fun t156 => (some (decide (t155 < t156))))))))
set_option maxHeartbeats 8000000 in
set_option maxRecDepth 100000 in
theorem quarterdeckref02_Below.calls (a0 : Int) (a1 : Int) (r : Bool) (w : World) (h : quarterdeckref02_Below.f a0 a1 = some r) :
    Calls Tryd.prog 47 #[.int .i64 a0, .int .i64 a1] w fun e w' => e = .returned (.bool r) ∧ Drawn0 w w' := by
  have H : ((quarterdeckref02_nan.f a0).bind fun t153 => ((quarterdeckref02_nan.f a1).bind fun t154 => (if t153 = true then (some false) else (if t154 = true then (some false) else ((quarterdeckref02_place.f a0).bind fun t155 => ((quarterdeckref02_place.f a1).bind fun t156 => (some (decide (t155 < t156))))))))) = some r := h
  clear h
  replace H := Option.bind_eq_some_iff.mp H
  obtain ⟨t153, A30, H⟩ := H
  replace H : ((quarterdeckref02_nan.f a1).bind fun t154 => (if t153 = true then (some false) else (if t154 = true then (some false) else ((quarterdeckref02_place.f a0).bind fun t155 => ((quarterdeckref02_place.f a1).bind fun t156 => (some (decide (t155 < t156)))))))) = some r := H
  have A3 := Aside0.mk A30
  clear A30
  replace H := Option.bind_eq_some_iff.mp H
  obtain ⟨t154, A40, H⟩ := H
  replace H : (if t153 = true then (some false) else (if t154 = true then (some false) else ((quarterdeckref02_place.f a0).bind fun t155 => ((quarterdeckref02_place.f a1).bind fun t156 => (some (decide (t155 < t156))))))) = some r := H
  have A4 := Aside0.mk A40
  clear A40
  by_cases c5 : t153 = true
  · subst c5
    have H1 : (some false) = some r := by rw [if_pos rfl] at H; exact H
    clear H
    have H := H1
    clear H1
    obtain rfl := Option.some.inj H
    go_enter Tryd.func47, Tryd.ntmps47
    go_wp2_with (first | ((with_reducible refine gate_callee (f := 63) rfl ?_); refine goesL_ (some 8) rfl rfl Tryd.func63 (by kernel_rfl) rfl #[.int .i64 a0] rfl (by (try simp only [List.map_toArray, List.map_cons, List.map_nil]); first | done | rfl | (simp only [List.length_drop, List.length_take]; rfl)) ?_; (with_reducible refine (quarterdeckref02_nan.calls a0 true _ A3.out).mono ?_); rintro e w' ⟨rfl, ⟨nd, rfl⟩⟩; refine ⟨_, rfl, ?_⟩) | ((with_reducible refine gate_callee (f := 63) rfl ?_); refine goesL_ (some 10) rfl rfl Tryd.func63 (by kernel_rfl) rfl #[.int .i64 a1] rfl (by (try simp only [List.map_toArray, List.map_cons, List.map_nil]); first | done | rfl | (simp only [List.length_drop, List.length_take]; rfl)) ?_; (with_reducible refine (quarterdeckref02_nan.calls a1 t154 _ A4.out).mono ?_); rintro e w' ⟨rfl, ⟨nd, rfl⟩⟩; refine ⟨_, rfl, ?_⟩))
    go_ret
    exact ⟨by first | rfl | (simp; done) | (simp [*]; done), by repeat (first | exact Drawn0.refl _ | apply Drawn0.step)⟩
  · replace c5 := Bool.eq_false_iff.mpr c5
    subst c5
    have H1 : (if t154 = true then (some false) else ((quarterdeckref02_place.f a0).bind fun t155 => ((quarterdeckref02_place.f a1).bind fun t156 => (some (decide (t155 < t156)))))) = some r := by rw [if_neg (show ¬ (false = true) by decide)] at H; exact H
    clear H
    have H := H1
    clear H1
    by_cases c6 : t154 = true
    · subst c6
      have H1 : (some false) = some r := by rw [if_pos rfl] at H; exact H
      clear H
      have H := H1
      clear H1
      obtain rfl := Option.some.inj H
      go_enter Tryd.func47, Tryd.ntmps47
      go_wp2_with (first | ((with_reducible refine gate_callee (f := 63) rfl ?_); refine goesL_ (some 8) rfl rfl Tryd.func63 (by kernel_rfl) rfl #[.int .i64 a0] rfl (by (try simp only [List.map_toArray, List.map_cons, List.map_nil]); first | done | rfl | (simp only [List.length_drop, List.length_take]; rfl)) ?_; (with_reducible refine (quarterdeckref02_nan.calls a0 false _ A3.out).mono ?_); rintro e w' ⟨rfl, ⟨nd, rfl⟩⟩; refine ⟨_, rfl, ?_⟩) | ((with_reducible refine gate_callee (f := 63) rfl ?_); refine goesL_ (some 10) rfl rfl Tryd.func63 (by kernel_rfl) rfl #[.int .i64 a1] rfl (by (try simp only [List.map_toArray, List.map_cons, List.map_nil]); first | done | rfl | (simp only [List.length_drop, List.length_take]; rfl)) ?_; (with_reducible refine (quarterdeckref02_nan.calls a1 true _ A4.out).mono ?_); rintro e w' ⟨rfl, ⟨nd, rfl⟩⟩; refine ⟨_, rfl, ?_⟩))
      go_ret
      exact ⟨by first | rfl | (simp; done) | (simp [*]; done), by repeat (first | exact Drawn0.refl _ | apply Drawn0.step)⟩
    · replace c6 := Bool.eq_false_iff.mpr c6
      subst c6
      have H1 : ((quarterdeckref02_place.f a0).bind fun t155 => ((quarterdeckref02_place.f a1).bind fun t156 => (some (decide (t155 < t156))))) = some r := by rw [if_neg (show ¬ (false = true) by decide)] at H; exact H
      clear H
      have H := H1
      clear H1
      replace H := Option.bind_eq_some_iff.mp H
      obtain ⟨t155, A70, H⟩ := H
      replace H : ((quarterdeckref02_place.f a1).bind fun t156 => (some (decide (t155 < t156)))) = some r := H
      have A7 := Aside0.mk A70
      clear A70
      replace H := Option.bind_eq_some_iff.mp H
      obtain ⟨t156, A80, H⟩ := H
      replace H : (some (decide (t155 < t156))) = some r := H
      have A8 := Aside0.mk A80
      clear A80
      obtain rfl := Option.some.inj H
      go_enter Tryd.func47, Tryd.ntmps47
      go_wp2_with (first | ((with_reducible refine gate_callee (f := 63) rfl ?_); refine goesL_ (some 8) rfl rfl Tryd.func63 (by kernel_rfl) rfl #[.int .i64 a0] rfl (by (try simp only [List.map_toArray, List.map_cons, List.map_nil]); first | done | rfl | (simp only [List.length_drop, List.length_take]; rfl)) ?_; (with_reducible refine (quarterdeckref02_nan.calls a0 false _ A3.out).mono ?_); rintro e w' ⟨rfl, ⟨nd, rfl⟩⟩; refine ⟨_, rfl, ?_⟩) | ((with_reducible refine gate_callee (f := 63) rfl ?_); refine goesL_ (some 10) rfl rfl Tryd.func63 (by kernel_rfl) rfl #[.int .i64 a1] rfl (by (try simp only [List.map_toArray, List.map_cons, List.map_nil]); first | done | rfl | (simp only [List.length_drop, List.length_take]; rfl)) ?_; (with_reducible refine (quarterdeckref02_nan.calls a1 false _ A4.out).mono ?_); rintro e w' ⟨rfl, ⟨nd, rfl⟩⟩; refine ⟨_, rfl, ?_⟩) | (go_at_call 69; (with_reducible refine (quarterdeckref02_place.calls a0 t155 _ A7.out).mono ?_); rintro e w' ⟨rfl, ⟨nd, rfl⟩⟩) | (go_at_call 69; (with_reducible refine (quarterdeckref02_place.calls a1 t156 _ A8.out).mono ?_); rintro e w' ⟨rfl, ⟨nd, rfl⟩⟩))
      go_ret
      exact ⟨by first | rfl | (simp; done) | (simp [*]; done), by repeat (first | exact Drawn0.refl _ | apply Drawn0.step)⟩

end Go.Proofs.YtlphgnfjemaliaaDoor.Pr

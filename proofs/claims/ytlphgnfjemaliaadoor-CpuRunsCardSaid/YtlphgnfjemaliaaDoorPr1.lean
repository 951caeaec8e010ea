/- Go functions as Lean functions, each with its contract (written by wip/given_print.py); conditions: the premises of each theorem. -/
import Derived.Test.YtlphgnfjemaliaaDoorPr0
namespace Go.Proofs.YtlphgnfjemaliaaDoor.Pr
open Go.RowKit Go.Proofs.YtlphgnfjemaliaaDoorW.PrintWords Go.Proofs.YtlphgnfjemaliaaDoorW.PrintLast Go.Proofs.YtlphgnfjemaliaaDoorW.PrintMore
attribute [local go_sem] max2_int min2_int max_two min_two max_three min_three max_four min_four   -- for this text's walks alone
set_option linter.unusedVariables false
set_option linter.unusedSimpArgs false

-- NOT PRINTED: function 50 (instr_fits)

-- NOT PRINTED: function 33 (instr_May)

-- NOT PRINTED: function 34 (cpu_raise)

-- NOT PRINTED: function 31 (word_quotient)

-- NOT PRINTED: function 18 (word_Div)

-- NOT PRINTED: function 51 (cpu_divided)

/-! ### cpu_bit: function 52 -/
def cpu_bit.f (a0 : Bool) : Option (Int) := if a0 = true then (some 1) else (some 0)
set_option maxHeartbeats 8000000 in
set_option maxRecDepth 100000 in
theorem cpu_bit.calls (a0 : Bool) (r : Int) (w : World) (h : cpu_bit.f a0 = some r) :
    Calls Tryd.prog 52 #[.bool a0] w fun e w' => e = .returned (.int .i64 r) ∧ Drawn0 w w' := by
  have H : (if a0 = true then (some 1) else (some 0)) = some r := h
  clear h
  by_cases c2 : a0 = true
  · subst c2
    have H1 : (some 1) = some r := by rw [if_pos rfl] at H; exact H
    clear H
    have H := H1
    clear H1
    obtain rfl := Option.some.inj H
    go_enter Tryd.func52, Tryd.ntmps52
    go_wp2
    go_ret
    exact ⟨by first | rfl | (simp; done) | (simp [*]; done), by repeat (first | exact Drawn0.refl _ | apply Drawn0.step)⟩
  · replace c2 := Bool.eq_false_iff.mpr c2
    subst c2
    have H1 : (some 0) = some r := by rw [if_neg (show ¬ (false = true) by decide)] at H; exact H
    clear H
    have H := H1
    clear H1
    obtain rfl := Option.some.inj H
    go_enter Tryd.func52, Tryd.ntmps52
    go_wp2
    go_ret
    exact ⟨by first | rfl | (simp; done) | (simp [*]; done), by repeat (first | exact Drawn0.refl _ | apply Drawn0.step)⟩

-- NOT PRINTED: function 76 (math_Float64frombits)

-- NOT PRINTED: function 70 (real_number)

-- NOT PRINTED: function 53 (real_Below)

-- NOT PRINTED: function 37 (api_Region_37)

-- NOT PRINTED: function 22 (api_Region_22)

-- NOT PRINTED: function 28 (mem_touch)

-- NOT PRINTED: function 29 (mem_told)

-- NOT PRINTED: function 17 (mem_Load)

-- NOT PRINTED: function 61 (cpu_machine_read)

-- NOT PRINTED: function 71 (cpu_touched)

-- NOT PRINTED: function 54 (cpu_machine_load)

-- NOT PRINTED: function 20 (slices_Clone_int_int)

-- NOT PRINTED: function 16 (mem_Store)

-- NOT PRINTED: function 55 (cpu_machine_store)

-- NOT PRINTED: function 35 (cpu_machine_two)

-- NOT PRINTED: function 73 (math_IsNaN)

-- NOT PRINTED: function 77 (math_Float64bits)

-- NOT PRINTED: function 72 (real_bits)

-- NOT PRINTED: function 56 (real_Half)

-- NOT PRINTED: function 57 (real_Twice)

-- NOT PRINTED: function 58 (real_Flip)

-- NOT PRINTED: function 59 (real_Of)

-- NOT PRINTED: function 78 (math_archTrunc)

-- NOT PRINTED: function 80 (math_Abs)

-- NOT PRINTED: function 81 (math_Copysign)

-- NOT PRINTED: function 79 (math_trunc)

-- NOT PRINTED: function 74 (math_Trunc)

-- NOT PRINTED: function 60 (real_Whole)

-- NOT PRINTED: function 36 (cpu_machine_one)

-- NOT PRINTED: function 19 (cpu_machine_run)

-- NOT PRINTED: function 11 (cpu_Step)

-- NOT PRINTED: function 10 (quarterdecklaw05_awake)

/-! ### quarterdeckref04_register: function 38 -/
def quarterdeckref04_register.f (a0 : Int) : Option (Bool) := if a0 ≥ 0 then (some (decide (a0 < 4))) else (some false)
set_option maxHeartbeats 8000000 in
set_option maxRecDepth 100000 in
theorem quarterdeckref04_register.calls (a0 : Int) (r : Bool) (w : World) (h : quarterdeckref04_register.f a0 = some r) :
    Calls Tryd.prog 38 #[.int .i64 a0] w fun e w' => e = .returned (.bool r) ∧ Drawn0 w w' := by
  have H : (if a0 ≥ 0 then (some (decide (a0 < 4))) else (some false)) = some r := h
  clear h
  by_cases c2 : a0 ≥ 0
  · rw [if_pos c2] at H
    have c2b0 : decide (0 ≤ a0) = true := decide_eq_true c2
    clear c2
    obtain rfl := Option.some.inj H
    go_enter Tryd.func38, Tryd.ntmps38
    go_wp2
    go_ret
    exact ⟨by first | rfl | (simp; done) | (simp [*]; done), by repeat (first | exact Drawn0.refl _ | apply Drawn0.step)⟩
  · rw [if_neg c2] at H
    have c2b0 : decide (0 ≤ a0) = false := decide_eq_false c2
    clear c2
    obtain rfl := Option.some.inj H
    go_enter Tryd.func38, Tryd.ntmps38
    go_wp2
    go_ret
    exact ⟨by first | rfl | (simp; done) | (simp [*]; done), by repeat (first | exact Drawn0.refl _ | apply Drawn0.step)⟩

end Go.Proofs.YtlphgnfjemaliaaDoor.Pr

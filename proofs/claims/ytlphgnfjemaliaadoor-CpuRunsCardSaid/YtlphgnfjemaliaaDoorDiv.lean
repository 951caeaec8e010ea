/-
  word.Div returns the quotient and no fault, or 0 and the numeric fault where the divisor is 0. No conditions.
-/
import Derived.Test.YtlphgnfjemaliaaDoorRows
import Derived.WalkKit
import Derived.WalkSpells
import Derived.WalkLawsBesides
import Derived.Defers
import Derived.Recover
import Derived.Below
import Derived.Lib.Hide
namespace Go.Proofs.YtlphgnfjemaliaaDoor.Div
open Go.RowKit

theorem quot_zero (a : Int) (w : World) :
    Calls Tryd.prog 31 #[.int .i64 a, .int .i64 0] w fun e w' =>
      e = .panicked [{ v := .iface 3 (.int .i64 3), recovered := false }] ∧ w = w' := by
  go_enter Tryd.func31, Tryd.ntmps31
  go_wp2
  exact ⟨rfl, rfl, rfl⟩

theorem quot_some (a b : Int) (hb : ¬ b = 0) (w : World) :
    Calls Tryd.prog 31 #[.int .i64 a, .int .i64 b] w fun e w' =>
      e = .returned (.int .i64 (wrap64 (a.tdiv b))) ∧ w = w' := by
  have hb' : (b == 0) = false := by simp [hb]
  go_enter Tryd.func31, Tryd.ntmps31
  go_wp2
  go_ret
  exact ⟨rfl, rfl⟩

theorem catch_panicking (p q : Addr) (x y n : Int) (hpq : p ≠ q) (w : World) (hc : w.cell? p = some (.int .i64 x)) (hz : w.frozen? p = false)
    (hc' : w.cell? q = some (.int .i64 y)) (hz' : w.frozen? q = false) (older : List PanicEntry) :
    CallsD Tryd.prog 30 #[.pointer (some p), .pointer (some q)] (.panicking ({ v := .iface 3 (.int .i64 n), recovered := false } :: older)) w fun e u' w' =>
      e = .returned (.tuple #[]) ∧ u' = .panicking ({ v := .iface 3 (.int .i64 n), recovered := true } :: older) ∧ w' = (w.setCell p (.int .i64 0)).setCell q (.int .i64 n) := by
  have hta : ∀ (v : Value) (W : World), (Instr.typeAssert (.iface 3 v) 20 3 true).run Tryd.prog W = .ok (.tuple #[v, .bool true]) W := fun v W => by rfl
  refine callsD_of_wpS Tryd.func30 rfl fun c₀ cs hu => ?_
  apply wpS_seq
  apply wpS_region
  simp [wpOpsS, go_sem, recoverD, hu, Tryd.ntmps30, Exit.thenS, hta, Array.replicate]
  apply wpS_seq
  refine wpS_of_wp ?_
  go_wp2
  simp only [Exit.thenS]
  refine wpS_cond (t := true) (by simp [Act.eval]) ?_
  simp only [if_true]
  apply wpS_region
  have hq : (w.setCell p (.int .i64 0)).cell? q = some (.int .i64 y) := (World.cell?_setCell_other w p q _ hpq).trans hc'
  simp [wpOpsS, go_sem, hc, hz, hq, hz', bodyPostS, results, Tryd.results30]

theorem catch_idle (p q : Addr) (w : World) :
    CallsD Tryd.prog 30 #[.pointer (some p), .pointer (some q)] .returning w fun e u' w' => e = .returned (.tuple #[]) ∧ u' = .returning ∧ w' = w := by
  have hta : ∀ (W : World), (Instr.typeAssert .nilIface 20 3 true).run Tryd.prog W = .ok (.tuple #[.int .i64 0, .bool false]) W := fun W => by rfl
  refine callsD_of_wpS Tryd.func30 rfl fun c₀ cs hu => ?_
  apply wpS_seq
  apply wpS_region
  simp [wpOpsS, go_sem, recoverD, hu, Tryd.ntmps30, Exit.thenS, hta, Array.replicate]
  apply wpS_seq
  refine wpS_of_wp ?_
  go_wp2
  simp only [Exit.thenS]
  refine wpS_cond (t := false) (by simp [Act.eval]) ?_
  simp only [Bool.false_eq_true, if_false]
  refine wpS_of_wp (wp_skip ?_)
  cases c₀
  simp_all [bodyPostS, results, Tryd.results30]

theorem div_zero (a : Int) (w : World) :
    Calls Tryd.prog 18 #[.int .i64 a, .int .i64 0] w fun e w' => e = .returned (.tuple #[.int .i64 0, .int .i64 3]) ∧ Below w.heap.size w w' := by
  have hmf : ∀ (fn : Fn) (first cap : Array Value) (w : World), (Instr.makeFunc fn first cap).run Tryd.prog w = .ok (.func fn first cap) w := fun _ _ _ _ => rfl
  go_enter_defers Tryd.func18, Tryd.ntmps18
  go_wp2_with (go_at_call 31; refine (quot_zero _ _).mono ?_; rintro e w' ⟨rfl, rfl⟩)
  refine leaves_cons (f := 30) (args := #[.pointer (some ⟨w.heap.size, 0, none⟩), .pointer (some ⟨w.heap.size + 1, 0, none⟩)]) (by simp) (by simp [go_sem]) ?_
  refine (catch_panicking ⟨w.heap.size, 0, none⟩ ⟨w.heap.size + 1, 0, none⟩ 0 0 3 (by simp) _ ?_ ?_ ?_ ?_ []).mono ?_
  · simp [go_sem]
  · simp [go_sem]
  · simp [go_sem]
  · simp [go_sem]
  rintro e u' w'' ⟨rfl, rfl, rfl⟩
  have HB := Lib.hid (((Below.refl w.heap.size w).alloc (Nat.le_refl _) (Obj.cells #[Value.int IntKind.i64 0] 3)).alloc (by simp) (Obj.cells #[Value.int IntKind.i64 3] 3))
  simp [Leaves, settle, results, Tryd.results18, go_sem]
  exact HB.out

theorem div_some (a b : Int) (hb : ¬ b = 0) (w : World) :
    Calls Tryd.prog 18 #[.int .i64 a, .int .i64 b] w fun e w' => e = .returned (.tuple #[.int .i64 (wrap64 (a.tdiv b)), .int .i64 0]) ∧ Below w.heap.size w w' := by
  have hmf : ∀ (fn : Fn) (first cap : Array Value) (w : World), (Instr.makeFunc fn first cap).run Tryd.prog w = .ok (.func fn first cap) w := fun _ _ _ _ => rfl
  go_enter_defers Tryd.func18, Tryd.ntmps18
  go_wp2_with (go_at_call 31; refine (quot_some _ _ hb _).mono ?_; rintro e w' ⟨rfl, rfl⟩)
  refine leaves_cons (f := 30) (args := #[.pointer (some ⟨w.heap.size, 0, none⟩), .pointer (some ⟨w.heap.size + 1, 0, none⟩)]) (by simp) (by simp [go_sem]) ?_
  refine (catch_idle ⟨w.heap.size, 0, none⟩ ⟨w.heap.size + 1, 0, none⟩ _).mono ?_
  rintro e u' w'' ⟨rfl, rfl, rfl⟩
  have HB := Lib.hid (((Below.refl w.heap.size w).alloc (Nat.le_refl _) (Obj.cells #[Value.int IntKind.i64 (wrap64 (a.tdiv b))] 3)).alloc (by simp) (Obj.cells #[Value.int IntKind.i64 0] 3))
  simp [Leaves, settle, results, Tryd.results18, go_sem]
  exact HB.out

/-- The quotient towards 0, as a 64-bit number, and no fault; or 0 and the numeric fault. -/
def divI (a b : Int) : Int × Int := if b = 0 then (0, 3) else (wrap64 (a.tdiv b), 0)
theorem div_any (a b : Int) (w : World) :
    Calls Tryd.prog 18 #[.int .i64 a, .int .i64 b] w fun e w' => e = .returned (.tuple #[.int .i64 (divI a b).1, .int .i64 (divI a b).2]) ∧ Below w.heap.size w w' := by
  unfold divI
  by_cases hb : b = 0
  · subst hb; rw [if_pos rfl]; exact div_zero a w
  · rw [if_neg hb]; exact div_some a b hb w
end Go.Proofs.YtlphgnfjemaliaaDoor.Div

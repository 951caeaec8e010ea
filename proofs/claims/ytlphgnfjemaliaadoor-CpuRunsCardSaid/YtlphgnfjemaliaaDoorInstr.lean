/-
  What package instr's inner functions return, where the two tables hold what the program's text lays: fits, May.
  Conditions: 'Glob': the cells of instr.kinds and instr.bounds.
-/
import Derived.Test.YtlphgnfjemaliaaDoorRows
import Derived.WalkKit
import Derived.WalkSpells
import Derived.WalkLawsBesides
import Derived.LoopTactic
import Derived.Below
import Derived.Deep.QuietTactic
import Derived.BigQuiet
import Derived.Lib.Hide
import Derived.Lib.LaidTab
namespace Go.Proofs.YtlphgnfjemaliaaDoor.Instr
open Go.RowKit

def kindsT : List (List Int) := [[0, 0], [1, 2], [1, 1], [1, 1], [1, 1], [1, 1], [1, 1], [1, 1], [1, 1], [1, 1], [0, 3], [1, 3], [1, 0], [1, 0], [1, 0], [1, 1], [1, 0], [1, 0], [1, 0], [0, 4]]
def boundsT : List (List Int) := [[0, 0], [0, 3], [-549755813888, 549755813888], [0, 63], [0, 25]]
/-- The tables hold what the program's text lays. -/
def Glob (w : World) : Prop :=
  (∀ i j, i < 20 → j < 2 → w.cell? ⟨0, i * 2 + j, none⟩ = some (.int .i64 ((kindsT.getD i []).getD j 0))) ∧
  (∀ i j, i < 5 → j < 2 → w.cell? ⟨1, i * 2 + j, none⟩ = some (.int .i64 ((boundsT.getD i []).getD j 0)))
theorem bcell {W w1 : World} (hb : Below W.heap.size W w1) {a : Addr} {v : Value} (hc : W.cell? a = some v) : w1.cell? a = some v := (hb.cell (World.block_lt_of_cell? W a hc)).trans hc
theorem Glob.below {w w1 : World} (h : Glob w) (hb : Below w.heap.size w w1) : Glob w1 :=
  ⟨fun i j hi hj => bcell hb (h.1 i j hi hj), fun i j hi hj => bcell hb (h.2 i j hi hj)⟩
theorem Glob.alloc {w : World} (h : Glob w) (o : Obj) : Glob (w.alloc o) := h.below ((Below.refl _ _).alloc (Nat.le_refl _) o)
theorem Glob.drewN {w : World} (h : Glob w) (n : Nat) : Glob (w.drewN n) := h.below ⟨rfl, (Below.refl w.heap.size w).tape, rfl, Nat.le_refl _, fun _ _ => rfl⟩

theorem ret_bool {a b : Bool} (h : a = b) : Ending.returned (.bool a) = .returned (.bool b) := by rw [h]

/-- Is a number one of a kind? -/
def fitsB (k : Nat) (n : Int) : Bool := decide ((boundsT.getD k []).getD 0 0 ≤ n) && decide (n ≤ (boundsT.getD k []).getD 1 0)

theorem fits_any (k : Nat) (n : Int) (w : World) (hk : k < 5) (hG : Glob w) :
    Calls Tryd.prog 50 #[.int .i64 k, .int .i64 n] w fun e w' => e = .returned (.bool (fitsB k n)) ∧ w' = w := by
  have c0 := hG.2 k 0 hk (by omega)
  have c1 := hG.2 k 1 hk (by omega)
  rw [Nat.add_zero] at c0
  have hp := World.block_lt_of_cell? w _ c0
  clear hG
  unfold fitsB
  generalize (boundsT.getD k []).getD 0 0 = lo at *
  generalize (boundsT.getD k []).getD 1 0 = hi at *
  go_enter Tryd.func50, Tryd.ntmps50
  go_wp2
  all_goals
    go_ret
    exact ⟨ret_bool (by simp [*] <;> omega), rfl⟩

/-- The kind that an operation takes. -/
def kindN (o j : Nat) : Nat := ((kindsT.getD o []).getD j 0).toNat
theorem kind_ok : ∀ o : Fin 20, ∀ j : Fin 2, (kindsT.getD o.val []).getD j.val 0 = ((kindN o.val j.val : Nat) : Int) ∧ kindN o.val j.val < 5 := by decide

/-- instr.May. -/
def mayB (op a b : Int) : Bool := decide (0 ≤ op) && decide (op < 20) && fitsB (kindN op.toNat 0) a && fitsB (kindN op.toNat 1) b

set_option maxHeartbeats 1000000 in
theorem may_any (op a b : Int) (w : World) (hG : Glob w) :
    Calls Tryd.prog 33 #[.agg #[.int .i64 op, .int .i64 a, .int .i64 b]] w fun e w' => e = .returned (.bool (mayB op a b)) ∧ Below w.heap.size w w' := by
  have hb2 : ∀ o n, Below w.heap.size w ((w.alloc o).drewN n) := fun o n => by
    have h : Below w.heap.size w (w.alloc o) := (Below.refl _ _).alloc (Nat.le_refl _) o
    exact ⟨h.os, h.tape, h.output, h.size, h.block⟩
  have HB := Lib.hid hb2
  have hb1 : ∀ o, Below w.heap.size w (w.alloc o) := fun o => (Below.refl _ _).alloc (Nat.le_refl _) o
  have HB1 := Lib.hid hb1
  clear hb2 hb1
  unfold mayB
  by_cases h0 : op < 0
  · have hd : decide (0 ≤ op) = false := decide_eq_false (by omega)
    rw [hd]
    clear hG
    go_enter Tryd.func33, Tryd.ntmps33
    go_wp2_with fail
    go_quiet (fail)
    go_wp2_with fail
    go_ret
    exact ⟨ret_bool (by simp), HB.out _ _⟩
  by_cases h20 : 20 ≤ op
  · have hd : decide (0 ≤ op) = true := decide_eq_true (by omega)
    have hd2 : decide (op < 20) = false := decide_eq_false (by omega)
    rw [hd, hd2]
    clear hG
    go_enter Tryd.func33, Tryd.ntmps33
    go_wp2_with fail
    go_quiet (fail)
    go_wp2_with fail
    go_ret
    exact ⟨ret_bool (by simp), HB.out _ _⟩
  · obtain ⟨o, rfl⟩ : ∃ o : Nat, op = (o : Int) := ⟨op.toNat, by omega⟩
    have ho : o < 20 := by omega
    have hd : decide ((0 : Int) ≤ (o : Int)) = true := decide_eq_true (by omega)
    have hd2 : decide ((o : Int) < 20) = true := decide_eq_true (by omega)
    rw [hd, hd2, Int.toNat_natCast]
    obtain ⟨e0, b0⟩ := kind_ok ⟨o, ho⟩ ⟨0, by omega⟩
    obtain ⟨e1, b1⟩ := kind_ok ⟨o, ho⟩ ⟨1, by omega⟩
    simp only at e0 b0 e1 b1
    have hc0 := hG.1 o 0 ho (by omega)
    have hc1 := hG.1 o 1 ho (by omega)
    rw [e0, Nat.add_zero] at hc0
    rw [e1] at hc1
    have hp := World.block_lt_of_cell? w _ hc0
    clear e0 e1
    generalize kindN o 0 = k0 at *
    generalize kindN o 1 = k1 at *
    have hf0 : ∀ W, Glob W → _ := fun W h => fits_any k0 a W b0 h
    have hf1 : ∀ W, Glob W → _ := fun W h => fits_any k1 b W b1 h
    have HG := Lib.hid hG
    generalize fitsB k0 a = f0 at *
    generalize fitsB k1 b = f1 at *
    have HF0 := Lib.hid hf0
    have HF1 := Lib.hid hf1
    have q0 : (0 : Int) ≤ (o : Int) := by omega
    have q1 : (o : Int) < 20 := by omega
    clear hf0 hf1 hG h0 h20 b0 b1
    cases f0 <;> cases f1 <;> (
      go_enter Tryd.func33, Tryd.ntmps33
      go_wp2_with fail
      go_quiet ((first | with_reducible exact Calls.quiet_of_same (HF0.out _ (by exact (HG.out.alloc _).drewN _)) | with_reducible exact Calls.quiet_of_same (HF1.out _ (by exact (HG.out.alloc _).drewN _))))
      go_wp2_with fail
      go_ret
      exact ⟨ret_bool (by simp), HB.out _ _⟩)
end Go.Proofs.YtlphgnfjemaliaaDoor.Instr

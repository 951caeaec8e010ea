/-
  Plain lemmas on the printed functions of chapter 04. No program in sight.
  No conditions beyond the statements' own.
-/
import Derived.Test.YtiacjnmkomfdaaaDoorPr3
namespace Go.Proofs.YtiacjnmkomfdaaaDoor.PureI
open Go.RowKit Go.Proofs.YtiacjnmkomfdaaaDoor.Pr Go.Proofs.YtiacjnmkomfdaaaDoorW.PrintWords Go.Proofs.YtiacjnmkomfdaaaDoorW.PrintLast Go.Proofs.YtiacjnmkomfdaaaDoorW.PrintMore Go.Proofs.YtiacjnmkomfdaaaDoor.Instr
set_option linter.unusedSimpArgs false

theorem awake_ev : Ev (fun k => quarterdecklaw04_awake.f k) true := Ev.of (fun k => quarterdecklaw04_awake.mono k) (k := 30) (by decide +kernel)

theorem kind0 : ∀ o : Fin 20, kindN o.val 0 = 0 ∨ kindN o.val 0 = 1 := by decide
theorem hi_all : ∀ k : Fin 5, (boundsT.getD k.val []).getD 1 0 < 549755813889 := by decide
theorem may_facts (op a b : Int) (h : mayB op a b = true) : 0 ≤ op ∧ op < 20 ∧ 0 ≤ a ∧ a ≤ 3 := by
  unfold mayB at h
  simp only [Bool.and_eq_true, decide_eq_true_eq] at h
  obtain ⟨⟨⟨h0, h1⟩, h2⟩, _⟩ := h
  refine ⟨h0, h1, ?_⟩
  rcases kind0 ⟨op.toNat, by omega⟩ with hk | hk <;> (simp only at hk; rw [hk] at h2; simp [fitsB, boundsT] at h2; omega)
theorem may_a (op a b : Int) (ha : a < 0 ∨ 3 < a) : mayB op a b = false := by
  rw [Bool.eq_false_iff]
  intro h
  have := may_facts op a b h
  omega
theorem may_b (op a : Int) : mayB op a 549755813889 = false := by
  rw [Bool.eq_false_iff]
  intro h
  have hf := may_facts op a _ h
  unfold mayB at h
  simp only [Bool.and_eq_true, decide_eq_true_eq] at h
  have h2 := h.2
  have hk := (kind_ok ⟨op.toNat, by omega⟩ ⟨1, by omega⟩).2
  have hh := hi_all ⟨kindN op.toNat 1, hk⟩
  unfold fitsB at h2
  simp only [Bool.and_eq_true, decide_eq_true_eq] at h2
  simp only at hh
  omega
theorem may_op (a b : Int) : mayB 20 a b = false := by
  rw [Bool.eq_false_iff]
  intro h
  have := may_facts 20 a b h
  omega

theorem range_ev (op a b : Int) : Ev (fun k => quarterdecklaw04_InstrRange.f k op a b) true := by
  unfold quarterdecklaw04_InstrRange.f
  refine Ev.bind awake_ev ?_
  simp only [if_true, instr_May.f, Option.bind_some]
  cases hm : mayB op a b
  · refine Ev.step (f := fun _ => some true) (fun k => ?_) (Ev.now _)
    simp [quarterdecklaw04_InstrRange.j0]
  · obtain ⟨h0, h1, h2, h3⟩ := may_facts op a b hm
    refine Ev.step (f := fun _ => some true) (fun k => ?_) (Ev.now _)
    simp only [quarterdecklaw04_InstrRange.j0, instr_May.f, Option.bind_some]
    rw [may_a op 4 b (by omega), may_b, may_op, may_a op (-1) b (by omega), if_pos (show a ≥ 0 from h2), decide_eq_true h3]
    simp
end Go.Proofs.YtiacjnmkomfdaaaDoor.PureI

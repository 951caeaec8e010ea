/-
  The laws InstrBack and InstrOnce over the printed functions. No program in sight.
  Conditions: bytes are 0 to 255.
-/
import Derived.Test.YtiacjnmkomfdaaaDoorPureI2
import Derived.Test.YtiacjnmkomfdaaaDoorPr6
namespace Go.Proofs.YtiacjnmkomfdaaaDoor.PureI
open Go.RowKit Go.Proofs.YtiacjnmkomfdaaaDoor.Pr Go.Proofs.YtiacjnmkomfdaaaDoorW.PrintWords Go.Proofs.YtiacjnmkomfdaaaDoorW.PrintLast Go.Proofs.YtiacjnmkomfdaaaDoorW.PrintMore Go.Proofs.YtiacjnmkomfdaaaDoor.Instr Go.Proofs.YtiacjnmkomfdaaaDoor.InstrGet Go.Proofs.YtiacjnmkomfdaaaDoor.RefGet Go.Proofs.YtiacjnmkomfdaaaDoor.PureWI
set_option linter.unusedSimpArgs false

theorem back_j1 (l : List S) (rest : List Int) (hl : l.length ≤ 64) (hr : rest.length ≤ 100) (hb : Bytes rest) (h : (packS l []).2 = 0) : Ev (fun k => quarterdecklaw04_InstrBack.j1 k l rest false) true := by
  refine Ev.step (fun k => by simp only [quarterdecklaw04_InstrBack.j1, Bool.false_eq_true, if_false]; rfl) ?_
  by_cases h0 : (l.length : Int) = 0
  · simp only [if_pos h0]; exact Ev.now _
  · simp only [if_neg h0, if_pos (show 0 < (l.length : Int) by omega)]
    rw [show rd_T23 l 0 = l.getD 0 z23 from rd_S l 0]
    obtain ⟨x, l', rfl⟩ : ∃ x l', l = x :: l' := by
      cases l with
      | nil => simp at h0
      | cons x l' => exact ⟨x, l', rfl⟩
    rw [List.getD_cons_zero]
    have hx : (putI x).2 = 0 := by
      simp only [packS] at h
      by_cases hx : (putI x).2 = 0
      · exact hx
      · rw [if_neg hx] at h; exact h
    refine Ev.bind (iput_ev x) ?_
    have hlen := putI_len x
    have c1 : ([] : List Int).length + (putI x).1.length < 140737488355328 := by simp; omega
    have c2 : (putI x).1.length + rest.length < 140737488355328 := by omega
    simp only [if_pos c1, Option.bind_some, List.nil_append, if_pos c2]
    refine Ev.bind (iget_ev ((putI x).1 ++ rest) ?_ (by rw [List.length_append]; omega)) ?_
    · intro y hy
      rcases List.mem_append.mp hy with hy | hy
      · exact putI_bytes x y hy
      · exact hb y hy
    · rw [get_put x rest hx]
      simp only [if_true, beq_self_eq_true, Bool.and_self]
      exact Ev.now _
theorem back_ev (l : List S) (rest : List Int) (hw : ∀ x ∈ rest, (Lit.int .u8 x).wf = true) : Ev (fun k => quarterdecklaw04_InstrBack.f k l rest) true := by
  have hb := wf8 hw
  unfold quarterdecklaw04_InstrBack.f
  refine Ev.bind awake_ev ?_
  simp only [if_true]
  have stop : Ev (fun k => quarterdecklaw04_InstrBack.j0 k l rest true true) true := Ev.step (f := fun _ => some true) (fun k => by simp only [quarterdecklaw04_InstrBack.j0, if_true]) (Ev.now _)
  by_cases ha : (l.length : Int) > 200
  · simp only [if_pos ha]; exact stop
  · simp only [if_neg ha]
    by_cases hr : (rest.length : Int) > 100
    · rw [decide_eq_true hr]; exact stop
    · rw [decide_eq_false hr]
      refine Ev.step (fun k => by simp only [quarterdecklaw04_InstrBack.j0, Bool.false_eq_true, if_false]; rfl) ?_
      refine Ev.bind (pack_ev l) ?_
      unfold packAll
      by_cases h64 : 64 < l.length
      · rw [if_pos h64]
        exact Ev.now _
      · rw [if_neg h64]
        by_cases h0 : (packS l []).2 = 0
        · simp only [if_pos h0]
          have hlen := packS_len l []
          simp only [List.length_nil] at hlen
          refine Ev.bind (unpack_ev _ (packS_bytes l [] (fun x hx => by simp at hx)) (by omega)) ?_
          rw [unpack_back l [] _ h0 (Nat.le_refl _), List.nil_append]
          have e : finU l = (l, 0) := by unfold finU; rw [if_neg h64]
          rw [e]
          refine Ev.bind (isame_self l (by omega)) ?_
          simp only [if_true, Bool.not_true]
          exact back_j1 l rest (by omega) (by omega) hb h0
        · simp only [if_neg h0]
          rw [packS_nil l [] h0]
          exact Ev.now _

theorem once_l0 (b : List Int) (l : List S) (hl : l.length ≤ 64) (h : packS l [] = (b, 0)) (d : Nat) : ∀ i : Nat, i + d = l.length → Ev (fun k => quarterdecklaw04_InstrOnce.l0 k b l i) true := by
  have hm := packS_may l [] (by rw [h])
  induction d with
  | zero =>
    intro i hd
    refine Ev.step (fun k => by simp only [quarterdecklaw04_InstrOnce.l0]; rw [if_neg (by omega)]) ?_
    refine Ev.bind (pack_ev l) ?_
    have e : packAll l = (b, 0) := by unfold packAll; rw [if_neg (by omega), h]
    rw [e]
    simp only [if_true, beq_self_eq_true]
    exact Ev.now _
  | succ d ih =>
    intro i hd
    refine Ev.step (f := fun k => quarterdecklaw04_InstrOnce.l0 k b l ((i + 1 : Nat) : Int)) (fun k => ?_) (ih (i + 1) (by omega))
    have hlt : i < l.length := by omega
    simp only [quarterdecklaw04_InstrOnce.l0]
    rw [if_pos (by omega), if_pos (by omega), rd_S]
    have hmi := hm (l.getD i z23) (by rw [List.getD_eq_getElem?_getD, List.getElem?_eq_getElem hlt]; exact List.getElem_mem hlt)
    simp only [instr_May.f, Option.bind_some, hmi, if_true]
    rw [w64 (by omega) (by omega)]
    rfl
theorem once_ev (b : List Int) (hw : ∀ x ∈ b, (Lit.int .u8 x).wf = true) : Ev (fun k => quarterdecklaw04_InstrOnce.f k b) true := by
  have hb := wf8 hw
  unfold quarterdecklaw04_InstrOnce.f
  refine Ev.bind awake_ev ?_
  simp only [if_true]
  by_cases hl : (b.length : Int) > 2000
  · rw [decide_eq_true hl]
    exact Ev.step (f := fun _ => some true) (fun k => by simp only [quarterdecklaw04_InstrOnce.j0, if_true]) (Ev.now _)
  · rw [decide_eq_false hl]
    refine Ev.step (fun k => by simp only [quarterdecklaw04_InstrOnce.j0, Bool.false_eq_true, if_false]; rfl) ?_
    refine Ev.bind (unpack_ev b hb (by omega)) ?_
    by_cases h0 : (unpackS b.length b []).2 = 0
    · simp only [if_pos h0]
      obtain ⟨l, h1, h2, h3⟩ := unpack_once b.length b [] hb (Nat.le_refl _) h0
      rw [h1]
      rw [List.nil_append] at h2 ⊢
      exact once_l0 b l h2 h3 l.length 0 (by omega)
    · simp only [if_neg h0]
      rw [unpackS_nil _ _ _ h0]
      exact Ev.now _
end Go.Proofs.YtiacjnmkomfdaaaDoor.PureI

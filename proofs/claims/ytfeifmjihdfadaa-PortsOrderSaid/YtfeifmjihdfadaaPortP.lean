/-
  What lies in memory in PortsOrder's loop: two queues, what was sent, what was taken.
-/
import Derived.Test.YtfeifmjihdfadaaPortB
import Derived.Test.YtfeifmjihdfadaaPArgs
namespace Go.Proofs.Ytfeifmjihdfadaa.PortR
set_option maxRecDepth 100000
set_option linter.unusedVariables false
set_option linter.unusedSimpArgs false
open Go.RowKit Go.Proofs.YtfeifmjihdfadaaW.PrintWords Go.Proofs.YtfeifmjihdfadaaW.PrintMore Go.Proofs.Ytfeifmjihdfadaa.Port Go.Proofs.Ytfeifmjihdfadaa.PArgs

structure PMem (w : World) (g : Nat) (a b : Int) (w1 : World) (F T I O : List Int) (lost : Int) (vF vT vI vO : Value) : Prop where
  b0 : w1.heap[g]? = some (.cells #[.int .i64 a, vF, .int .i64 lost] 24 (0, 0))
  b1 : w1.heap[g + 1]? = some (.cells #[.int .i64 b, vT, .int .i64 0] 24 (0, 0))
  f : Rd w1 (g + 1 + 1) vF F
  t : Rd w1 (g + 1 + 1) vT T
  i : Row w1 (g + 1 + 1) vI I
  o : Row w1 (g + 1 + 1) vO O
  sI : ∀ k, vI.ownBlock = some k → vF.ownBlock ≠ some k ∧ vT.ownBlock ≠ some k ∧ vO.ownBlock ≠ some k
  sO : ∀ k, vO.ownBlock = some k → vF.ownBlock ≠ some k ∧ vT.ownBlock ≠ some k
  bel : Below w.heap.size w w1
  lt : w.heap.size ≤ g
section
variable {w w0 w1 : World} {g : Nat} {a b : Int} {F T I O : List Int} {lost : Int} {vF vT vI vO : Value}
theorem PMem.below (h : PMem w g a b w0 F T I O lost vF vT vI vO) (hb : Below w0.heap.size w0 w1) : PMem w g a b w1 F T I O lost vF vT vI vO :=
  ⟨blk_below h.b0 hb, blk_below h.b1 hb, h.f.below hb, h.t.below hb, h.i.below hb, h.o.below hb, h.sI, h.sO, btrans h.bel hb, h.lt⟩
theorem PMem.from_ (h : PMem w g a b w0 F T I O lost vF vT vI vO) (hb : Below w0.heap.size w0 w1) {v : Value} {F' : List Int} (hf : Rd w1 w0.heap.size v F') (lost' : Int) :
    PMem w g a b (((w1.setCell ⟨g, 0, none⟩ (.int .i64 a)).setCell ⟨g, 1, none⟩ v).setCell ⟨g, 2, none⟩ (.int .i64 lost')) F' T I O lost' v vT vI vO := by
  have hg : g + 1 < w0.heap.size := blk_lt h.b1
  have h1 := h.below hb
  have hf' := hf.lt
  have ht' := h.t.lt
  have hi' := h.i.lt
  have ho' := h.o.lt
  refine ⟨?_, ?_, ?_, ?_, ?_, ?_, ?_, ?_, ?_, h.lt⟩
  · exact blk_put (blk_put (blk_put h1.b0 0 _ rfl) 1 _ rfl) 2 _ rfl
  · exact blk_far (blk_far (blk_far h1.b1 (p := ⟨g, 0, none⟩) (by simp) _) (p := ⟨g, 1, none⟩) (by simp) _) (p := ⟨g, 2, none⟩) (by simp) _
  · exact (hf.set3 (fun k hk => by have := hf' k hk; omega) _ _ _).lower (by omega)
  · exact h1.t.set3 (fun k hk => by have := ht' k hk; omega) _ _ _
  · exact h1.i.set3 (fun k hk => by have := hi' k hk; omega) _ _ _
  · exact h1.o.set3 (fun k hk => by have := ho' k hk; omega) _ _ _
  · exact fun k hk => ⟨fun he => by have := hf' k he; have := hi' k hk; omega, (h.sI k hk).2⟩
  · exact fun k hk => ⟨fun he => by have := hf' k he; have := ho' k hk; omega, (h.sO k hk).2⟩
  · exact put3 h1.bel h.lt _ _ _
theorem PMem.to2 (h : PMem w g a b w1 F T I O lost vF vT vI vO) {v : Value} {T' : List Int} (hf : Rd w1 (g + 1 + 1) v T') (hs : ∀ k, v.ownBlock = some k → vI.ownBlock ≠ some k ∧ vO.ownBlock ≠ some k) :
    PMem w g a b (((w1.setCell ⟨g + 1, 0, none⟩ (.int .i64 b)).setCell ⟨g + 1, 1, none⟩ v).setCell ⟨g + 1, 2, none⟩ (.int .i64 0)) F T' I O lost vF v vI vO := by
  have hf' := hf.lt
  have ht' := h.f.lt
  have hi' := h.i.lt
  have ho' := h.o.lt
  have hl := h.lt
  refine ⟨?_, ?_, ?_, ?_, ?_, ?_, ?_, ?_, ?_, h.lt⟩
  · exact blk_far (blk_far (blk_far h.b0 (p := ⟨g + 1, 0, none⟩) (by simp) _) (p := ⟨g + 1, 1, none⟩) (by simp) _) (p := ⟨g + 1, 2, none⟩) (by simp) _
  · exact blk_put (blk_put (blk_put h.b1 0 _ rfl) 1 _ rfl) 2 _ rfl
  · exact h.f.set3 (fun k hk => by have := ht' k hk; omega) _ _ _
  · exact hf.set3 (fun k hk => by have := hf' k hk; omega) _ _ _
  · exact h.i.set3 (fun k hk => by have := hi' k hk; omega) _ _ _
  · exact h.o.set3 (fun k hk => by have := ho' k hk; omega) _ _ _
  · exact fun k hk => ⟨(h.sI k hk).1, fun he => (hs k he).1 hk, (h.sI k hk).2.2⟩
  · exact fun k hk => ⟨(h.sO k hk).1, fun he => (hs k he).2 hk⟩
  · exact put3 h.bel (by omega) _ _ _
theorem PMem.to_ (h : PMem w g a b w0 F T I O lost vF vT vI vO) (hb : Below w0.heap.size w0 w1) {v : Value} {T' : List Int} (hf : Rd w1 w0.heap.size v T') :
    PMem w g a b (((w1.setCell ⟨g + 1, 0, none⟩ (.int .i64 b)).setCell ⟨g + 1, 1, none⟩ v).setCell ⟨g + 1, 2, none⟩ (.int .i64 0)) F T' I O lost vF v vI vO := by
  have hg : g + 1 < w0.heap.size := blk_lt h.b1
  have hi' := h.i.lt
  have ho' := h.o.lt
  have hf' := hf.lt
  exact (h.below hb).to2 (hf.lower (by omega)) (fun k hk => ⟨fun he => by have := hf' k hk; have := hi' k he; omega, fun he => by have := hf' k hk; have := ho' k he; omega⟩)
theorem PMem.inn (h1 : PMem w g a b w0 F T I O lost vF vT vI vO) {v : Value} {I' : List Int} (hg : w0.grownBy w1 vI.ownBlock) (hi : Row w1 (g + 1 + 1) v I') (hat : v.ownBlock = vI.ownBlock ∨ ∃ k, v.ownBlock = some k ∧ w0.heap.size ≤ k) :
    PMem w g a b w1 F T I' O lost vF vT v vO := by
  have hgl : g + 1 < w0.heap.size := blk_lt h1.b1
  have hf' := h1.f.lt
  have ht' := h1.t.lt
  have hi' := h1.i.lt
  have ho' := h1.o.lt
  have hl := h1.lt
  refine ⟨?_, ?_, ?_, ?_, hi, ?_, ?_, h1.sO, ?_, h1.lt⟩
  · exact blk_grown h1.b0 hg (fun e => by have := hi' _ e.symm; omega)
  · exact blk_grown h1.b1 hg (fun e => by have := hi' _ e.symm; omega)
  · exact h1.f.grown hg (fun k hk e => (h1.sI k e.symm).1 hk)
  · exact h1.t.grown hg (fun k hk e => (h1.sI k e.symm).2.1 hk)
  · exact h1.o.grown hg (fun k hk e => (h1.sI k e.symm).2.2 hk)
  · intro k hk
    rcases hat with he | ⟨k', he, hle⟩
    · exact h1.sI k (he ▸ hk)
    · rw [he] at hk
      injection hk with hk
      exact ⟨fun e => by have := hf' k e; omega, fun e => by have := ht' k e; omega, fun e => by have := ho' k e; omega⟩
  · exact h1.bel.grown hg (by omega) (fun k hk => by have := hi' k hk; omega)
theorem PMem.out_ (h1 : PMem w g a b w0 F T I O lost vF vT vI vO) {v : Value} {O' : List Int} (hg : w0.grownBy w1 vO.ownBlock) (ho : Row w1 (g + 1 + 1) v O') (hat : v.ownBlock = vO.ownBlock ∨ ∃ k, v.ownBlock = some k ∧ w0.heap.size ≤ k) :
    PMem w g a b w1 F T I O' lost vF vT vI v := by
  have hgl : g + 1 < w0.heap.size := blk_lt h1.b1
  have hf' := h1.f.lt
  have ht' := h1.t.lt
  have hi' := h1.i.lt
  have ho' := h1.o.lt
  have hl := h1.lt
  refine ⟨?_, ?_, ?_, ?_, ?_, ho, ?_, ?_, ?_, h1.lt⟩
  · exact blk_grown h1.b0 hg (fun e => by have := ho' _ e.symm; omega)
  · exact blk_grown h1.b1 hg (fun e => by have := ho' _ e.symm; omega)
  · exact h1.f.grown hg (fun k hk e => (h1.sO k e.symm).1 hk)
  · exact h1.t.grown hg (fun k hk e => (h1.sO k e.symm).2 hk)
  · exact h1.i.grown hg (fun k hk e => (h1.sI k hk).2.2 e.symm)
  · intro k hk
    refine ⟨(h1.sI k hk).1, (h1.sI k hk).2.1, ?_⟩
    rcases hat with he | ⟨k', he, hle⟩
    · rw [he]; exact (h1.sI k hk).2.2
    · rw [he]
      intro e
      injection e with e
      have := hi' k hk
      omega
  · intro k hk
    rcases hat with he | ⟨k', he, hle⟩
    · exact h1.sO k (he ▸ hk)
    · rw [he] at hk
      injection hk with hk
      exact ⟨fun e => by have := hf' k e; omega, fun e => by have := ht' k e; omega⟩
  · exact h1.bel.grown hg (by omega) (fun k hk => by have := ho' k hk; omega)
end
/-- What holds of the lists. -/
structure PList (a b : Int) (k : Nat) (F T I O : List Int) (lost : Int) : Prop where
  eq : I = O ++ T ++ F
  fl : (F.length : Int) ≤ a
  tl : (T.length : Int) ≤ b
  l0 : 0 ≤ lost
  l1 : lost ≤ k
  il : I.length ≤ k
section
variable {a b : Int} {k : Nat} {F T I O : List Int} {lost : Int}
theorem PList.send (h : PList a b k F T I O lost) (x : Int) (hf : (F.length : Int) < a) : PList a b (k + 1) (F ++ [x]) T (I ++ [x]) O lost :=
  ⟨by rw [h.eq]; simp, by simp; omega, h.tl, h.l0, by have := h.l1; omega, by have := h.il; simp; omega⟩
theorem PList.full (h : PList a b k F T I O lost) : PList a b (k + 1) F T I O (lost + 1) :=
  ⟨h.eq, h.fl, h.tl, by have := h.l0; omega, by have := h.l1; omega, by have := h.il; omega⟩
theorem PList.same (h : PList a b k F T I O lost) : PList a b (k + 1) F T I O lost :=
  ⟨h.eq, h.fl, h.tl, h.l0, by have := h.l1; omega, by have := h.il; omega⟩
theorem PList.take (h : PList a b k F T I O lost) (hp : 0 < T.length) : PList a b (k + 1) F (T.drop 1) I (O ++ [rd T 0]) lost := by
  obtain ⟨x, T, rfl⟩ : ∃ x T', T = x :: T' := by cases T with | nil => simp at hp | cons x T' => exact ⟨x, T', rfl⟩
  refine ⟨?_, h.fl, by have := h.tl; simp at this ⊢; omega, h.l0, by have := h.l1; omega, by have := h.il; omega⟩
  rw [h.eq]; simp [rd]
theorem PList.move (h : PList a b k F T I O lost) : PList a b (k + 1) (F.drop (movN F T b)) (T ++ F.take (movN F T b)) I O lost := by
  refine ⟨?_, ?_, ?_, h.l0, by have := h.l1; omega, by have := h.il; omega⟩
  · rw [h.eq]; simp only [List.append_assoc, List.take_append_drop]
  · have := h.fl; rw [List.length_drop]; omega
  · have := h.tl; rw [List.length_append, List.length_take]; unfold movN; omega
theorem PList.small (h : PList a b k F T I O lost) (hk : k ≤ 100) : F.length ≤ 100 ∧ T.length ≤ 100 ∧ I.length ≤ 100 ∧ O.length ≤ 100 := by
  have h1 := h.il
  have h2 : I.length = O.length + T.length + F.length := by rw [h.eq]; simp only [List.length_append]
  omega
end
end Go.Proofs.Ytfeifmjihdfadaa.PortR

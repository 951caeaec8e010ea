/-
  append of many numbers, over the rows of XPort.
-/
import Derived.Test.YtfeifmjihdfadaaPortA
namespace Go.Proofs.Ytfeifmjihdfadaa.Port
set_option maxRecDepth 100000
set_option linter.unusedVariables false
set_option linter.unusedSimpArgs false
open Go.RowKit Go.Proofs.YtfeifmjihdfadaaW.PrintWords Go.Proofs.YtfeifmjihdfadaaW.PrintMore

theorem C_cells {W : World} {A : Option Addr} {n : Nat} {ys : List Int} (h : (Kd.int .i64).C W A n ys) (ad : Addr) (ha : A = some ad) (j : Nat) (u : Value) (hu : (ys.map (Value.int .i64))[j]? = some u) : W.cell? (ad.add j) = some u := by
  rw [List.getElem?_map] at hu
  obtain ⟨y, hy, rfl⟩ := Option.map_eq_some_iff.1 hu
  have hj := (List.getElem?_eq_some_iff.1 hy).1
  obtain ⟨ad', he, hc⟩ := h.2.2 (by have := h.1; omega)
  rw [ha] at he
  injection he with he
  subst he
  obtain ⟨c, h1, h2, h3⟩ := hc j y hy
  have h2' : c = [.int .i64 y] := h2
  subst h2'
  have := h3 0 (.int .i64 y) rfl
  have hs : (Kd.int .i64).sz = 1 := rfl
  rwa [hs, Nat.mul_one, Nat.add_zero] at this

theorem appends_run (W : World) (base : Nat) (v : Value) (l : List Int) (A : Option Addr) (c : Nat) (ys : List Int) (ty : TypeId) (HO : Row W base v l) (HC : (Kd.int .i64).C W A ys.length ys) (hbase : base ≤ W.heap.size) (hl : l.length + ys.length ≤ 1000000) :
    ∃ v1 w1, (Builtin.append_ #[22, 22] ty #[v, .slice A ys.length c]).run Try.prog W = .ok v1 w1 ∧ Row w1 base v1 (l ++ ys) ∧ W.grownBy w1 v.ownBlock ∧ (v1.ownBlock = v.ownBlock ∨ ∃ b, v1.ownBlock = some b ∧ W.heap.size ≤ b) := by
  have hi3 : (Try.prog.info? 3).map (fun i => (i.zero, i.size, i.bytes)) = some (some (.int .i64 0), 1, 8) := rfl
  obtain ⟨i0, hi, hzz⟩ := Option.map_eq_some_iff.1 hi3
  simp only [Prod.mk.injEq] at hzz
  obtain ⟨hz0, hz1, hz2⟩ := hzz
  have hmx : maxLen = 9223372036854775807 := rfl
  have ht0 := Try.underlying22
  rcases A with _ | ad
  · have hy : ys = [] := by
      rcases ys with _ | ⟨y, ys⟩
      · rfl
      · obtain ⟨ad, h, _⟩ := HC.2.2 (by simp)
        cases h
    subst hy
    refine ⟨v, W, ?_, by rw [List.append_nil]; exact HO, World.grownBy.refl W _, .inl rfl⟩
    rcases HO with ⟨rfl, rfl⟩ | ⟨g, cap, cur, rfl, hb, hg, hn, hm, hs, ht⟩
    · simp [Builtin.append_, run_underlying ht0, sizeOf, typeInfo, hi, Builtin.lenOf, Builtin.firstCells]
    · simp [Builtin.append_, run_underlying ht0, sizeOf, typeInfo, hi, Builtin.lenOf, Builtin.firstCells, hn, storeCells]
  have hnews := fun j u hu => C_cells HC ad rfl j u hu
  have grown : ∀ (old : Nat), old < l.length + ys.length → ∀ (row : Option Nat),
      Row (W.drew.alloc (.cells ((l.map (Value.int .i64)).toArray ++ (ys.map (Value.int .i64)).toArray ++ Builtin.zeroCells (Value.int .i64 0).cells (grownCap W (l.length + ys.length) old 3 - (l.length + ys.length))) 3)) base
        (.slice (some ⟨W.heap.size, 0, none⟩) (l.length + ys.length) (grownCap W (l.length + ys.length) old 3)) (l ++ ys) ∧
      W.grownBy (W.drew.alloc (.cells ((l.map (Value.int .i64)).toArray ++ (ys.map (Value.int .i64)).toArray ++ Builtin.zeroCells (Value.int .i64 0).cells (grownCap W (l.length + ys.length) old 3 - (l.length + ys.length))) 3)) row := by
    intro old ho row
    have hge := grownCap_ge W (l.length + ys.length) old 3
    have hcm : grownCap W (l.length + ys.length) old 3 ≤ maxLen := grownCap_le_maxLen W (l.length + ys.length) old 3 (by omega)
    refine ⟨.inr ⟨W.heap.size, _, _, by simp, hbase, heap_alloc_new W.drew _, by simpa using hge, hcm, ?_, ?_⟩, ⟨rfl, rfl, rfl, by simp, fun k hk _ => heap_alloc_old W.drew _ hk⟩⟩
    · have hsz : (Value.int .i64 0).cells.size = 1 := rfl
      simp only [Array.size_append, List.size_toArray, size_zeroCells, hsz, List.length_map]
      omega
    · simp only [Array.toList_append, List.append_assoc, List.map_append]
      rw [← List.append_assoc, show (l ++ ys).length = (l.map (Value.int .i64) ++ ys.map (Value.int .i64)).length by simp]
      exact List.take_left
  have hone : ∀ u ∈ ys.map (Value.int .i64), u.oneCell' = true := fun u hu => by
    obtain ⟨y, _, rfl⟩ := List.mem_map.1 hu
    rfl
  rcases HO with ⟨rfl, rfl⟩ | ⟨g, cap, cur, rfl, hb, hg, hn, hm, hs, ht⟩
  · rcases Nat.eq_zero_or_pos ys.length with h0 | h0
    · obtain rfl := List.eq_nil_of_length_eq_zero h0
      refine ⟨.slice none 0 0, W, ?_, Row.nil _ _, World.grownBy.refl W _, .inl rfl⟩
      simp [Builtin.append_, run_underlying ht0, sizeOf, typeInfo, hi, Builtin.lenOf, Builtin.firstCells, loadCells, loadCellsFrom]
    · have hr := run_append_nil (P := Try.prog) W 22 ty 3 i0 _ ht0 hi hz0 ad ys.length c (ys.map (Value.int .i64)) (by simp [hz1]) hnews h0 (by simp only [List.length_nil] at hl; omega) (by rw [hz2]; simp only [List.length_nil] at hl; omega)
      have hgr := grown 0 (by simpa using h0) (Value.ownBlock (.slice none 0 0))
      simp only [List.length_nil, Nat.zero_add, List.map_nil, List.nil_append, Array.empty_append] at hgr ⊢
      exact ⟨_, _, hr, hgr.1, hgr.2, .inr ⟨_, rfl, Nat.le_refl _⟩⟩
  · have holds : ∀ j u, (l.map (Value.int .i64))[j]? = some u → W.cell? ((⟨g, 0, none⟩ : Addr).add j) = some u :=
      Row.cells (base := base) (n := l.length) (c := cap) (.inr ⟨g, cap, cur, rfl, hb, hg, hn, hm, hs, ht⟩) _ rfl
    by_cases hroom : l.length + ys.length ≤ cap
    · have hr := run_append_room (P := Try.prog) W 22 ty 3 i0 ht0 hi g l.length cap cur hg ad ys.length c (ys.map (Value.int .i64)) (by simp [hz1]) hnews hone hroom (by simp [hz1]; omega)
      refine ⟨_, _, hr, .inr ⟨g, cap, _, by simp, hb, setRow_heap W g cur _ _ _ hg, by simpa using hroom, hm, ?_, ?_⟩, ⟨rfl, rfl, rfl, by simp, fun k _ hk => setRow_other W g k _ (fun e => hk (by simp [Value.ownBlock, e]))⟩, .inl rfl⟩
      · simp only [List.size_toArray, List.length_append, List.length_take, List.length_drop, Array.length_toList, hz1, List.length_map]
        omega
      · simp only [hz1, Nat.mul_one]
        rw [ht, show (l ++ ys).length = (l.map (Value.int .i64) ++ ys.map (Value.int .i64)).length by simp, List.map_append]
        exact List.take_left
    · have hr := run_append_grow (P := Try.prog) W 22 ty 3 i0 _ ht0 hi hz0 ⟨g, 0, none⟩ l.length cap (l.map (Value.int .i64)) (by simp [hz1]) holds ad ys.length c (ys.map (Value.int .i64)) (by simp [hz1]) hnews (by omega) (by omega) (growslice_fits (by omega) (by rw [hz2]; omega))
      have hgr := grown cap (by omega) (Value.ownBlock (.slice (some ⟨g, 0, none⟩) l.length cap))
      exact ⟨_, _, by simpa using hr, hgr.1, hgr.2, .inr ⟨_, rfl, Nat.le_refl _⟩⟩

theorem appends_ev {ops : Array Oper} {rest : List Oper} {o : Oper} {a : Act} {Q : Exit → Act → World → Prop} (hgd : o.guard = none) (s x : Operand)
    (ho : o.op = .call { callee := .builtin .append, args := #[s, x], argTypes := #[22, 22] })
    {W : World} {base : Nat} {v : Value} {l : List Int} {A : Option Addr} {c : Nat} {ys : List Int} (hs : a.eval s = v) (hx : a.eval x = .slice A ys.length c) (HO : Row W base v l) (HC : (Kd.int .i64).C W A ys.length ys) (hbase : base ≤ W.heap.size) (hl : l.length + ys.length ≤ 1000000)
    (h : ∀ v1 w1, Row w1 base v1 (l ++ ys) → W.grownBy w1 v.ownBlock → (v1.ownBlock = v.ownBlock ∨ ∃ b, v1.ownBlock = some b ∧ W.heap.size ≤ b) → wpList Try.prog ops Q rest (a.put o.dst v1) w1) :
    wpList Try.prog ops Q (o :: rest) a W := by
  obtain ⟨v1, w1, hr, h1, h2, h3⟩ := appends_run W base v l A c ys o.type HO HC hbase hl
  refine wpList_plain hgd fun K hK => ?_
  unfold Oper.wp execOp
  simp only [ho, resolve, invoke, builtin, Sem.run_bind, Sem.run_pure, Result.andThen_ok, List.map_toArray, List.map_cons, List.map_nil, hs, hx, hr]
  exact hK _ _ (h v1 w1 h1 h2 h3)
theorem below_grown {W w1 : World} {v : Value} (hv : v.ownBlock = none) (h : W.grownBy w1 v.ownBlock) : Below W.heap.size W w1 := ⟨h.os, h.tape, h.output, h.size, fun k hk => h.block k hk (by rw [hv]; simp)⟩
/-- append([]int(nil), ys...). -/
theorem copy_ev {ops : Array Oper} {rest : List Oper} {o : Oper} {a : Act} {Q : Exit → Act → World → Prop} (hgd : o.guard = none) (x : Operand)
    (ho : o.op = .call { callee := .builtin .append, args := #[.const (.slice none 0 0), x], argTypes := #[22, 22] })
    {W : World} {A : Option Addr} {c : Nat} {ys : List Int} (hx : a.eval x = .slice A ys.length c) (HC : (Kd.int .i64).C W A ys.length ys) (hl : ys.length ≤ 1000000)
    (h : ∀ v1 w1, Row w1 W.heap.size v1 ys → Below W.heap.size W w1 → wpList Try.prog ops Q rest (a.put o.dst v1) w1) :
    wpList Try.prog ops Q (o :: rest) a W :=
  appends_ev hgd (.const (.slice none 0 0)) x ho (v := .slice none 0 0) (l := []) rfl hx (Row.nil W W.heap.size) HC (Nat.le_refl _) (by simpa using hl) (fun v1 w1 h1 h2 _ => h v1 w1 (by simpa using h1) (below_grown rfl h2))
theorem appends_st {ops : Array Oper} {o : Oper} {a : Act} {K : Act → World → Prop} {Q : Exit → Act → World → Prop} {E : Prop} (hgd : o.guard = none) (s x : Operand)
    (ho : o.op = .call { callee := .builtin .append, args := #[s, x], argTypes := #[22, 22] })
    {W : World} {base : Nat} {v : Value} {l : List Int} {A : Option Addr} {c : Nat} {ys : List Int} (hs : a.eval s = v) (hx : a.eval x = .slice A ys.length c) (HO : Row W base v l) (HC : (Kd.int .i64).C W A ys.length ys) (hbase : base ≤ W.heap.size) (hl : l.length + ys.length ≤ 1000000)
    (h : ∀ v1 w1, Row w1 base v1 (l ++ ys) → W.grownBy w1 v.ownBlock → (v1.ownBlock = v.ownBlock ∨ ∃ b, v1.ownBlock = some b ∧ W.heap.size ≤ b) → K (a.put o.dst v1) w1) :
    if Region.wanted o (yielded ops a.tmps) = true then Oper.wp Try.prog o a W K Q else E := by
  obtain ⟨v1, w1, hr, h1, h2, h3⟩ := appends_run W base v l A c ys o.type HO HC hbase hl
  have hw : Region.wanted o (yielded ops a.tmps) = true := by simp [Region.wanted, hgd]
  rw [if_pos hw]
  unfold Oper.wp execOp
  simp only [ho, resolve, invoke, builtin, Sem.run_bind, Sem.run_pure, Result.andThen_ok, List.map_toArray, List.map_cons, List.map_nil, hs, hx, hr]
  exact h v1 w1 h1 h2 h3
end Go.Proofs.Ytfeifmjihdfadaa.Port

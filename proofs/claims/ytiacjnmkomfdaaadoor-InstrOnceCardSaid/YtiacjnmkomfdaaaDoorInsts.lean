/-
  An argument '[]Instr' opened: the instructions lie in memory as a list. And an Instr by value.
  Conditions: what the claim's own opening gives.
-/
import Derived.Test.YtiacjnmkomfdaaaDoorPr0
import Derived.Deep.Slices
import Derived.Deep.Fields
import Derived.ChangeSame
import Derived.Lib.SmallJoins
import Derived.ProofKit
import Derived.OpenShut
import Derived.ShutString
import Derived.ChangeOld
import Derived.SizedLaws
namespace Go.Proofs.YtiacjnmkomfdaaaDoor.Insts
open Go.ChangeShapes Go.WideShapes Go.Deep Go.Joins Go.RowKit Go.Proofs.YtiacjnmkomfdaaaDoorW.PrintWords Go.Proofs.YtiacjnmkomfdaaaDoor.Pr
section
variable {H : Type} {enc : TypeId × Value → H} {P : Program} {w : World} {base : Nat} {spare : Nat → Bool} {held : Bool}
theorem open_slice_fields {t e : TypeId} {fs : Array Field} {fuel : Nat} {cs : List Value} {x : DataW H × List MemPlace} (ht : P.underlying t = some (.slice e)) (he : P.underlying e = some (.struct fs))
    (hone : oneCellFields P fs = true) (hC : P.cellsOf e = fs.size) (h : DataW.trod enc P w base spare held fuel t cs = some x) :
    (cs = [.slice none 0 0] ∧ x = (.nil, [])) ∨
    ∃ (a : Addr) (len cap m : Nat), cs = [.slice (some a) len cap] ∧ len ≤ cap ∧ cap ≤ maxLen ∧ m = (if spare a.block then cap else len) ∧
      ∀ i, i < m → ∃ n : Nat, ∀ (j : Nat) (f : Field), fs[j]? = some f → ∃ (v : Value) (y : DataW H × List MemPlace), w.cell? (a.add (i * fs.size + j)) = some v ∧ DataW.trod enc P w base spare held n f.type [v] = some y := by
  rcases open_slice ht h with h0 | ⟨a, len, cap, m, n, D, Pl, hcs, hb, hl, hm, hmm, hx, hi⟩
  · exact .inl h0
  · refine .inr ⟨a, len, cap, m, hcs, hl, hm, hmm, fun i him => ?_⟩
    obtain ⟨cs', hc, ht'⟩ := hi i him
    rw [hC] at hc
    obtain ⟨ys, n', hn', hy, hlen, hyl, hf⟩ := DataW.trod_struct he ht'
    obtain ⟨_, hcl, hat⟩ := World.cells?_some hc
    refine ⟨n', fun j f hj => ?_⟩
    obtain ⟨ho, hk⟩ := hone_of hone j f hj
    have hjl : j < fs.size := (Array.getElem?_eq_some_iff.1 hj).1
    have hcell := hat j hjl
    have hv : cs'[j]? = some (cs'[j]'(by omega)) := List.getElem?_eq_getElem (by omega)
    have h1 := hf j f hj
    rw [ho, hk] at h1
    have hone' : (cs'.drop j).take 1 = [cs'[j]'(by omega)] := by
      rw [List.drop_eq_getElem_cons (by omega)]
      rfl
    rw [hone'] at h1
    have hys : ys[j]? = some (ys[j]'(by omega)) := List.getElem?_eq_getElem (by omega)
    refine ⟨_, _, ?_, h1.trans hys⟩
    rw [← Go.Deep.add_add, hcell, hv]
end

theorem C_of_cells (w : World) (a : Addr) (len : Nat) (hn : len ≤ maxLen)
    (hi : ∀ i, i < len → ∃ y : S23, w.cell? (a.add (i * 3)) = some (.int .i64 y.f0) ∧ w.cell? (a.add (i * 3 + 1)) = some (.int .i64 y.f1) ∧ w.cell? (a.add (i * 3 + 2)) = some (.int .i64 y.f2)) :
    ∃ l : List S23, l.length = len ∧ Kd.C k23 w (some a) len l := by
  have h : ∀ n, n ≤ len → ∃ l : List S23, l.length = n ∧ ∀ i y, l[i]? = some y → w.cell? (a.add (i * 3)) = some (.int .i64 y.f0) ∧ w.cell? (a.add (i * 3 + 1)) = some (.int .i64 y.f1) ∧ w.cell? (a.add (i * 3 + 2)) = some (.int .i64 y.f2) := by
    intro n
    induction n with
    | zero => exact fun _ => ⟨[], rfl, fun i y hy => by simp at hy⟩
    | succ n ih =>
      intro hle
      obtain ⟨l, hl, hc⟩ := ih (by omega)
      obtain ⟨y, hy⟩ := hi n (by omega)
      refine ⟨l ++ [y], by simp [hl], fun i z hz => ?_⟩
      by_cases hlt : i < l.length
      · rw [List.getElem?_append_left hlt] at hz
        exact hc i z hz
      · have hil : i < (l ++ [y]).length := (List.getElem?_eq_some_iff.1 hz).1
        have he : i = n := by simp at hil; omega
        subst he
        rw [← hl, List.getElem?_concat_length] at hz
        injection hz with hz
        subst hz
        exact hy
  obtain ⟨l, hl, hc⟩ := h len (Nat.le_refl _)
  refine ⟨l, hl, hl, Nat.le_trans hn (by decide), fun _ => ⟨a, rfl, fun j p hp => ?_⟩⟩
  obtain ⟨h0, h1, h2⟩ := hc j p hp
  refine ⟨[.int .i64 p.f0, .int .i64 p.f1, .int .i64 p.f2], rfl, k23_mk w p, fun i u hu => ?_⟩
  have hs : k23.sz = 3 := rfl
  rw [hs]
  match i, hu with
  | 0, hu => injection hu with hu; subst hu; exact h0
  | 1, hu => injection hu with hu; subst hu; exact h1
  | 2, hu => injection hu with hu; subst hu; exact h2
  | i + 3, hu => exact absurd hu (by simp)

theorem open_insts {H : Type} {enc : TypeId × Value → H} {w : World} {base : Nat} {spare : Nat → Bool} {held : Bool} {fuel : Nat} {cs : List Value} {x : DataW H × List MemPlace}
    (h : DataW.trod enc Tryd.prog w base spare held fuel 26 cs = some x) :
    ∃ (A : Option Addr) (len cap : Nat) (l : List S23), cs = [.slice A len cap] ∧ len ≤ cap ∧ l.length = len ∧ Kd.C k23 w A len l := by
  rcases open_slice_fields Tryd.underlying26 Tryd.underlying23 (by kernel_rfl) (by kernel_rfl) h with ⟨rfl, _⟩ | ⟨a, len, cap, m, rfl, hl, hm, hmm, hi⟩
  · exact ⟨none, 0, 0, [], rfl, Nat.le_refl _, rfl, Kd.C_nil _ _⟩
  · have hlm : len ≤ m := by rw [hmm]; split <;> omega
    obtain ⟨l, h1, h2⟩ := C_of_cells w a len (Nat.le_trans hl hm) (fun i hil => by
      obtain ⟨n, hf⟩ := hi i (by omega)
      obtain ⟨v0, y0, c0, t0⟩ := hf 0 _ rfl
      obtain ⟨v1, y1, c1, t1⟩ := hf 1 _ rfl
      obtain ⟨v2, y2, c2, t2⟩ := hf 2 _ rfl
      obtain ⟨n0, e0, _⟩ := DataW.trod_int Tryd.underlying3 t0
      obtain ⟨n1, e1, _⟩ := DataW.trod_int Tryd.underlying3 t1
      obtain ⟨b2, e2, _⟩ := DataW.trod_int Tryd.underlying3 t2
      injection e0 with e0
      injection e1 with e1
      injection e2 with e2
      subst e0 e1 e2
      exact ⟨⟨n0, n1, b2⟩, c0, c1, c2⟩)
    exact ⟨some a, len, cap, l, rfl, hl, h1, h2⟩

theorem open_inst {H : Type} {enc : TypeId × Value → H} {w : World} {base : Nat} {spare : Nat → Bool} {held : Bool} {r : Reach} {b0 : Nat} {v : Value} {d : DataW H} {p : List MemPlace}
    (hv : Value.okWide Tryd.prog w r b0 23 v) (h : DataW.Trod enc Tryd.prog w base spare held 23 v d p) : ∃ (f l b : Int), v = .agg #[.int .i64 f, .int .i64 l, .int .i64 b] := by
  obtain ⟨v0, v1, v2, y0, y1, y2, n, rfl, _, _, t0, t1, t2⟩ := open_agg3 Tryd.underlying23 (by kernel_rfl) (by kernel_rfl) hv h
  obtain ⟨n0, e0, _⟩ := DataW.trod_int Tryd.underlying3 t0
  obtain ⟨n1, e1, _⟩ := DataW.trod_int Tryd.underlying3 t1
  obtain ⟨b2, e2, _⟩ := DataW.trod_int Tryd.underlying3 t2
  injection e0 with e0
  injection e1 with e1
  injection e2 with e2
  subst e0 e1 e2
  exact ⟨n0, n1, b2, rfl⟩
end Go.Proofs.YtiacjnmkomfdaaaDoor.Insts

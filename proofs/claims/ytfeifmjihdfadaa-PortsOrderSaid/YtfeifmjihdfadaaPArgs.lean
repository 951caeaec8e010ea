/-
  Arguments opened: a queue by value, operations that lie in memory as a list.
  Conditions: what the claim's own opening gives.
-/
import Derived.Test.YtfeifmjihdfadaaPort
import Derived.Deep.Slices
import Derived.Deep.Fields
import Derived.ChangeSame
import Derived.Lib.SmallJoins
import Derived.ProofKit
import Derived.OpenShut
import Derived.ShutString
import Derived.ChangeOld
import Derived.SizedLaws
namespace Go.Proofs.Ytfeifmjihdfadaa.PArgs
set_option linter.unusedVariables false
open Go.ChangeShapes Go.WideShapes Go.Deep Go.Joins Go.RowKit Go.Proofs.YtfeifmjihdfadaaW.PrintWords
section
variable {H : Type} {enc : TypeId × Value → H} {P : Program} {w : World} {base : Nat} {spare : Nat → Bool} {held : Bool}
theorem open_slice_fields {t e : TypeId} {fs : Array Field} {fuel : Nat} {cs : List Value} {x : DataW H × List MemPlace} (ht : P.underlying t = some (.slice e)) (he : P.underlying e = some (.struct fs))
    (hone : oneCellFields P fs = true) (hC : P.cellsOf e = fs.size) (h : DataW.trod enc P w base spare held fuel t cs = some x) :
    (cs = [.slice none 0 0] ∧ x = (.nil, [])) ∨
    ∃ (a : Addr) (len cap m : Nat), cs = [.slice (some a) len cap] ∧ len ≤ cap ∧ cap ≤ maxLen ∧ m = (if spare a.block then cap else len) ∧
      ∀ i, i < m → ∃ n : Nat, ∀ (j : Nat) (f : Field), fs[j]? = some f → ∃ (v : Value) (y : DataW H × List MemPlace), w.cell? (a.add (i * fs.size + j)) = some v ∧ DataW.trod enc P w base spare held n f.type [v] = some y := by
  rcases open_slice ht h with h0 | ⟨a, len, cap, m, n, D, Pl, hcs, hb, hl, hm, hmm, hx, hi⟩
  · exact .inl h0
  · refine .inr ⟨a, len, cap, m, hcs, hl, hm, hmm, fun i him => ?_⟩
    obtain ⟨cs', hc, ht'⟩ := hi i him
    rw [hC] at hc
    obtain ⟨ys, n', hn', hy, hlen, hyl, hf⟩ := DataW.trod_struct he ht'
    obtain ⟨_, hcl, hat⟩ := World.cells?_some hc
    refine ⟨n', fun j f hj => ?_⟩
    obtain ⟨ho, hk⟩ := hone_of hone j f hj
    have hjl : j < fs.size := (Array.getElem?_eq_some_iff.1 hj).1
    have hcell := hat j hjl
    have hv : cs'[j]? = some (cs'[j]'(by omega)) := List.getElem?_eq_getElem (by omega)
    have h1 := hf j f hj
    rw [ho, hk] at h1
    have hone' : (cs'.drop j).take 1 = [cs'[j]'(by omega)] := by
      rw [List.drop_eq_getElem_cons (by omega)]
      rfl
    rw [hone'] at h1
    have hys : ys[j]? = some (ys[j]'(by omega)) := List.getElem?_eq_getElem (by omega)
    refine ⟨_, _, ?_, h1.trans hys⟩
    rw [← Go.Deep.add_add, hcell, hv]
end
def IsRow (k : IntKind) (w : World) (a : Option Addr) (len cap : Nat) (zs : List Int) : Prop :=
  (a = none ∧ len = 0 ∧ cap = 0 ∧ zs = []) ∨
  ∃ x, a = some x ∧ len ≤ cap ∧ cap ≤ maxLen ∧ zs.length = cap ∧ (∀ i, i < zs.length → w.cell? (x.add i) = some (.int k (zs.getD i 0))) ∧ ∀ n ∈ zs, (Lit.int k n).wf = true
theorem open_queue {H : Type} {enc : TypeId × Value → H} {w : World} {base : Nat} {held : Bool} {r : Reach} {b0 : Nat} {v : Value} {d : DataW H} {p : List MemPlace}
    (hv : Value.okWide Try.prog w r b0 24 v) (h : DataW.Trod enc Try.prog w base (fun _ => true) held 24 v d p) :
    ∃ (q : Int) (A : Option Addr) (c : Nat) (lost : Int) (l : List Int), v = .agg #[.int .i64 q, .slice A l.length c, .int .i64 lost] ∧ (Kd.int .i64).C w A l.length l ∧ l.length ≤ c ∧ (A = none → c = 0) := by
  obtain ⟨v0, v1, v2, y0, y1, y2, n, rfl, _, _, t0, t1, t2⟩ := open_agg3 Try.underlying24 (by kernel_rfl) (by kernel_rfl) hv h
  obtain ⟨n0, e0, _⟩ := DataW.trod_int Try.underlying3 t0
  obtain ⟨n2, e2, _⟩ := DataW.trod_int Try.underlying3 t2
  injection e0 with e0
  injection e2 with e2
  subst e0 e2
  rcases open_ints Try.underlying22 Try.underlying3 (by kernel_rfl) t1 with ⟨hcs, _⟩ | ⟨x, l, c, zs, hcs, _, hl, hm, hz, _, hcell, hwz⟩
  · injection hcs with hcs
    subst hcs
    exact ⟨n0, none, 0, n2, [], rfl, Kd.C_nil _ _, Nat.le_refl _, fun _ => rfl⟩
  · injection hcs with hcs
    subst hcs
    have w0 : IsRow .i64 w (some x) l c zs := .inr ⟨_, rfl, hl, hm, by simpa using hz, hcell, hwz⟩
    obtain ⟨m, rfl, hr, _, hw, hc⟩ := ReadsInt.ofRowC w0
    exact ⟨n0, some x, c, n2, m, rfl, Kd.C_of_reads (d := (0 : Int)) (h1 := fun _ => rfl) hr, hc, fun h => by cases h⟩

/-- Operations that lie in memory. -/
def OpsAt (w : World) (A : Option Addr) (xs : List (Int × Int)) : Prop :=
  xs.length ≤ 9223372036854775807 ∧ (0 < xs.length → ∃ ad : Addr, A = some ad ∧ ∀ i x, xs[i]? = some x →
    w.cell? (ad.add (i * 2)) = some (.int .i64 x.1) ∧ w.cell? ⟨(ad.add (i * 2)).block, (ad.add (i * 2)).off + 1, none⟩ = some (.int .i64 x.2))
theorem ops_of_cells (w : World) (a : Addr) (len : Nat) (hn : len ≤ maxLen)
    (hi : ∀ i, i < len → ∃ y : Int × Int, w.cell? (a.add (i * 2)) = some (.int .i64 y.1) ∧ w.cell? (a.add (i * 2 + 1)) = some (.int .i64 y.2)) :
    ∃ l : List (Int × Int), l.length = len ∧ OpsAt w (some a) l := by
  have h : ∀ n, n ≤ len → ∃ l : List (Int × Int), l.length = n ∧ ∀ i y, l[i]? = some y → w.cell? (a.add (i * 2)) = some (.int .i64 y.1) ∧ w.cell? (a.add (i * 2 + 1)) = some (.int .i64 y.2) := by
    intro n
    induction n with
    | zero => exact fun _ => ⟨[], rfl, fun i y hy => by simp at hy⟩
    | succ n ih =>
      intro hle
      obtain ⟨l, hl, hc⟩ := ih (by omega)
      obtain ⟨y, hy⟩ := hi n (by omega)
      refine ⟨l ++ [y], by simp [hl], fun i z hz => ?_⟩
      by_cases hlt : i < l.length
      · rw [List.getElem?_append_left hlt] at hz
        exact hc i z hz
      · have hil : i < (l ++ [y]).length := (List.getElem?_eq_some_iff.1 hz).1
        have he : i = n := by simp at hil; omega
        subst he
        rw [← hl, List.getElem?_concat_length] at hz
        injection hz with hz
        subst hz
        exact hy
  obtain ⟨l, hl, hc⟩ := h len (Nat.le_refl _)
  refine ⟨l, hl, by rw [hl]; exact Nat.le_trans hn (by decide), fun _ => ⟨a, rfl, fun j p hp => ?_⟩⟩
  obtain ⟨h0, h1⟩ := hc j p hp
  refine ⟨h0, ?_⟩
  have he : a.add (j * 2 + 1) = ⟨(a.add (j * 2)).block, (a.add (j * 2)).off + 1, none⟩ := by
    unfold Addr.add
    rw [if_neg (by omega)]
    split
    · next h => simp_all
    · simp [Nat.add_assoc]
  rw [← he]; exact h1
theorem open_ops {H : Type} {enc : TypeId × Value → H} {w : World} {base : Nat} {spare : Nat → Bool} {held : Bool} {fuel : Nat} {cs : List Value} {x : DataW H × List MemPlace}
    (h : DataW.trod enc Try.prog w base spare held fuel 35 cs = some x) :
    ∃ (A : Option Addr) (len cap : Nat) (l : List (Int × Int)), cs = [.slice A len cap] ∧ len ≤ cap ∧ l.length = len ∧ OpsAt w A l := by
  rcases open_slice_fields Try.underlying35 Try.underlying37 (by kernel_rfl) (by kernel_rfl) h with ⟨rfl, _⟩ | ⟨a, len, cap, m, rfl, hl, hm, hmm, hi⟩
  · exact ⟨none, 0, 0, [], rfl, Nat.le_refl _, rfl, by simp, fun h => absurd h (by simp)⟩
  · have hlm : len ≤ m := by rw [hmm]; split <;> omega
    obtain ⟨l, h1, h2⟩ := ops_of_cells w a len (Nat.le_trans hl hm) (fun i hil => by
      obtain ⟨n, hf⟩ := hi i (by omega)
      obtain ⟨v0, y0, c0, t0⟩ := hf 0 _ rfl
      obtain ⟨v1, y1, c1, t1⟩ := hf 1 _ rfl
      obtain ⟨n0, e0, _⟩ := DataW.trod_int Try.underlying3 t0
      obtain ⟨n1, e1, _⟩ := DataW.trod_int Try.underlying3 t1
      injection e0 with e0
      injection e1 with e1
      subst e0 e1
      exact ⟨(n0, n1), c0, c1⟩)
    exact ⟨some a, len, cap, l, rfl, hl, h1, h2⟩
end Go.Proofs.Ytfeifmjihdfadaa.PArgs

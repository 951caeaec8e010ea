/-
  Arguments opened: instructions and regions that lie in memory as lists, a core by value.
  Conditions: what the claim's own opening gives.
-/
import Derived.Test.YtlphgnfjemaliaaDoorPr0
import Derived.Test.YtlphgnfjemaliaaDoorCpuL
import Derived.Deep.Slices
import Derived.Deep.Fields
import Derived.ChangeSame
import Derived.Lib.SmallJoins
import Derived.Laws.IdiomArrays
import Derived.ProofKit
import Derived.OpenShut
import Derived.ShutString
import Derived.ChangeOld
import Derived.SizedLaws
namespace Go.Proofs.YtlphgnfjemaliaaDoor.Args
set_option linter.unusedVariables false
open Go.ChangeShapes Go.WideShapes Go.Deep Go.Joins Go.RowKit Go.Proofs.YtlphgnfjemaliaaDoorW.PrintWords Go.Proofs.YtlphgnfjemaliaaDoor.Pr
section
variable {H : Type} {enc : TypeId × Value → H} {P : Program} {w : World} {base : Nat} {spare : Nat → Bool} {held : Bool}
theorem open_slice_fields {t e : TypeId} {fs : Array Field} {fuel : Nat} {cs : List Value} {x : DataW H × List MemPlace} (ht : P.underlying t = some (.slice e)) (he : P.underlying e = some (.struct fs))
    (hone : oneCellFields P fs = true) (hC : P.cellsOf e = fs.size) (h : DataW.trod enc P w base spare held fuel t cs = some x) :
    (cs = [.slice none 0 0] ∧ x = (.nil, [])) ∨
    ∃ (a : Addr) (len cap m : Nat), cs = [.slice (some a) len cap] ∧ len ≤ cap ∧ cap ≤ maxLen ∧ m = (if spare a.block then cap else len) ∧
      ∀ i, i < m → ∃ n : Nat, ∀ (j : Nat) (f : Field), fs[j]? = some f → ∃ (v : Value) (y : DataW H × List MemPlace), w.cell? (a.add (i * fs.size + j)) = some v ∧ DataW.trod enc P w base spare held n f.type [v] = some y := by
  rcases open_slice ht h with h0 | ⟨a, len, cap, m, n, D, Pl, hcs, hb, hl, hm, hmm, hx, hi⟩
  · exact .inl h0
  · refine .inr ⟨a, len, cap, m, hcs, hl, hm, hmm, fun i him => ?_⟩
    obtain ⟨cs', hc, ht'⟩ := hi i him
    rw [hC] at hc
    obtain ⟨ys, n', hn', hy, hlen, hyl, hf⟩ := DataW.trod_struct he ht'
    obtain ⟨_, hcl, hat⟩ := World.cells?_some hc
    refine ⟨n', fun j f hj => ?_⟩
    obtain ⟨ho, hk⟩ := hone_of hone j f hj
    have hjl : j < fs.size := (Array.getElem?_eq_some_iff.1 hj).1
    have hcell := hat j hjl
    have hv : cs'[j]? = some (cs'[j]'(by omega)) := List.getElem?_eq_getElem (by omega)
    have h1 := hf j f hj
    rw [ho, hk] at h1
    have hone' : (cs'.drop j).take 1 = [cs'[j]'(by omega)] := by
      rw [List.drop_eq_getElem_cons (by omega)]
      rfl
    rw [hone'] at h1
    have hys : ys[j]? = some (ys[j]'(by omega)) := List.getElem?_eq_getElem (by omega)
    refine ⟨_, _, ?_, h1.trans hys⟩
    rw [← Go.Deep.add_add, hcell, hv]
end

theorem C_of_cells (w : World) (a : Addr) (len : Nat) (hn : len ≤ maxLen)
    (hi : ∀ i, i < len → ∃ y : S25, w.cell? (a.add (i * 3)) = some (.int .i64 y.f0) ∧ w.cell? (a.add (i * 3 + 1)) = some (.int .i64 y.f1) ∧ w.cell? (a.add (i * 3 + 2)) = some (.bool y.f2)) :
    ∃ l : List S25, l.length = len ∧ Kd.C k25 w (some a) len l := by
  have h : ∀ n, n ≤ len → ∃ l : List S25, l.length = n ∧ ∀ i y, l[i]? = some y → w.cell? (a.add (i * 3)) = some (.int .i64 y.f0) ∧ w.cell? (a.add (i * 3 + 1)) = some (.int .i64 y.f1) ∧ w.cell? (a.add (i * 3 + 2)) = some (.bool y.f2) := by
    intro n
    induction n with
    | zero => exact fun _ => ⟨[], rfl, fun i y hy => by simp at hy⟩
    | succ n ih =>
      intro hle
      obtain ⟨l, hl, hc⟩ := ih (by omega)
      obtain ⟨y, hy⟩ := hi n (by omega)
      refine ⟨l ++ [y], by simp [hl], fun i z hz => ?_⟩
      by_cases hlt : i < l.length
      · rw [List.getElem?_append_left hlt] at hz
        exact hc i z hz
      · have hil : i < (l ++ [y]).length := (List.getElem?_eq_some_iff.1 hz).1
        have he : i = n := by simp at hil; omega
        subst he
        rw [← hl, List.getElem?_concat_length] at hz
        injection hz with hz
        subst hz
        exact hy
  obtain ⟨l, hl, hc⟩ := h len (Nat.le_refl _)
  refine ⟨l, hl, hl, Nat.le_trans hn (by decide), fun _ => ⟨a, rfl, fun j p hp => ?_⟩⟩
  obtain ⟨h0, h1, h2⟩ := hc j p hp
  refine ⟨[.int .i64 p.f0, .int .i64 p.f1, .bool p.f2], rfl, k25_mk w p, fun i u hu => ?_⟩
  have hs : k25.sz = 3 := rfl
  rw [hs]
  match i, hu with
  | 0, hu => injection hu with hu; subst hu; exact h0
  | 1, hu => injection hu with hu; subst hu; exact h1
  | 2, hu => injection hu with hu; subst hu; exact h2
  | i + 3, hu => exact absurd hu (by simp)

theorem open_regs {H : Type} {enc : TypeId × Value → H} {w : World} {base : Nat} {spare : Nat → Bool} {held : Bool} {fuel : Nat} {cs : List Value} {x : DataW H × List MemPlace}
    (h : DataW.trod enc Tryd.prog w base spare held fuel 26 cs = some x) :
    ∃ (A : Option Addr) (len cap : Nat) (l : List S25), cs = [.slice A len cap] ∧ len ≤ cap ∧ l.length = len ∧ Kd.C k25 w A len l := by
  rcases open_slice_fields Tryd.underlying26 Tryd.underlying25 (by kernel_rfl) (by kernel_rfl) h with ⟨rfl, _⟩ | ⟨a, len, cap, m, rfl, hl, hm, hmm, hi⟩
  · exact ⟨none, 0, 0, [], rfl, Nat.le_refl _, rfl, Kd.C_nil _ _⟩
  · have hlm : len ≤ m := by rw [hmm]; split <;> omega
    obtain ⟨l, h1, h2⟩ := C_of_cells w a len (Nat.le_trans hl hm) (fun i hil => by
      obtain ⟨n, hf⟩ := hi i (by omega)
      obtain ⟨v0, y0, c0, t0⟩ := hf 0 _ rfl
      obtain ⟨v1, y1, c1, t1⟩ := hf 1 _ rfl
      obtain ⟨v2, y2, c2, t2⟩ := hf 2 _ rfl
      obtain ⟨n0, e0, _⟩ := DataW.trod_int Tryd.underlying3 t0
      obtain ⟨n1, e1, _⟩ := DataW.trod_int Tryd.underlying3 t1
      obtain ⟨b2, e2, _⟩ := DataW.trod_bool Tryd.underlying4 t2
      injection e0 with e0
      injection e1 with e1
      injection e2 with e2
      subst e0 e1 e2
      exact ⟨⟨n0, n1, b2⟩, c0, c1, c2⟩)
    exact ⟨some a, len, cap, l, rfl, hl, h1, h2⟩


theorem code_of_cells (w : World) (a : Addr) (len : Nat) (hn : len ≤ maxLen)
    (hi : ∀ i, i < len → ∃ y : Int × Int × Int, w.cell? (a.add (i * 3)) = some (.int .i64 y.1) ∧ w.cell? (a.add (i * 3 + 1)) = some (.int .i64 y.2.1) ∧ w.cell? (a.add (i * 3 + 2)) = some (.int .i64 y.2.2)) :
    ∃ l : List (Int × Int × Int), l.length = len ∧ CpuC.CodeAt w (some a) l := by
  have h : ∀ n, n ≤ len → ∃ l : List (Int × Int × Int), l.length = n ∧ ∀ i y, l[i]? = some y → w.cell? (a.add (i * 3)) = some (.int .i64 y.1) ∧ w.cell? (a.add (i * 3 + 1)) = some (.int .i64 y.2.1) ∧ w.cell? (a.add (i * 3 + 2)) = some (.int .i64 y.2.2) := by
    intro n
    induction n with
    | zero => exact fun _ => ⟨[], rfl, fun i y hy => by simp at hy⟩
    | succ n ih =>
      intro hle
      obtain ⟨l, hl, hc⟩ := ih (by omega)
      obtain ⟨y, hy⟩ := hi n (by omega)
      refine ⟨l ++ [y], by simp [hl], fun i z hz => ?_⟩
      by_cases hlt : i < l.length
      · rw [List.getElem?_append_left hlt] at hz
        exact hc i z hz
      · have hil : i < (l ++ [y]).length := (List.getElem?_eq_some_iff.1 hz).1
        have he : i = n := by simp at hil; omega
        subst he
        rw [← hl, List.getElem?_concat_length] at hz
        injection hz with hz
        subst hz
        exact hy
  obtain ⟨l, hl, hc⟩ := h len (Nat.le_refl _)
  refine ⟨l, hl, by rw [hl]; exact Nat.le_trans hn (by decide), fun _ => ⟨a, rfl, fun j p hp => ?_⟩⟩
  obtain ⟨h0, h1, h2⟩ := hc j p hp
  exact ⟨h0, by rw [← add_field _ _ 1 (by omega)]; exact h1, by rw [← add_field _ _ 2 (by omega)]; exact h2⟩

theorem open_code {H : Type} {enc : TypeId × Value → H} {w : World} {base : Nat} {spare : Nat → Bool} {held : Bool} {fuel : Nat} {cs : List Value} {x : DataW H × List MemPlace}
    (h : DataW.trod enc Tryd.prog w base spare held fuel 32 cs = some x) :
    ∃ (A : Option Addr) (len cap : Nat) (l : List (Int × Int × Int)), cs = [.slice A len cap] ∧ len ≤ cap ∧ l.length = len ∧ CpuC.CodeAt w A l := by
  rcases open_slice_fields Tryd.underlying32 Tryd.underlying31 (by kernel_rfl) (by kernel_rfl) h with ⟨rfl, _⟩ | ⟨a, len, cap, m, rfl, hl, hm, hmm, hi⟩
  · exact ⟨none, 0, 0, [], rfl, Nat.le_refl _, rfl, CpuL.codeAt_nil _⟩
  · have hlm : len ≤ m := by rw [hmm]; split <;> omega
    obtain ⟨l, h1, h2⟩ := code_of_cells w a len (Nat.le_trans hl hm) (fun i hil => by
      obtain ⟨n, hf⟩ := hi i (by omega)
      obtain ⟨v0, y0, c0, t0⟩ := hf 0 _ rfl
      obtain ⟨v1, y1, c1, t1⟩ := hf 1 _ rfl
      obtain ⟨v2, y2, c2, t2⟩ := hf 2 _ rfl
      obtain ⟨n0, e0, _⟩ := DataW.trod_int Tryd.underlying3 t0
      obtain ⟨n1, e1, _⟩ := DataW.trod_int Tryd.underlying3 t1
      obtain ⟨n2, e2, _⟩ := DataW.trod_int Tryd.underlying3 t2
      injection e0 with e0
      injection e1 with e1
      injection e2 with e2
      subst e0 e1 e2
      exact ⟨(n0, n1, n2), c0, c1, c2⟩)
    exact ⟨some a, len, cap, l, rfl, hl, h1, h2⟩

theorem array5 {cs : Array Value} (h : cs.size = 5) : ∃ a b c d e, cs = #[a, b, c, d, e] := by
  obtain ⟨l⟩ := cs
  match l, h with
  | [a, b, c, d, e], _ => exact ⟨a, b, c, d, e, rfl⟩
theorem wf64 {x : Int} (h : (Lit.int .i64 x).wf = true) : -9223372036854775808 ≤ x ∧ x ≤ 9223372036854775807 := by
  have := h
  simp [Lit.wf, IntKind.min, IntKind.max, IntKind.bits, IntKind.signed] at this
  omega
theorem open_core {H : Type} {enc : TypeId × Value → H} {w : World} {base : Nat} {spare : Nat → Bool} {held : Bool} {r : Reach} {b0 : Nat} {v : Value} {d : DataW H} {p : List MemPlace}
    (hv : Value.okWide Tryd.prog w r b0 29 v) (h : DataW.Trod enc Tryd.prog w base spare held 29 v d p) :
    ∃ c : CpuS.Core, v = CpuS.coreV c ∧ (∀ i, i < 4 → -9223372036854775808 ≤ c.r i ∧ c.r i ≤ 9223372036854775807) := by
  obtain ⟨cs, rfl, hsz⟩ := okWide_struct Tryd.underlying29 hv
  obtain ⟨v0, v1, v2, v3, v4, rfl⟩ := array5 (hsz.trans (by kernel_rfl))
  obtain ⟨fuel, hf⟩ := h
  obtain ⟨y0, y1, n, _, _, h0, h1⟩ := trod_struct2 Tryd.underlying29 hf
  have k1 : Tryd.prog.cellsOf 3 = 1 := by kernel_rfl
  have k4 : Tryd.prog.cellsOf 27 = 4 := by kernel_rfl
  simp only [Value.cells, k1, k4] at h0 h1
  obtain ⟨n0, e0, _, _⟩ := DataW.trod_int Tryd.underlying3 h0
  obtain ⟨z0, z1, z2, z3, n', _, t0, t1, t2, t3⟩ := trod_array4 Tryd.underlying27 k1 (show DataW.trod enc Tryd.prog w base spare held n 27 [v1, v2, v3, v4] = some y1 from h1)
  obtain ⟨m0, f0, _, w0⟩ := DataW.trod_int Tryd.underlying3 t0
  obtain ⟨m1, f1, _, w1⟩ := DataW.trod_int Tryd.underlying3 t1
  obtain ⟨m2, f2, _, w2⟩ := DataW.trod_int Tryd.underlying3 t2
  obtain ⟨m3, f3, _, w3⟩ := DataW.trod_int Tryd.underlying3 t3
  have e0' : v0 = .int .i64 n0 := by
    have : [v0] = [Value.int .i64 n0] := e0
    injection this
  injection f0 with f0
  injection f1 with f1
  injection f2 with f2
  injection f3 with f3
  subst e0' f0 f1 f2 f3
  refine ⟨⟨n0, CpuL.regs4 m0 m1 m2 m3⟩, rfl, fun i hi => ?_⟩
  match i, hi with
  | 0, _ => exact wf64 w0
  | 1, _ => exact wf64 w1
  | 2, _ => exact wf64 w2
  | 3, _ => exact wf64 w3
end Go.Proofs.YtlphgnfjemaliaaDoor.Args

/-
  Plain lemmas on the printed functions of chapter 03 and its reference: what they come to, in lists of regions.
  No program in sight. Conditions: numbers of 64 bits where a lemma says so.
-/
import Derived.Test.YtkdcjkgofbjnlaaPr2
import Derived.Test.YtkdcjkgofbjnlaaPr3
import Derived.Test.YtkdcjkgofbjnlaaPr4
import Derived.Test.YtkdcjkgofbjnlaaPr5
import Derived.Test.YtkdcjkgofbjnlaaPr6
namespace Go.Proofs.Ytkdcjkgofbjnlaa.PureM
open Go.RowKit Go.Proofs.Ytkdcjkgofbjnlaa.Pr Go.Proofs.YtkdcjkgofbjnlaaW.PrintWords Go.Proofs.YtkdcjkgofbjnlaaW.PrintLast Go.Proofs.YtkdcjkgofbjnlaaW.PrintMore Go.Proofs.Ytkdcjkgofbjnlaa.Mem

set_option linter.unusedSimpArgs false
abbrev S := S26

theorem w64 {x : Int} (h0 : -9223372036854775808 ≤ x) (h1 : x ≤ 9223372036854775807) : wrap64 x = x := by unfold wrap64; omega
def I64 (x : Int) : Prop := -9223372036854775808 ≤ x ∧ x ≤ 9223372036854775807

theorem awake_eq : quarterdecklaw03_awake.f = some true := by decide +kernel

theorem rd_nat (l : List S) (i : Nat) : rd_T26 l (i : Int) = l.getD i z26 := by unfold rd_T26; rw [Int.toNat_natCast]
theorem drop_getD (l : List S) (i : Nat) (h : i < l.length) : l.drop i = l.getD i z26 :: l.drop (i + 1) := by
  rw [List.getD_eq_getElem?_getD, List.getElem?_eq_getElem h, Option.getD_some]; exact List.drop_eq_getElem_cons h

/-- Has a region a word, as the reference asks? -/
def inB (x : S) (a : Int) : Bool := decide (0 ≤ x.f0) && decide (x.f0 < 1000) && decide (x.f0 ≤ a) && decide (a - x.f0 < x.f1) && decide (a - x.f0 < 200)

theorem in_l0 (x : S) (a : Int) (d : Nat) : ∀ n : Nat, n + d = 200 → (0 ≤ x.f0 → x.f0 < 1000 → ∀ m : Nat, m < n → (m : Int) < x.f1 → x.f0 + m ≠ a) →
    Ev (fun k => quarterdeckref03_in.l0 k a n x.f0 x.f1 x.f2) (inB x a) := by
  induction d with
  | zero =>
    intro n hn hlow
    have hr : inB x a = false := by
      rw [Bool.eq_false_iff]
      intro h
      simp only [inB, Bool.and_eq_true, decide_eq_true_eq] at h
      exact hlow (by omega) (by omega) (a - x.f0).toNat (by omega) (by omega) (by omega)
    rw [hr]
    refine Ev.step (f := fun k => quarterdeckref03_in.j1 k a n false x.f0 x.f1 x.f2) (fun k => ?_) ?_
    · simp only [quarterdeckref03_in.l0]
      rw [show decide ((n : Int) < 200) = false from decide_eq_false (by omega)]
      split <;> rfl
    · refine Ev.step (f := fun _ => some false) (fun k => ?_) (Ev.now _)
      simp [quarterdeckref03_in.j1]
  | succ d ih =>
    intro n hn hlow
    by_cases hf : (n : Int) < x.f1
    · refine Ev.step (f := fun k => quarterdeckref03_in.j1 k a n true x.f0 x.f1 x.f2) (fun k => ?_) ?_
      · simp only [quarterdeckref03_in.l0]
        rw [if_pos hf, show decide ((n : Int) < 200) = true from decide_eq_true (by omega)]
      · by_cases hh : 0 ≤ x.f0 ∧ x.f0 < 1000 ∧ x.f0 + n = a
        · have hr : inB x a = true := by
            simp only [inB, Bool.and_eq_true, decide_eq_true_eq]; omega
          rw [hr]
          refine Ev.step (f := fun _ => some true) (fun k => ?_) (Ev.now _)
          simp only [quarterdeckref03_in.j1]
          rw [if_pos trivial, if_pos hh.1, if_pos hh.2.1, w64 (by omega) (by omega), if_pos hh.2.2]
        · refine Ev.step (f := fun k => quarterdeckref03_in.l0 k a ((n + 1 : Nat) : Int) x.f0 x.f1 x.f2) (fun k => ?_) (ih (n + 1) (by omega) ?_)
          · simp only [quarterdeckref03_in.j1]
            rw [if_pos trivial, w64 (x := (n : Int) + 1) (by omega) (by omega)]
            by_cases h0 : x.f0 ≥ 0
            · rw [if_pos h0]
              by_cases h1 : x.f0 < 1000
              · rw [if_pos h1, w64 (by omega) (by omega), if_neg (by omega)]; rfl
              · rw [if_neg h1]; rfl
            · rw [if_neg h0]; rfl
          · intro h0 h1 m hm hm1
            by_cases he : m = n
            · subst he; intro h; exact hh ⟨h0, h1, h⟩
            · exact hlow h0 h1 m (by omega) hm1
    · have hr : inB x a = false := by
        rw [Bool.eq_false_iff]
        intro h
        simp only [inB, Bool.and_eq_true, decide_eq_true_eq] at h
        exact hlow (by omega) (by omega) (a - x.f0).toNat (by omega) (by omega) (by omega)
      rw [hr]
      refine Ev.step (f := fun k => quarterdeckref03_in.j1 k a n false x.f0 x.f1 x.f2) (fun k => ?_) ?_
      · simp only [quarterdeckref03_in.l0]
        rw [if_neg hf]
      · refine Ev.step (f := fun _ => some false) (fun k => ?_) (Ev.now _)
        simp [quarterdeckref03_in.j1]

theorem in_ev (x : S) (a : Int) : Ev (fun k => quarterdeckref03_in.f k x.f0 x.f1 x.f2 a) (inB x a) :=
  in_l0 x a 200 0 (by omega) (fun _ _ m hm => by omega)

/-- Does a region count? -/
def cntB (a : Int) (md : Bool) (x : S) : Bool := inB x a && (x.f2 || !md)

theorem many_l0 (l : List S) (hl : l.length ≤ 1000) (a : Int) (md : Bool) (d : Nat) : ∀ (i c : Nat), i + d = l.length → c ≤ i →
    Ev (fun k => quarterdeckref03_many.l0 k l a md c i) ((c + (l.drop i).countP (cntB a md) : Nat) : Int) := by
  induction d with
  | zero =>
    intro i c hi hc
    refine Ev.step (f := fun _ => some ((c : Nat) : Int)) (fun k => ?_) ?_
    · simp only [quarterdeckref03_many.l0]
      rw [if_neg (by omega)]
    · rw [List.drop_eq_nil_of_le (by omega)]
      exact Ev.now _
  | succ d ih =>
    intro i c hi hc
    have hlt : i < l.length := by omega
    rw [drop_getD l i hlt, List.countP_cons]
    generalize hx : l.getD i z26 = x
    refine Ev.step (f := fun k => (quarterdeckref03_in.f k x.f0 x.f1 x.f2 a).bind fun t => if t = true then (if x.f2 = true then quarterdeckref03_many.l0 k l a md ((c + 1 : Nat) : Int) ((i + 1 : Nat) : Int) else if md = true then quarterdeckref03_many.l0 k l a md c ((i + 1 : Nat) : Int) else quarterdeckref03_many.l0 k l a md ((c + 1 : Nat) : Int) ((i + 1 : Nat) : Int)) else quarterdeckref03_many.l0 k l a md c ((i + 1 : Nat) : Int)) (fun k => ?_) ?_
    · simp only [quarterdeckref03_many.l0]
      rw [if_pos (by omega), if_pos (by omega), rd_nat, hx, w64 (x := (c : Int) + 1) (by omega) (by omega), w64 (x := (i : Int) + 1) (by omega) (by omega)]
      rfl
    · refine Ev.bind (in_ev x a) ?_
      have h1 := ih (i + 1) (c + 1) (by omega) (by omega)
      have h0 := ih (i + 1) c (by omega) (by omega)
      generalize (l.drop (i + 1)).countP (cntB a md) = N at *
      have e1 : c + (N + 1) = c + 1 + N := by omega
      rw [show cntB a md x = (inB x a && (x.f2 || !md)) from rfl]
      cases inB x a <;> cases x.f2 <;> cases md <;> simp only [Bool.and_true, Bool.and_false, Bool.or_true, Bool.or_false, Bool.true_and, Bool.false_and, Bool.not_true, Bool.not_false, Bool.false_eq_true, if_true, if_false, Nat.add_zero] <;> first | exact h0 | (rw [e1]; exact h1)

theorem many_ev (l : List S) (hl : l.length ≤ 1000) (a : Int) (md : Bool) : Ev (fun k => quarterdeckref03_many.f k l a md) ((l.countP (cntB a md) : Nat) : Int) := by
  have h := many_l0 l hl a md l.length 0 0 (by omega) (by omega)
  rw [List.drop_zero, Nat.zero_add] at h
  exact h

/-! ### touch -/
/-- What the reference says of a touch. -/
def refN (n : Nat) (l : List S) (a : Int) (md : Bool) : Int := if a < 0 ∨ (n : Int) ≤ a then 4 else if l.countP (cntB a md) = 0 then 6 else 0

theorem touch_ev (m : List Int) (l : List S) (hl : l.length ≤ 1000) (a : Int) (md : Bool) : Ev (fun k => quarterdeckref03_touch.f k m l a md) (refN m.length l a md) := by
  have hj : ∀ b : Bool, b = decide (a < 0 ∨ (m.length : Int) ≤ a) → Ev (fun k => quarterdeckref03_touch.j0 k l a md b) (refN m.length l a md) := by
    intro b hb
    unfold refN
    by_cases h : a < 0 ∨ (m.length : Int) ≤ a
    · rw [decide_eq_true h] at hb
      subst hb
      rw [if_pos h]
      refine Ev.step (f := fun _ => some 4) (fun k => ?_) (Ev.now _)
      simp [quarterdeckref03_touch.j0]
    · rw [decide_eq_false h] at hb
      subst hb
      rw [if_neg h]
      refine Ev.step (f := fun k => (quarterdeckref03_many.f k l a md).bind fun t => if t = 0 then some 6 else some 0) (fun k => ?_) ?_
      · simp [quarterdeckref03_touch.j0]
      · refine Ev.bind (many_ev l hl a md) ?_
        by_cases h0 : l.countP (cntB a md) = 0
        · rw [h0]; exact Ev.now _
        · rw [if_neg (by omega), if_neg h0]; exact Ev.now _
  unfold quarterdeckref03_touch.f
  by_cases h : a < 0
  · simp only [if_pos h]; exact hj true (by simp [h])
  · simp only [if_neg h]; exact hj _ (by simp [h])

/-- A region's word, where it may be touched, as the reference asks. -/
theorem hasB_in (x : S) (a : Int) (ha : 0 ≤ a) (ha2 : a ≤ 9223372036854775807) (h1 : x.f1 ≤ 200) (h2 : x.f0 < 1000) : hasB (rg_ x) a = inB x a := by
  unfold hasB inB rg_
  simp only
  by_cases h0 : 0 ≤ x.f0
  · by_cases h3 : x.f0 ≤ a
    · rw [w64 (by omega) (by omega)]
      simp only [h0, h3, h2, decide_true, Bool.true_and]
      by_cases h4 : a - x.f0 < x.f1
      · simp [h4]; omega
      · simp [h4]
    · simp [h3]
  · simp [h0]

theorem any_cnt (l : List S) (a : Int) (md : Bool) (ha : 0 ≤ a) (ha2 : a ≤ 9223372036854775807) (hf : ∀ x ∈ l, x.f1 ≤ 200 ∧ x.f0 < 1000) : (l.map rg_).any (mayB a md) = !decide (l.countP (cntB a md) = 0) := by
  induction l with
  | nil => simp
  | cons x l ih =>
    have hx := hf x (by simp)
    rw [List.map_cons, List.any_cons, ih (fun y hy => hf y (by simp [hy])), List.countP_cons]
    have e : mayB a md (rg_ x) = cntB a md x := by
      unfold mayB cntB
      rw [hasB_in x a ha ha2 hx.1 hx.2]
      rfl
    rw [e]
    cases cntB a md x <;> simp

theorem wrong_ref (n : Nat) (l : List S) (a : Int) (md : Bool) (hn : n ≤ 1000) (hf : ∀ x ∈ l, x.f1 ≤ 200 ∧ x.f0 < 1000) : wrongN n (l.map rg_) a md = refN n l a md := by
  unfold wrongN refN
  by_cases h : a < 0 ∨ (n : Int) ≤ a
  · rw [if_pos h, if_pos h]
  · rw [if_neg h, if_neg h, any_cnt l a md (by omega) (by omega) hf]
    by_cases h0 : l.countP (cntB a md) = 0
    · simp [h0]
    · simp [h0]

/-! ### the law MemTouches -/
theorem few_l0 (l : List S) (hl : l.length ≤ 20) (d : Nat) : ∀ i : Nat, i + d = l.length → Ev (fun k => quarterdecklaw03_Few.l0 k l i) ((l.drop i).all fun x => decide (x.f1 ≤ 200) && decide (x.f0 < 1000)) := by
  induction d with
  | zero =>
    intro i hi
    rw [List.drop_eq_nil_of_le (by omega)]
    refine Ev.step (f := fun _ => some true) (fun k => ?_) (Ev.now _)
    simp only [quarterdecklaw03_Few.l0]
    rw [if_neg (by omega)]
  | succ d ih =>
    intro i hi
    have hlt : i < l.length := by omega
    rw [drop_getD l i hlt, List.all_cons]
    generalize hx : l.getD i z26 = x
    by_cases h1 : x.f1 > 200
    · refine Ev.step (f := fun _ => some false) (fun k => ?_) ?_
      · simp only [quarterdecklaw03_Few.l0]
        rw [if_pos (by omega), if_pos (by omega), rd_nat, hx, if_pos h1]
      · rw [show decide (x.f1 ≤ 200) = false from decide_eq_false (by omega)]; exact Ev.now _
    · by_cases h2 : x.f0 ≥ 1000
      · refine Ev.step (f := fun _ => some false) (fun k => ?_) ?_
        · simp only [quarterdecklaw03_Few.l0]
          rw [if_pos (by omega), if_pos (by omega), rd_nat, hx, if_neg h1, if_pos h2]
        · rw [show decide (x.f0 < 1000) = false from decide_eq_false (by omega), Bool.and_false]; exact Ev.now _
      · refine Ev.step (f := fun k => quarterdecklaw03_Few.l0 k l ((i + 1 : Nat) : Int)) (fun k => ?_) ?_
        · simp only [quarterdecklaw03_Few.l0]
          rw [if_pos (by omega), if_pos (by omega), rd_nat, hx, if_neg h1, if_neg h2, w64 (x := (i : Int) + 1) (by omega) (by omega)]
          rfl
        · rw [show decide (x.f1 ≤ 200) = true from decide_eq_true (by omega), show decide (x.f0 < 1000) = true from decide_eq_true (by omega)]
          exact ih (i + 1) (by omega)

def fewB (m : List Int) (l : List S) : Bool := decide (m.length ≤ 200) && decide (l.length ≤ 20) && l.all fun x => decide (x.f1 ≤ 200) && decide (x.f0 < 1000)
theorem few_ev (m : List Int) (l : List S) : Ev (fun k => quarterdecklaw03_Few.f k m l) (fewB m l) := by
  have ht : Ev (fun k => quarterdecklaw03_Few.j0 k l true) false := by
    refine Ev.step (f := fun _ => some false) (fun k => ?_) (Ev.now _)
    simp [quarterdecklaw03_Few.j0]
  unfold quarterdecklaw03_Few.f fewB
  by_cases h : m.length ≤ 200
  · simp only [if_neg (show ¬ (m.length : Int) > 200 by omega)]
    by_cases h2 : l.length ≤ 20
    · rw [show decide ((l.length : Int) > 20) = false from decide_eq_false (by omega), decide_eq_true h, decide_eq_true h2]
      refine Ev.step (f := fun k => quarterdecklaw03_Few.l0 k l ((0 : Nat) : Int)) (fun k => ?_) ?_
      · simp [quarterdecklaw03_Few.j0]
      · have := few_l0 l h2 l.length 0 (by omega)
        simpa using this
    · rw [show decide ((l.length : Int) > 20) = true from decide_eq_true (by omega), decide_eq_false h2]
      simpa using ht
  · simp only [if_pos (show (m.length : Int) > 200 by omega)]
    rw [decide_eq_false h]
    simpa using ht

theorem same_l0 (m : List Int) (hm : m.length ≤ 1000000) (d : Nat) : ∀ i : Nat, i + d = m.length → Ev (fun k => quarterdeckref01_Same.l0 k m m i) true := by
  induction d with
  | zero =>
    intro i hi
    refine Ev.step (f := fun _ => some true) (fun k => ?_) (Ev.now _)
    simp only [quarterdeckref01_Same.l0]
    rw [if_neg (by omega)]
  | succ d ih =>
    intro i hi
    refine Ev.step (f := fun k => quarterdeckref01_Same.l0 k m m ((i + 1 : Nat) : Int)) (fun k => ?_) (ih (i + 1) (by omega))
    simp only [quarterdeckref01_Same.l0]
    rw [if_pos (by omega), if_pos (by omega), if_pos (by omega), if_pos trivial, w64 (x := (i : Int) + 1) (by omega) (by omega)]
    rfl
theorem same_ev (m : List Int) (hm : m.length ≤ 1000000) : Ev (fun k => quarterdeckref01_Same.f k m m) true := by
  unfold quarterdeckref01_Same.f
  simp only [if_true]
  exact same_l0 m hm m.length 0 (by omega)

theorem refload_ev (m : List Int) (l : List S) (hl : l.length ≤ 1000) (a : Int) :
    Ev (fun k => quarterdeckref03_Load.f k m l a) (if refN m.length l a false = 0 then rd m a else 0, refN m.length l a false) := by
  unfold quarterdeckref03_Load.f
  refine Ev.bind (touch_ev m l hl a false) ?_
  by_cases h : refN m.length l a false = 0
  · have ha : 0 ≤ a ∧ a < m.length := by
      unfold refN at h
      by_cases h1 : a < 0 ∨ (m.length : Int) ≤ a
      · rw [if_pos h1] at h; omega
      · omega
    rw [if_pos h, if_pos h, if_pos ha.1, if_pos ha.2, h]; exact Ev.now _
  · rw [if_neg h, if_neg h]; exact Ev.now _

theorem refstore_ev (m : List Int) (hm : m.length ≤ 1000) (l : List S) (hl : l.length ≤ 1000) (a v : Int) :
    Ev (fun k => quarterdeckref03_Store.f k m l a v) (if refN m.length l a true = 0 then m.set a.toNat v else [], refN m.length l a true) := by
  unfold quarterdeckref03_Store.f
  refine Ev.bind (touch_ev m l hl a true) ?_
  by_cases h : refN m.length l a true = 0
  · have ha : 0 ≤ a ∧ a < m.length := by
      unfold refN at h
      by_cases h1 : a < 0 ∨ (m.length : Int) ≤ a
      · rw [if_pos h1] at h; omega
      · omega
    rw [if_pos h, if_pos h, if_pos (by simp; omega), h]
    simp only [List.nil_append, Option.bind_some]
    rw [if_pos ha.1, if_pos ha.2]; exact Ev.now _
  · rw [if_neg h, if_neg h]; exact Ev.now _

theorem touches_ev (m : List Int) (l : List S) (a v : Int) : Ev (fun k => quarterdecklaw03_MemTouches.f k m l a v) true := by
  unfold quarterdecklaw03_MemTouches.f
  simp only [awake_eq, Option.bind_some, if_true]
  refine Ev.bind (few_ev m l) ?_
  cases hf : fewB m l
  · refine Ev.step (f := fun _ => some true) (fun k => ?_) (Ev.now _)
    simp [quarterdecklaw03_MemTouches.j0]
  · simp only [fewB, Bool.and_eq_true, decide_eq_true_eq, List.all_eq_true] at hf
    obtain ⟨⟨h1, h2⟩, h3⟩ := hf
    have hw := fun md => wrong_ref m.length l a md (by omega) h3
    refine Ev.step (f := fun k => (quarterdeckref03_Load.f k m l a).bind fun bt157 => ((quarterdeckref03_Store.f k m l a v).bind fun bt163 => ((quarterdeckref01_Same.f k (storeV m (l.map rg_) a v) bt163.1).bind fun t167 => (if t167 = true then (if loadV m (l.map rg_) a = bt157.1 then (if wrongN m.length (l.map rg_) a false = bt157.2 then (some (wrongN m.length (l.map rg_) a true == bt163.2)) else (some false)) else (some false)) else (some false))))) (fun k => ?_) ?_
    · simp only [quarterdecklaw03_MemTouches.j0, mem_Load.f, mem_Store.f]
      rw [if_neg (by simp), if_pos (by omega)]
      rfl
    · refine Ev.bind (refload_ev m l (by omega) a) ?_
      refine Ev.bind (refstore_ev m (by omega) l (by omega) a v) ?_
      have es : storeV m (l.map rg_) a v = if refN m.length l a true = 0 then m.set a.toNat v else [] := by unfold storeV; rw [hw true]
      have el : loadV m (l.map rg_) a = if refN m.length l a false = 0 then rd m a else 0 := by unfold loadV; rw [hw false]
      rw [← es, ← el, hw true, hw false]
      refine Ev.bind (same_ev _ ?_) ?_
      · unfold storeV
        split
        · rw [List.length_set]; omega
        · simp
      · simp only [if_true]
        rw [show (refN m.length l a true == refN m.length l a true) = true from beq_self_eq_true _]
        exact Ev.now _

/-! ### the laws MemMay and MemTwice -/
def okB (w : Int) (x : S) : Bool := decide (0 ≤ x.f0) && decide (x.f0 ≤ w) && decide (1 ≤ x.f1) && decide (x.f1 ≤ w) && decide (x.f0 + x.f1 ≤ w)

theorem reg_ok (w : Int) (h1 : 1 ≤ w) (h2 : w ≤ 64) (x : S) : regB w (rg_ x) = okB w x := by
  unfold regB okB rg_
  simp only
  by_cases a : x.f0 < 0
  · simp [a]; omega
  by_cases b : x.f1 < 1
  · simp [b]; omega
  by_cases c : w < x.f1
  · simp [c]; omega
  · rw [w64 (x := w - x.f1) (by omega) (by omega)]
    by_cases d : w - x.f1 < x.f0
    · simp [d, a, b, c]; omega
    · simp [d, a, b, c]; omega

theorem okB_iff (w : Int) (x : S) : okB w x = true ↔ 0 ≤ x.f0 ∧ 1 ≤ x.f1 ∧ x.f0 + x.f1 ≤ w := by
  unfold okB
  simp only [Bool.and_eq_true, decide_eq_true_eq]
  omega

theorem mayTo_iff (w : Int) (xs : List Rg) : mayTo w xs xs.length = true ↔ (∀ x ∈ xs, regB w x = true) ∧ xs.Pairwise (fun s r => meetsB r s = false) := by
  unfold mayTo
  rw [List.all_eq_true, List.pairwise_iff_getElem]
  constructor
  · intro h
    refine ⟨fun x hx => ?_, fun i j hi hj hij => ?_⟩
    · obtain ⟨k, hk, rfl⟩ := List.getElem_of_mem hx
      have := h k (List.mem_range.mpr hk)
      unfold mayAt at this
      rw [List.getD_eq_getElem?_getD, List.getElem?_eq_getElem hk, Option.getD_some, Bool.and_eq_true] at this
      exact this.1
    · have := h j (List.mem_range.mpr hj)
      unfold mayAt at this
      rw [List.getD_eq_getElem?_getD, List.getElem?_eq_getElem hj, Option.getD_some, Bool.and_eq_true] at this
      have h2 := this.2
      rw [Bool.not_eq_true', List.any_eq_false] at h2
      have h3 := h2 xs[i] (List.mem_take_iff_getElem.mpr ⟨i, by omega, rfl⟩)
      simpa using h3
  · rintro ⟨h1, h2⟩ k hk
    have hk' := List.mem_range.mp hk
    unfold mayAt
    rw [List.getD_eq_getElem?_getD, List.getElem?_eq_getElem hk', Option.getD_some, Bool.and_eq_true]
    refine ⟨h1 _ (List.getElem_mem _), ?_⟩
    rw [Bool.not_eq_true', List.any_eq_false]
    intro x hx
    obtain ⟨i, hi, rfl⟩ := List.mem_take_iff_getElem.mp hx
    have := h2 i k (by omega) hk' (by omega)
    simpa using this

theorem mayV_iff (w : Int) (xs : List Rg) : mayV w xs = true ↔ 1 ≤ w ∧ w ≤ 64 ∧ xs.length ≤ 4 ∧ (∀ x ∈ xs, regB w x = true) ∧ xs.Pairwise (fun s r => meetsB r s = false) := by
  unfold mayV
  simp only [Bool.and_eq_true, decide_eq_true_eq, mayTo_iff, and_assoc]

theorem meets_iff (w : Int) (h2 : w ≤ 64) (x y : S) (hx : okB w x = true) (hy : okB w y = true) : meetsB (rg_ y) (rg_ x) = true ↔ ∃ a : Nat, (a : Int) < w ∧ inB x a = true ∧ inB y a = true := by
  obtain ⟨x0, x1, x2⟩ := (okB_iff w x).mp hx
  obtain ⟨y0, y1, y2⟩ := (okB_iff w y).mp hy
  unfold meetsB rg_ inB
  simp only
  rw [w64 (by omega) (by omega), w64 (by omega) (by omega)]
  simp only [Bool.and_eq_true, decide_eq_true_eq]
  constructor
  · rintro ⟨h3, h4⟩
    by_cases h : x.f0 ≤ y.f0
    · exact ⟨y.f0.toNat, by omega, by omega, by omega⟩
    · exact ⟨x.f0.toNat, by omega, by omega, by omega⟩
  · rintro ⟨a, h3, h4, h5⟩
    omega

theorem one_iff (w : Int) (l : List S) : (∀ a : Nat, (a : Int) < w → l.countP (cntB a false) ≤ 1) ↔ l.Pairwise (fun x y => ¬ ∃ a : Nat, (a : Int) < w ∧ inB x a = true ∧ inB y a = true) := by
  have hc : ∀ (a : Nat) (x : S), cntB a false x = inB x a := fun a x => by unfold cntB; simp
  induction l with
  | nil => simp
  | cons x l ih =>
    rw [List.pairwise_cons]
    constructor
    · intro h
      refine ⟨fun y hy => ?_, ih.mp fun a ha => ?_⟩
      · rintro ⟨a, ha, h1, h2⟩
        have := h a ha
        rw [List.countP_cons, hc, h1] at this
        have h0 : l.countP (cntB a false) = 0 := by simp at this; simpa using this
        rw [List.countP_eq_zero] at h0
        exact h0 y hy (by rw [hc]; exact h2)
      · have := h a ha
        rw [List.countP_cons] at this
        omega
    · rintro ⟨h1, h2'⟩ a ha
      have h2 := ih.mpr h2'
      rw [List.countP_cons, hc]
      cases hx : inB x a
      · have := h2 a ha
        simpa using this
      · have h0 : l.countP (cntB a false) = 0 := by
          rw [List.countP_eq_zero]
          intro y hy hh
          rw [hc] at hh
          exact h1 y hy ⟨a, ha, hx, hh⟩
        rw [h0]
        simp

theorem may_one (w : Int) (h1 : 1 ≤ w) (h2 : w ≤ 64) (l : List S) (hok : ∀ x ∈ l, okB w x = true) :
    mayTo w (l.map rg_) (l.map rg_).length = true ↔ ∀ a : Nat, (a : Int) < w → l.countP (cntB a false) ≤ 1 := by
  rw [mayTo_iff, one_iff, List.pairwise_map]
  constructor
  · rintro ⟨_, h⟩
    refine List.Pairwise.imp_of_mem (fun {x y} hx hy hh => ?_) h
    rw [← meets_iff w h2 x y (hok x hx) (hok y hy), hh]
    simp
  · intro h
    refine ⟨fun x hx => ?_, List.Pairwise.imp_of_mem (fun {x y} hx hy hh => ?_) h⟩
    · obtain ⟨y, hy, rfl⟩ := List.mem_map.mp hx
      rw [reg_ok w h1 h2]; exact hok y hy
    · rw [← meets_iff w h2 x y (hok x hx) (hok y hy)] at hh
      simpa using hh

theorem may_l1_true (l : List S) (hl : l.length ≤ 1000) (w : Int) (hw : w ≤ 64) (d : Nat) : ∀ n : Nat, (n : Int) + d = w → (∀ a : Nat, n ≤ a → (a : Int) < w → l.countP (cntB a false) ≤ 1) →
    Ev (fun k => quarterdeckref03_May.l1 k l w n) true := by
  induction d with
  | zero =>
    intro n hn _
    refine Ev.step (f := fun _ => some true) (fun k => ?_) (Ev.now _)
    simp only [quarterdeckref03_May.l1]
    rw [if_neg (by omega)]
  | succ d ih =>
    intro n hn h
    refine Ev.step (f := fun k => (quarterdeckref03_many.f k l n false).bind fun t118 => (if t118 > 1 then (some false) else (quarterdeckref03_May.l1 k l w ((n + 1 : Nat) : Int)))) (fun k => ?_) ?_
    · simp only [quarterdeckref03_May.l1]
      rw [if_pos (by omega), w64 (x := (n : Int) + 1) (by omega) (by omega)]
      rfl
    · refine Ev.bind (many_ev l hl n false) ?_
      have := h n (by omega) (by omega)
      simp only [if_neg (show ¬ ((l.countP (cntB n false) : Nat) : Int) > 1 by omega)]
      exact ih (n + 1) (by omega) (fun a ha hb => h a (by omega) hb)
theorem may_l1_false (l : List S) (hl : l.length ≤ 1000) (w : Int) (hw : w ≤ 64) (d : Nat) : ∀ n : Nat, (n : Int) + d = w → (∃ a : Nat, n ≤ a ∧ (a : Int) < w ∧ 1 < l.countP (cntB a false)) →
    Ev (fun k => quarterdeckref03_May.l1 k l w n) false := by
  induction d with
  | zero =>
    rintro n hn ⟨a, h1, h2, _⟩
    omega
  | succ d ih =>
    rintro n hn ⟨a, h1, h2, h3⟩
    refine Ev.step (f := fun k => (quarterdeckref03_many.f k l n false).bind fun t118 => (if t118 > 1 then (some false) else (quarterdeckref03_May.l1 k l w ((n + 1 : Nat) : Int)))) (fun k => ?_) ?_
    · simp only [quarterdeckref03_May.l1]
      rw [if_pos (by omega), w64 (x := (n : Int) + 1) (by omega) (by omega)]
      rfl
    · refine Ev.bind (many_ev l hl n false) ?_
      by_cases hc : ((l.countP (cntB n false) : Nat) : Int) > 1
      · simp only [if_pos hc]
        exact Ev.now _
      · simp only [if_neg hc]
        have hne : a ≠ n := by rintro rfl; omega
        exact ih (n + 1) (by omega) ⟨a, by omega, h2, h3⟩

theorem may_l0 (l : List S) (hl : l.length ≤ 4) (w : Int) (hw1 : 1 ≤ w) (hw : w ≤ 64) (r : Bool) (d : Nat) : ∀ i : Nat, i + d = l.length → ((∃ x ∈ l.drop i, okB w x = false) → r = false) → ((∀ x ∈ l.drop i, okB w x = true) → Ev (fun k => quarterdeckref03_May.l1 k l w 0) r) →
    Ev (fun k => quarterdeckref03_May.l0 k l w i) r := by
  induction d with
  | zero =>
    intro i hi _ h
    refine Ev.step (f := fun k => quarterdeckref03_May.l1 k l w 0) (fun k => ?_) (h ?_)
    · simp only [quarterdeckref03_May.l0]
      rw [if_neg (by omega)]
    · rw [List.drop_eq_nil_of_le (by omega)]
      intro x hx
      simp at hx
  | succ d ih =>
    intro i hi hbad hgood
    have hlt : i < l.length := by omega
    rw [drop_getD l i hlt] at hbad hgood
    generalize hx : l.getD i z26 = x at hbad hgood
    cases hb : okB w x
    · have hr := hbad ⟨x, by simp, hb⟩
      subst hr
      refine Ev.step (f := fun _ => some false) (fun k => ?_) (Ev.now _)
      simp only [quarterdeckref03_May.l0]
      rw [if_pos (by omega), if_pos (by omega), rd_nat, hx]
      by_cases h1 : x.f0 < 0
      · rw [if_pos h1]
      by_cases h2 : x.f0 > w
      · rw [if_neg h1, if_pos h2]
      by_cases h3 : x.f1 < 1
      · rw [if_neg h1, if_neg h2, if_pos h3]
      by_cases h4 : x.f1 > w
      · rw [if_neg h1, if_neg h2, if_neg h3, if_pos h4]
      · rw [if_neg h1, if_neg h2, if_neg h3, if_neg h4, w64 (by omega) (by omega), if_pos]
        have := okB_iff w x
        rw [hb] at this
        simp only [Bool.false_eq_true, false_iff] at this
        omega
    · obtain ⟨h1, h2, h3⟩ := (okB_iff w x).mp hb
      refine Ev.step (f := fun k => quarterdeckref03_May.l0 k l w ((i + 1 : Nat) : Int)) (fun k => ?_) (ih (i + 1) (by omega) ?_ ?_)
      · simp only [quarterdeckref03_May.l0]
        rw [if_pos (by omega), if_pos (by omega), rd_nat, hx, if_neg (by omega), if_neg (by omega), if_neg (by omega), if_neg (by omega), w64 (x := x.f0 + x.f1) (by omega) (by omega), if_neg (by omega), w64 (x := (i : Int) + 1) (by omega) (by omega)]
        rfl
      · rintro ⟨y, hy, hy2⟩
        exact hbad ⟨y, by simp [hy], hy2⟩
      · intro h
        refine hgood (fun y hy => ?_)
        rcases List.mem_cons.mp hy with rfl | hy
        · exact hb
        · exact h y hy

theorem refmay_ev (l : List S) (w : Int) : Ev (fun k => quarterdeckref03_May.f k l w) (mayV w (l.map rg_)) := by
  have hj : ∀ b : Bool, b = !(decide (1 ≤ w) && decide (w ≤ 64) && decide (l.length ≤ 4)) → Ev (fun k => quarterdeckref03_May.j0 k l w b) (mayV w (l.map rg_)) := by
    rintro b rfl
    by_cases h : 1 ≤ w ∧ w ≤ 64 ∧ l.length ≤ 4
    · obtain ⟨h1, h2, h3⟩ := h
      rw [decide_eq_true h1, decide_eq_true h2, decide_eq_true h3]
      refine Ev.step (f := fun k => quarterdeckref03_May.l0 k l w ((0 : Nat) : Int)) (fun k => ?_) ?_
      · simp [quarterdeckref03_May.j0]
      · have hm : mayV w (l.map rg_) = mayTo w (l.map rg_) (l.map rg_).length := by unfold mayV; simp [h1, h2, h3]
        rw [hm]
        refine may_l0 l h3 w h1 h2 _ l.length 0 (by omega) ?_ ?_
        · rw [List.drop_zero]
          rintro ⟨x, hx, hb⟩
          rw [Bool.eq_false_iff]
          intro ht
          have := ((mayTo_iff w _).mp ht).1 (rg_ x) (List.mem_map.mpr ⟨x, hx, rfl⟩)
          rw [reg_ok w h1 h2, hb] at this
          exact absurd this (by simp)
        · rw [List.drop_zero]
          intro hok
          have hi := may_one w h1 h2 l hok
          cases hmt : mayTo w (l.map rg_) (l.map rg_).length
          · rw [hmt] at hi
            simp only [Bool.false_eq_true, false_iff, Classical.not_forall] at hi
            obtain ⟨a, ha, hc⟩ := hi
            exact may_l1_false l (by omega) w h2 w.toNat 0 (by omega) ⟨a, by omega, ha, by omega⟩
          · exact may_l1_true l (by omega) w h2 w.toNat 0 (by omega) (fun a _ ha => hi.mp hmt a ha)
    · have hm : mayV w (l.map rg_) = false := by
        rw [Bool.eq_false_iff]
        intro ht
        have := (mayV_iff w _).mp ht
        rw [List.length_map] at this
        exact h ⟨this.1, this.2.1, this.2.2.1⟩
      rw [hm]
      have hb : (decide (1 ≤ w) && decide (w ≤ 64) && decide (l.length ≤ 4)) = false := by
        rw [Bool.eq_false_iff]
        intro ht
        simp only [Bool.and_eq_true, decide_eq_true_eq] at ht
        exact h ⟨ht.1.1, ht.1.2, ht.2⟩
      rw [hb]
      refine Ev.step (f := fun _ => some false) (fun k => ?_) (Ev.now _)
      simp [quarterdeckref03_May.j0]
  unfold quarterdeckref03_May.f
  by_cases h1 : w < 1
  · simp only [if_pos h1]
    exact hj true (by simp [show ¬ 1 ≤ w by omega])
  · by_cases h2 : w > 64
    · simp only [if_neg h1, if_pos h2]
      exact hj true (by simp [show ¬ w ≤ 64 by omega])
    · simp only [if_neg h1, if_neg h2]
      refine hj _ ?_
      rw [decide_eq_true (show 1 ≤ w by omega), decide_eq_true (show w ≤ 64 by omega)]
      by_cases h3 : l.length ≤ 4
      · rw [decide_eq_true h3]; simp; omega
      · rw [decide_eq_false h3]; simp; omega

theorem may_ev (l : List S) (w : Int) : Ev (fun k => quarterdecklaw03_MemMay.f k l w) true := by
  unfold quarterdecklaw03_MemMay.f
  simp only [awake_eq, Option.bind_some, if_true]
  by_cases h : (l.length : Int) > 20
  · rw [decide_eq_true h]
    refine Ev.step (f := fun _ => some true) (fun k => ?_) (Ev.now _)
    simp [quarterdecklaw03_MemMay.j0]
  · rw [decide_eq_false h]
    refine Ev.step (f := fun k => (quarterdeckref03_May.f k l w).bind fun t => some (mayV w (l.map rg_) == t)) (fun k => ?_) ?_
    · simp [quarterdecklaw03_MemMay.j0, mem_May.f]
    · refine Ev.bind (refmay_ev l w) ?_
      rw [beq_self_eq_true]
      exact Ev.now _

theorem twice_no (l : List S) (w : Int) (hm : mayV w (l.map rg_) = true) (x : S) (hx : x ∈ l) : mayV w ((l ++ [x]).map rg_) = false := by
  rw [Bool.eq_false_iff]
  intro h
  obtain ⟨h1, h2, _, hr, _⟩ := (mayV_iff w _).mp hm
  obtain ⟨_, _, _, _, hp⟩ := (mayV_iff w _).mp h
  rw [List.map_append, List.pairwise_append] at hp
  have hxm : rg_ x ∈ l.map rg_ := List.mem_map.mpr ⟨x, hx, rfl⟩
  have := hp.2.2 (rg_ x) hxm (rg_ x) (by simp)
  have hk := hr (rg_ x) hxm
  rw [reg_ok w h1 h2] at hk
  obtain ⟨k0, k1, k2⟩ := (okB_iff w x).mp hk
  have hmm := (meets_iff w h2 x x hk hk).mpr ⟨x.f0.toNat, by omega, by unfold inB; simp; omega, by unfold inB; simp; omega⟩
  rw [this] at hmm
  exact absurd hmm (by simp)
theorem may_sub (l l' : List S) (w : Int) (hm : mayV w (l.map rg_) = true) (hs : List.Sublist l' l) : mayV w (l'.map rg_) = true := by
  rw [mayV_iff] at hm ⊢
  obtain ⟨h1, h2, h3, h4, h5⟩ := hm
  have hs' : List.Sublist (l'.map rg_) (l.map rg_) := hs.map rg_
  exact ⟨h1, h2, Nat.le_trans hs'.length_le h3, fun x hx => h4 x (hs'.subset hx), h5.sublist hs'⟩

theorem twice_ev (l : List S) (w : Int) : Ev (fun k => quarterdecklaw03_MemTwice.f k l w) true := by
  unfold quarterdecklaw03_MemTwice.f
  simp only [awake_eq, Option.bind_some, if_true]
  have ht : Ev (fun k => quarterdecklaw03_MemTwice.j0 k l w true true) true := by
    refine Ev.step (f := fun _ => some true) (fun k => ?_) (Ev.now _)
    simp [quarterdecklaw03_MemTwice.j0]
  by_cases h : (l.length : Int) > 20
  · simp only [if_pos h]; exact ht
  · simp only [if_neg h, mem_May.f, Option.bind_some]
    cases hm : mayV w (l.map rg_)
    · simpa using ht
    · simp only [if_true]
      by_cases h0 : l.length = 0
      · rw [show ((l.length : Int) == 0) = true by simp [h0]]; exact ht
      · rw [show ((l.length : Int) == 0) = false by simp; intro hh; exact h0 (by simp [hh])]
        obtain ⟨x, t, rfl⟩ : ∃ x t, l = x :: t := by
          cases l with
          | nil => simp at h0
          | cons x t => exact ⟨x, t, rfl⟩
        have hx : rd_T26 (x :: t) 0 = x := rfl
        have e1 : mayV w (((x :: t) ++ [x]).map rg_) = false := twice_no _ w hm x (by simp)
        have e2 : mayV w (((x :: t).drop 1).map rg_) = true := may_sub _ _ w hm (List.drop_sublist _ _)
        have e3 : mayV w (([] : List S).map rg_) = true := may_sub _ _ w hm (by simp)
        refine Ev.step (f := fun _ => some true) (fun k => ?_) (Ev.now _)
        simp only [quarterdecklaw03_MemTwice.j0, mem_May.f, hx, Option.bind_some, List.nil_append]
        simp only [List.length_append, List.length_nil, List.length_cons, List.length_singleton] at h ⊢
        rw [if_neg (by simp), if_pos (by omega), if_pos (by omega), if_pos (by omega), show (⟨x.f0, x.f1, x.f2⟩ : S) = x from rfl, e1, if_neg (by simp), if_pos (by omega), e2, if_pos (rfl : true = true), e3]

/-! ### the laws MemKeeps and MemNone -/
theorem any_mono (xs : List Rg) (a : Int) (h : xs.any (mayB a true) = true) : xs.any (mayB a false) = true := by
  rw [List.any_eq_true] at h ⊢
  obtain ⟨x, hx, h⟩ := h
  refine ⟨x, hx, ?_⟩
  unfold mayB at h ⊢
  rw [Bool.and_eq_true] at h
  rw [h.1]
  simp
theorem wrong_zero (n : Nat) (xs : List Rg) (a : Int) (md : Bool) : wrongN n xs a md = 0 ↔ (0 ≤ a ∧ a < n) ∧ xs.any (mayB a md) = true := by
  unfold wrongN
  by_cases h : a < 0 ∨ (n : Int) ≤ a
  · rw [if_pos h]
    constructor
    · intro h; omega
    · rintro ⟨h1, _⟩; omega
  · rw [if_neg h]
    cases xs.any (mayB a md)
    · simp
    · simp; omega

theorem keeps_l0 (m : List Int) (hm : m.length ≤ 200) (a v : Int) (ha : 0 ≤ a) (d : Nat) : ∀ i : Nat, i + d = m.length → Ev (fun k => quarterdecklaw03_MemKeeps.l0 k m a (m.set a.toNat v) i) true := by
  induction d with
  | zero =>
    intro i hi
    refine Ev.step (f := fun _ => some true) (fun k => ?_) (Ev.now _)
    simp only [quarterdecklaw03_MemKeeps.l0]
    rw [if_neg (by omega)]
  | succ d ih =>
    intro i hi
    refine Ev.step (f := fun k => quarterdecklaw03_MemKeeps.l0 k m a (m.set a.toNat v) ((i + 1 : Nat) : Int)) (fun k => ?_) (ih (i + 1) (by omega))
    simp only [quarterdecklaw03_MemKeeps.l0]
    rw [if_pos (by omega), w64 (x := (i : Int) + 1) (by omega) (by omega)]
    by_cases he : (i : Int) = a
    · rw [if_pos he]; rfl
    · have hr : rd (m.set a.toNat v) i = rd m i := by
        unfold rd
        rw [Int.toNat_natCast, List.getD_eq_getElem?_getD, List.getD_eq_getElem?_getD, List.getElem?_set_ne (by omega)]
      rw [if_neg he, if_pos (by omega), if_pos (by rw [List.length_set]; omega), if_pos hr]; rfl

theorem keeps_ev (m : List Int) (l : List S) (a v : Int) : Ev (fun k => quarterdecklaw03_MemKeeps.f k m l a v) true := by
  unfold quarterdecklaw03_MemKeeps.f
  simp only [awake_eq, Option.bind_some, if_true]
  have ht : Ev (fun k => quarterdecklaw03_MemKeeps.j0 k m l a v true true) true := by
    refine Ev.step (f := fun _ => some true) (fun k => ?_) (Ev.now _)
    simp [quarterdecklaw03_MemKeeps.j0]
  by_cases h : (m.length : Int) > 200
  · simp only [if_pos h]; exact ht
  · simp only [if_neg h]
    by_cases h2 : (l.length : Int) > 20
    · rw [decide_eq_true h2]; exact ht
    · rw [decide_eq_false h2]
      by_cases hz : wrongN m.length (l.map rg_) a true = 0
      · obtain ⟨⟨ha, hb⟩, hany⟩ := (wrong_zero _ _ _ _).mp hz
        have es : storeV m (l.map rg_) a v = m.set a.toNat v := by unfold storeV; rw [if_pos hz]
        have ew : wrongN m.length (l.map rg_) a false = 0 := (wrong_zero _ _ _ _).mpr ⟨⟨ha, hb⟩, any_mono _ _ hany⟩
        have ew2 : wrongN (m.set a.toNat v).length (l.map rg_) a false = 0 := by rw [List.length_set]; exact ew
        have ev : loadV (m.set a.toNat v) (l.map rg_) a = v := by
          unfold loadV
          rw [if_pos ew2]
          unfold rd
          rw [List.getD_eq_getElem?_getD, List.getElem?_set_self (by omega), Option.getD_some]
        refine Ev.step (f := fun k => quarterdecklaw03_MemKeeps.j1 k m a (m.set a.toNat v) false) (fun k => ?_) ?_
        · simp only [quarterdecklaw03_MemKeeps.j0, mem_Store.f, mem_Load.f]
          rw [if_neg (by simp), if_pos (by omega)]
          simp only [Option.bind_some]
          rw [es, if_pos hz, if_pos ew2, if_pos ew, if_pos ev, List.length_set]
          simp
        · refine Ev.step (f := fun k => quarterdecklaw03_MemKeeps.l0 k m a (m.set a.toNat v) ((0 : Nat) : Int)) (fun k => ?_) (keeps_l0 m (by omega) a v ha m.length 0 (by omega))
          simp [quarterdecklaw03_MemKeeps.j1]
      · refine Ev.step (f := fun _ => some true) (fun k => ?_) (Ev.now _)
        simp only [quarterdecklaw03_MemKeeps.j0, mem_Store.f]
        rw [if_neg (by simp), if_pos (by omega)]
        simp only [Option.bind_some]
        rw [if_neg hz]
        unfold storeV
        rw [if_neg hz]
        rfl

theorem none_ev (m : List Int) (l : List S) (f g : Int) (b : Bool) (a : Int) : Ev (fun k => quarterdecklaw03_MemNone.f k m l f g b a) true := by
  unfold quarterdecklaw03_MemNone.f
  simp only [awake_eq, Option.bind_some, if_true]
  have ht : Ev (fun k => quarterdecklaw03_MemNone.j0 k m l a true true f g b) true := by
    refine Ev.step (f := fun _ => some true) (fun k => ?_) (Ev.now _)
    simp [quarterdecklaw03_MemNone.j0]
  by_cases h : (m.length : Int) > 200
  · simp only [if_pos h]; exact ht
  · simp only [if_neg h]
    by_cases h2 : (l.length : Int) > 20
    · rw [decide_eq_true h2]; exact ht
    · rw [decide_eq_false h2]
      have e0 : ∀ md, wrongN m.length (([] : List S).map rg_) a md ≠ 0 := by
        intro md hh
        have := ((wrong_zero _ _ _ _).mp hh).2
        simp at this
      have e1 : wrongN m.length (([] : List S).map rg_) a true = wrongN m.length (([] : List S).map rg_) a false := by unfold wrongN; simp
      have e2 : wrongN m.length (l.map rg_) a false = 0 → wrongN m.length ((l ++ [(⟨f, g, b⟩ : S)]).map rg_) a false = 0 := by
        intro hh
        obtain ⟨h1, h3⟩ := (wrong_zero _ _ _ _).mp hh
        refine (wrong_zero _ _ _ _).mpr ⟨h1, ?_⟩
        rw [List.map_append, List.any_append, h3]
        rfl
      refine Ev.step (f := fun _ => some true) (fun k => ?_) (Ev.now _)
      simp only [quarterdecklaw03_MemNone.j0, mem_Store.f, mem_Load.f, Option.bind_some, List.nil_append]
      rw [if_neg (by simp), if_pos (by omega)]
      simp only [Option.bind_some, List.length_nil, List.length_cons]
      rw [if_pos (by omega), if_pos (by omega), if_neg (e0 false), if_pos e1]
      by_cases hz : wrongN m.length (l.map rg_) a false = 0
      · rw [if_pos hz, e2 hz]; rfl
      · rw [if_neg hz]
end Go.Proofs.Ytkdcjkgofbjnlaa.PureM

/-
  The law MemRegion: just the words of a region can be read, and written, if it may be. The plain part; no program in sight.
  No conditions beyond the statement's own.
-/
import Derived.Test.YtkdcjkgofbjnlaaPureM
import Derived.Test.YtkdcjkgofbjnlaaPr7
namespace Go.Proofs.Ytkdcjkgofbjnlaa.PureM2
open Go.RowKit Go.Proofs.Ytkdcjkgofbjnlaa.Pr Go.Proofs.YtkdcjkgofbjnlaaW.PrintWords Go.Proofs.YtkdcjkgofbjnlaaW.PrintLast Go.Proofs.YtkdcjkgofbjnlaaW.PrintMore Go.Proofs.Ytkdcjkgofbjnlaa.Mem Go.Proofs.Ytkdcjkgofbjnlaa.PureM

theorem one_wrong (n : Nat) (f g : Int) (b : Bool) (h0 : 0 ≤ f) (_h2 : f + g ≤ n) (hn : n ≤ 64) (a : Int) (ha : 0 ≤ a) (hb : a < n) (md : Bool) :
    wrongN n (([⟨f, g, b⟩] : List S).map rg_) a md = if f ≤ a ∧ a < f + g ∧ (b = true ∨ md = false) then 0 else 6 := by
  unfold wrongN
  rw [if_neg (by omega)]
  simp only [List.map_cons, List.map_nil, List.any_cons, List.any_nil, Bool.or_false]
  unfold mayB hasB rg_
  simp only
  by_cases h : f ≤ a
  · rw [w64 (by omega) (by omega)]
    by_cases h3 : a < f + g
    · have : a - f < g := by omega
      cases b <;> cases md <;> simp [h0, h, h3, this]
    · have : ¬ a - f < g := by omega
      simp [h3, this]
  · simp [h]

theorem region_l0 (m : List Int) (f g : Int) (b : Bool) (h0 : 0 ≤ f) (h1 : 1 ≤ g) (h2 : f + g ≤ m.length) (hm : m.length ≤ 64) (d : Nat) : ∀ (n : Nat) (c : Int), n + d = m.length → c = (if (n : Int) ≤ f then 0 else if (n : Int) ≤ f + g then n - f else g) →
    Ev (fun k => quarterdecklaw03_MemRegion.l0 k m [⟨f, g, b⟩] c n f g b) true := by
  induction d with
  | zero =>
    intro n c hn hc
    have hcg : c = g := by
      rw [hc, if_neg (by omega)]
      by_cases h : (n : Int) ≤ f + g
      · rw [if_pos h]; omega
      · rw [if_neg h]
    refine Ev.step (f := fun _ => some true) (fun k => ?_) (Ev.now _)
    simp only [quarterdecklaw03_MemRegion.l0]
    rw [if_neg (by omega), hcg, beq_self_eq_true]
  | succ d ih =>
    intro n c hn hc
    have hw := one_wrong m.length f g b h0 h2 hm n (by omega) (by omega)
    by_cases hin : f ≤ n ∧ (n : Int) < f + g
    · have e1 : wrongN m.length (([⟨f, g, b⟩] : List S).map rg_) n false = 0 := by rw [hw, if_pos ⟨hin.1, hin.2, .inr rfl⟩]
      have e2 : (wrongN m.length (([⟨f, g, b⟩] : List S).map rg_) n true == 0) = b := by
        rw [hw]
        cases b <;> simp [hin.1, hin.2]
      refine Ev.step (f := fun k => quarterdecklaw03_MemRegion.j2 k m [⟨f, g, b⟩] c n 0 false f g b) (fun k => ?_) ?_
      · simp only [quarterdecklaw03_MemRegion.l0, mem_Load.f, mem_Store.f, Option.bind_some]
        rw [if_pos (by omega), if_pos (by omega)]
        simp only [Option.bind_some]
        rw [if_pos hin.1, e1, e2, w64 (x := f + g) (by omega) (by omega), decide_eq_true hin.2]
        simp
      · refine Ev.step (f := fun k => quarterdecklaw03_MemRegion.l0 k m [⟨f, g, b⟩] (c + 1) ((n + 1 : Nat) : Int) f g b) (fun k => ?_) (ih (n + 1) (c + 1) (by omega) ?_)
        · have hcb : 0 ≤ c ∧ c ≤ 64 := by
            rw [hc]
            split
            · omega
            · split <;> omega
          simp only [quarterdecklaw03_MemRegion.j2]
          rw [if_neg (by simp), if_pos trivial, w64 (x := c + 1) (by omega) (by omega), w64 (x := (n : Int) + 1) (by omega) (by omega)]
          rfl
        · rw [hc, if_neg (show ¬ ((n + 1 : Nat) : Int) ≤ f by omega), if_pos (show ((n + 1 : Nat) : Int) ≤ f + g by omega)]
          by_cases h : (n : Int) ≤ f
          · rw [if_pos h]; omega
          · rw [if_neg h, if_pos (by omega)]; omega
    · have e1 : wrongN m.length (([⟨f, g, b⟩] : List S).map rg_) n false = 6 := by rw [hw, if_neg (by omega)]
      have e2 : wrongN m.length (([⟨f, g, b⟩] : List S).map rg_) n true = 6 := by rw [hw, if_neg (by omega)]
      refine Ev.step (f := fun k => quarterdecklaw03_MemRegion.j2 k m [⟨f, g, b⟩] c n 6 false f g b) (fun k => ?_) ?_
      · simp only [quarterdecklaw03_MemRegion.l0, mem_Load.f, mem_Store.f, Option.bind_some]
        rw [if_pos (by omega), if_pos (by omega)]
        simp only [Option.bind_some]
        rw [e1, e2, w64 (x := f + g) (by omega) (by omega)]
        by_cases h : f ≤ n
        · rw [if_pos h, show decide ((n : Int) < f + g) = false from decide_eq_false (by omega)]
          simp
        · rw [if_neg h]
          simp
      · refine Ev.step (f := fun k => quarterdecklaw03_MemRegion.l0 k m [⟨f, g, b⟩] c ((n + 1 : Nat) : Int) f g b) (fun k => ?_) (ih (n + 1) c (by omega) ?_)
        · simp only [quarterdecklaw03_MemRegion.j2]
          rw [if_neg (by simp), if_neg (by decide), w64 (x := (n : Int) + 1) (by omega) (by omega)]
          rfl
        · rw [hc]
          by_cases h : (n : Int) ≤ f
          · rw [if_pos h]
            have : (n : Int) < f := by omega
            rw [if_pos (show ((n + 1 : Nat) : Int) ≤ f by omega)]
          · rw [if_neg h, if_neg (show ¬ ((n + 1 : Nat) : Int) ≤ f by omega), if_neg (show ¬ ((n + 1 : Nat) : Int) ≤ f + g by omega)]
            by_cases h' : (n : Int) ≤ f + g
            · rw [if_pos h']; omega
            · rw [if_neg h']

theorem region_ev (m : List Int) (f g : Int) (b : Bool) : Ev (fun k => quarterdecklaw03_MemRegion.f k m f g b) true := by
  unfold quarterdecklaw03_MemRegion.f
  simp only [awake_eq, Option.bind_some, if_true]
  have ht : Ev (fun k => quarterdecklaw03_MemRegion.j0 k m true [⟨f, g, b⟩] true f g b) true := by
    refine Ev.step (f := fun _ => some true) (fun k => ?_) (Ev.now _)
    simp [quarterdecklaw03_MemRegion.j0]
  by_cases h : (m.length : Int) > 64
  · simp only [if_pos h]; exact ht
  · simp only [if_neg h, mem_May.f, Option.bind_some]
    cases hm : mayV (m.length : Int) (([⟨f, g, b⟩] : List S).map rg_)
    · exact ht
    · obtain ⟨h1, h2, _, hr, _⟩ := (mayV_iff _ _).mp hm
      have hk := hr (rg_ ⟨f, g, b⟩) (by simp)
      rw [reg_ok _ h1 h2] at hk
      obtain ⟨k0, k1, k2⟩ := (okB_iff _ _).mp hk
      simp only at k0 k1 k2
      refine Ev.step (f := fun k => quarterdecklaw03_MemRegion.l0 k m [⟨f, g, b⟩] 0 ((0 : Nat) : Int) f g b) (fun k => ?_) (region_l0 m f g b k0 k1 k2 (by omega) m.length 0 0 (by omega) ?_)
      · simp [quarterdecklaw03_MemRegion.j0]
      · rw [if_pos (show ((0 : Nat) : Int) ≤ f by omega)]
end Go.Proofs.Ytkdcjkgofbjnlaa.PureM2

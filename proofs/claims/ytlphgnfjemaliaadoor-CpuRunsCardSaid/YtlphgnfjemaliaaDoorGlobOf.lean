/-
  The rows' listed tables: what they give a walk ('Glob'), and a world that meets them (the door's own run).
  No conditions beyond the rows' own.
-/
import Derived.Test.YtlphgnfjemaliaaDoorRows
import Derived.Test.YtlphgnfjemaliaaDoorInstr
import Derived.Lib.LaidTab
import Derived.LaidLaws
import Derived.LaidHandle
import Derived.ChangeVars
import Derived.ProofKit
import Derived.LaidMore
import Derived.Stop.Joined
namespace Go.Proofs.YtlphgnfjemaliaaDoor.GlobOf
open Go.Proofs.YtlphgnfjemaliaaDoor.Instr

/-- AN ARRAY OF ROWS OF INTEGERS THAT READS AS THE TABLE HOLDS ITS NUMBERS, CELL FOR CELL. -/
theorem cells_of_tab2 {H : Type} {enc : TypeId × Value → H} {P : Program} {w : World} {base : Nat} {sp : Nat → Bool} {held : Bool} {fuel : Nat} {t e u : TypeId} {n m : Nat} {k : IntKind} {cs : List Value} {rows : List (List Int)} {p : List MemPlace}
    (ht : P.underlying t = some (.array n e)) (he : P.underlying e = some (.array m u)) (hu : P.underlying u = some (.int k)) (hcu : P.cellsOf u = 1) (hce : P.cellsOf e = m) (hct : P.cellsOf t = n * m)
    (h : DataW.trod enc P w base sp held fuel t cs = some (.agg (rows.map (Lib.tabData k)), p)) (hr : ∀ r ∈ rows, r.length = m) (i j : Nat) (hi : i < n) (hj : j < m) : cs[i * m + j]? = some (.int k ((rows.getD i []).getD j 0)) := by
  cases fuel with
  | zero => simp [DataW.trod] at h
  | succ fuel =>
    simp only [DataW.trod, ht, hce, hct] at h
    split at h
    · rename_i hl
      obtain ⟨xs, hm, hx⟩ := Option.map_eq_some_iff.1 h
      have hxs : xs.map (·.1) = rows.map (Lib.tabData (H := H) k) := by
        have := congrArg Prod.fst hx
        simpa using this
      obtain ⟨b, hb, hf⟩ := Lib.mapM_at hm i i (by simp [hi])
      have h2 : (xs.map (·.1))[i]? = some b.1 := by simp [hb]
      rw [hxs] at h2
      simp only [List.getElem?_map, Option.map_eq_some_iff] at h2
      obtain ⟨r, hr', hb1⟩ := h2
      obtain ⟨b1, b2⟩ := b
      simp only at hb1
      subst hb1
      have hcs := Lib.cells_of_tab he hu hcu hce hf
      have hrl : r.length = m := hr r (List.mem_of_getElem? hr')
      have h3 : ((cs.drop (i * m)).take m)[j]? = some (.int k (r.getD j 0)) := by
        rw [hcs, List.getElem?_map, List.getElem?_eq_getElem (by omega), List.getD_eq_getElem?_getD, List.getElem?_eq_getElem (by omega)]
        rfl
      rw [List.getElem?_take, if_pos hj, List.getElem?_drop] at h3
      have hg : rows.getD i [] = r := by rw [List.getD_eq_getElem?_getD, hr']; rfl
      rw [h3, hg]
    · cases h

abbrev laid2 : List (String × DataW Unit) := [("quarterdeck/instr.kinds", Rows.laid_quarterdeck_instr_kinds), ("quarterdeck/instr.bounds", Rows.laid_quarterdeck_instr_bounds)]
theorem gK : Tryd.prog.globalNamed "quarterdeck/instr.kinds" = some 0 := by kernel_rfl
theorem gB : Tryd.prog.globalNamed "quarterdeck/instr.bounds" = some 1 := by kernel_rfl
theorem tK : (Tryd.prog.globals[0]?).map (·.type) = some 82 := by kernel_rfl
theorem tB : (Tryd.prog.globals[1]?).map (·.type) = some 89 := by kernel_rfl

/-- The door's own heap meets the condition. -/
theorem door_met (os : Os) (args : Array Value) : laidMetH Tryd.prog laid2 ((World.doorLaid Tryd.prog 400 os).forCall (fun _ _ => 0) ⟨#[], args, []⟩).memory :=
  laidMetH_of_parts3 (fuel := 8) (laidMet_of_run' 8 (by kernel_rfl) (by kernel_rfl)) (by kernel_rfl) (by kernel_rfl)

/-- What the condition gives a walk. -/
theorem glob_of {W : World} (h : laidMetH Tryd.prog laid2 W) : Glob W := by
  rw [MakeChecks.laidMetH_plain _ _ _ (by kernel_rfl)] at h
  obtain ⟨ps, ⟨g0, t0, cs0, f0, p0, q0, hg0, ht0, hv0, hd0, ⟨g1, t1, cs1, f1, p1, q1, hg1, ht1, hv1, hd1, _, _⟩, _⟩, _, _⟩ := h
  obtain rfl := Option.some.inj (gK.symm.trans hg0)
  obtain rfl := Option.some.inj (gB.symm.trans hg1)
  obtain rfl := Option.some.inj (tK.symm.trans ht0)
  obtain rfl := Option.some.inj (tB.symm.trans ht1)
  refine ⟨fun i j hi hj => ?_, fun i j hi hj => ?_⟩
  · have := cells_of_tab2 (rows := kindsT) Tryd.underlying82 Tryd.underlying81 Tryd.underlying3 (by kernel_rfl) (by kernel_rfl) (by kernel_rfl) hd0 (by decide) i j hi hj
    rw [World.var?_cell hg0 hv0 (i * 2 + j)]
    simpa using this
  · have := cells_of_tab2 (rows := boundsT) Tryd.underlying89 Tryd.underlying81 Tryd.underlying3 (by kernel_rfl) (by kernel_rfl) (by kernel_rfl) hd1 (by decide) i j hi hj
    rw [World.var?_cell hg1 hv1 (i * 2 + j)]
    simpa using this
end Go.Proofs.YtlphgnfjemaliaaDoor.GlobOf

/-
  The law function CpuFaults, walked: it answers true. Conditions: the tables hold what the program's text lays; the arguments lie in memory as told.
-/
import Derived.Test.YtlphgnfjemaliaaDoorCpuT
namespace Go.Proofs.YtlphgnfjemaliaaDoor.CpuF
set_option maxRecDepth 100000
set_option linter.unusedVariables false
set_option linter.unusedSimpArgs false
open Go.RowKit Go.Proofs.YtlphgnfjemaliaaDoorW.PrintWords Go.Proofs.YtlphgnfjemaliaaDoor.Mem Go.Proofs.YtlphgnfjemaliaaDoor.CpuA Go.Proofs.YtlphgnfjemaliaaDoor.CpuB Go.Proofs.YtlphgnfjemaliaaDoor.CpuC Go.Proofs.YtlphgnfjemaliaaDoor.CpuS Go.Proofs.YtlphgnfjemaliaaDoor.CpuL Go.Proofs.YtlphgnfjemaliaaDoor.CpuT Go.Proofs.YtlphgnfjemaliaaDoor.PureC Go.Proofs.YtlphgnfjemaliaaDoor.Instr

/-- How many of the first words have changed. -/
def chg (m m' : List Int) : Nat → Nat
  | 0 => 0
  | k + 1 => if m'.getD k 0 = m.getD k 0 then chg m m' k else chg m m' k + 1
theorem chg_le (m m' : List Int) (k : Nat) : chg m m' k ≤ k := by
  induction k with
  | zero => exact Nat.le_refl _
  | succ k ih => unfold chg; split <;> omega
theorem chg_same (m : List Int) (k : Nat) : chg m m k = 0 := by
  induction k with
  | zero => rfl
  | succ k ih => unfold chg; rw [if_pos rfl]; exact ih
theorem chg_eq {m m' : List Int} {k : Nat} (h : rd m' k = rd m k) : chg m m' (k + 1) = chg m m' k := by
  show (if m'.getD k 0 = m.getD k 0 then chg m m' k else chg m m' k + 1) = _
  exact if_pos h
theorem chg_ne {m m' : List Int} {k : Nat} (h : ¬ rd m' k = rd m k) : chg m m' (k + 1) = chg m m' k + 1 := by
  show (if m'.getD k 0 = m.getD k 0 then chg m m' k else chg m m' k + 1) = _
  exact if_neg h
theorem set_far (m : List Int) (p i : Nat) (v : Int) (h : i ≠ p) : (m.set p v).getD i 0 = m.getD i 0 := by
  rw [List.getD_eq_getElem?_getD, List.getD_eq_getElem?_getD, List.getElem?_set_ne (Ne.symm h)]
theorem chg_set (m : List Int) (p : Nat) (v : Int) (k : Nat) : chg m (m.set p v) k ≤ (if p < k then 1 else 0) := by
  induction k with
  | zero => simp [chg]
  | succ k ih =>
    unfold chg
    by_cases hk : k = p
    · subst hk
      rw [if_neg (Nat.lt_irrefl _)] at ih
      rw [if_pos (Nat.lt_succ_self _)]
      split <;> omega
    · rw [if_pos (set_far m p k v hk)]
      have : (p < k) → (p < k + 1) := fun h => by omega
      split at ih <;> split <;> omega

theorem mach_fl (op a b : Nat) (bI : Int) (x : Mach) (m : List Int) (xs : List Rg) : (machOf op a b bI x m xs).fl = x.fl := by
  unfold machOf
  split <;> first | rfl | (split <;> rfl)
theorem mach_ha (op a b : Nat) (bI : Int) (x : Mach) (m : List Int) (xs : List Rg) (h : op ≠ 0) : (machOf op a b bI x m xs).ha = x.ha := by
  unfold machOf
  split <;> first | rfl | (split <;> rfl) | exact absurd rfl h
theorem div_fault (x y : Int) : (Div.divI x y).2 = 0 ∨ (Div.divI x y).2 = 3 := by unfold Div.divI; split <;> simp
theorem stepF_in (code : List (Int × Int × Int)) (cc : Core) (m : List Int) (xs : List Rg) (now : Int) : 0 ≤ stepF code cc m xs now ∧ stepF code cc m xs now < 7 := by
  unfold stepF
  split
  · unfold faultOf
    split
    · rcases div_fault ((machGo cc (.slice none 0 0) (.slice none 0 0) now).r (nextI code cc).2.1.toNat) ((machGo cc (.slice none 0 0) (.slice none 0 0) now).r (nextI code cc).2.2.toNat) with h | h <;> omega
    · split
      · split <;> omega
      · split
        · split <;> omega
        · omega
  · omega
theorem step_facts (code : List (Int × Int × Int)) (cc : Core) (m : List Int) (xs : List Rg) (now : Int) (hl : code.length ≤ 200) :
    (∀ i : Nat, i < m.length → (stepM code cc m xs now).getD i 0 ≠ m.getD i 0 → wrongN m.length xs i true = 0) ∧ chg m (stepM code cc m xs now) m.length ≤ 1 ∧
    (stepF code cc m xs now ≠ 0 → stepC code cc m xs now = cc ∧ stepO code cc m xs now = badOut (stepF code cc m xs now) ∧ chg m (stepM code cc m xs now) m.length = 0) ∧
    (stepF code cc m xs now = 0 → (stepO code cc m xs now).fl = 0 ∧ ((stepO code cc m xs now).ha = true → stepC code cc m xs now = cc ∧ chg m (stepM code cc m xs now) m.length = 0)) := by
  by_cases hf : stepF code cc m xs now = 0
  · have hok : okAt cc.pc code = true := by
      cases h : okAt cc.pc code with
      | true => rfl
      | false => unfold stepF at hf; rw [h] at hf; simp at hf
    have hM : stepM code cc m xs now = memOf (nextI code cc).1.toNat (nextI code cc).2.1.toNat (nextI code cc).2.2.toNat (machGo cc (.slice none 0 0) (.slice none 0 0) now) m xs := by unfold stepM; rw [if_pos hf]
    have hC : stepC code cc m xs now = coreOf (stepX code cc m xs now) := by unfold stepC; rw [if_pos hf]
    have hO : stepO code cc m xs now = outOf (stepX code cc m xs now) := by unfold stepO; rw [if_pos hf]
    have hfl : (stepX code cc m xs now).fl = 0 := by unfold stepX; rw [mach_fl]; rfl
    by_cases h9 : (nextI code cc).1.toNat = 9
    · have hF : stepF code cc m xs now = if wrongN m.length xs (cc.r (nextI code cc).2.2.toNat) true = 0 then 0 else 5 := by
        unfold stepF faultOf; rw [if_pos hok, if_neg (by rw [h9]; decide), if_neg (by rw [h9]; decide), if_pos h9]; rfl
      have hw : wrongN m.length xs (cc.r (nextI code cc).2.2.toNat) true = 0 := by
        rcases Classical.em (wrongN m.length xs (cc.r (nextI code cc).2.2.toNat) true = 0) with h | h
        · exact h
        · rw [hF, if_neg h] at hf; omega
      have hS : stepM code cc m xs now = m.set (cc.r (nextI code cc).2.2.toNat).toNat (cc.r (nextI code cc).2.1.toNat) := by
        rw [hM]; unfold memOf; rw [if_pos h9]
        show storeV m xs (cc.r _) (cc.r _) = _
        unfold storeV; rw [if_pos hw]
      have hr := wrong_ok hw
      refine ⟨fun i hi hd => ?_, ?_, fun h => absurd hf h, fun _ => ⟨by rw [hO]; exact hfl, fun hh => ?_⟩⟩
      · rw [hS] at hd
        have hip : i = (cc.r (nextI code cc).2.2.toNat).toNat := by
          rcases Classical.em (i = (cc.r (nextI code cc).2.2.toNat).toNat) with h | h
          · exact h
          · exact absurd (set_far m _ i _ h) hd
        rw [show ((i : Nat) : Int) = cc.r (nextI code cc).2.2.toNat by omega]
        exact hw
      · rw [hS]
        have := chg_set m (cc.r (nextI code cc).2.2.toNat).toNat (cc.r (nextI code cc).2.1.toNat) m.length
        split at this <;> omega
      · rw [hO] at hh
        have : (stepX code cc m xs now).ha = false := by unfold stepX; rw [mach_ha _ _ _ _ _ _ _ (by rw [h9]; decide)]; rfl
        exact absurd (this.symm.trans hh) (by decide)
    · have hS : stepM code cc m xs now = m := by rw [hM]; unfold memOf; rw [if_neg h9]
      rw [hS]
      refine ⟨fun i _ hd => absurd rfl hd, by rw [chg_same]; omega, fun h => absurd hf h, fun _ => ⟨by rw [hO]; exact hfl, fun hh => ⟨?_, chg_same _ _⟩⟩⟩
      rw [hO] at hh
      by_cases h0 : (nextI code cc).1.toNat = 0
      · rw [hC]
        have hX : stepX code cc m xs now = { machGo cc (.slice none 0 0) (.slice none 0 0) now with ha := true, pc := wrap64 (cc.pc + 1 - 1) } := by unfold stepX; rw [h0]; rfl
        rw [hX]
        unfold okAt at hok
        simp only [Bool.and_eq_true, decide_eq_true_eq] at hok
        have hp : wrap64 (cc.pc + 1 - 1) = cc.pc := by unfold wrap64; omega
        rw [hp]
        rfl
      · have : (stepX code cc m xs now).ha = false := by unfold stepX; rw [mach_ha _ _ _ _ _ _ _ h0]; rfl
        exact absurd (this.symm.trans hh) (by decide)
  · have hS : stepM code cc m xs now = m := by unfold stepM; rw [if_neg hf]
    rw [hS]
    exact ⟨fun i _ hd => absurd rfl hd, by rw [chg_same]; omega, fun _ => ⟨by unfold stepC; rw [if_neg hf], by unfold stepO; rw [if_neg hf], chg_same _ _⟩, fun h => absurd h hf⟩

set_option maxHeartbeats 4000000 in
theorem faults_f (cc : Core) (f : Int) (hf0 : 0 ≤ f) (hf7 : f < 7) (hf : f ≠ 0) (A : Option Addr) (c n : Nat) (M : Option Addr) (cm : Nat) (m m' : List Int) (A' : Option Addr) (c' n' : Nat) (now : Int) (w : World) (hG : Glob w)
    (hn : n ≤ 200) (hn' : n' ≤ 20) (hm : m.length ≤ 200) (hr : (Kd.int .i64).C w M m.length m) (hch : chg m m' m.length = 0)
    (hS : ∀ W, Below w.heap.size w W → Calls Tryd.prog 11 #[.slice A n c, .agg #[.int .i64 cc.pc, .int .i64 (cc.r 0), .int .i64 (cc.r 1), .int .i64 (cc.r 2), .int .i64 (cc.r 3)], .slice M m.length cm, .slice A' n' c', .int .i64 now] W fun e w' =>
      ∃ A1 k1, e = .returned (.tuple #[.agg #[.int .i64 cc.pc, .int .i64 (cc.r 0), .int .i64 (cc.r 1), .int .i64 (cc.r 2), .int .i64 (cc.r 3)], .slice A1 m.length k1, .agg #[.int .i64 f, .int .i64 (-1), .bool false, .bool false, .int .i64 0]]) ∧ (Kd.int .i64).C w' A1 m.length m' ∧ Below W.heap.size W w')
    (hW : ∀ W (k : Nat), Below w.heap.size w W → k < m.length → rd m' k ≠ rd m k → Calls Tryd.prog 16 #[.slice M m.length cm, .slice A' n' c', .int .i64 k, .int .i64 0] W fun e w' =>
      ∃ r, e = .returned (.tuple #[r, .int .i64 0]) ∧ Below W.heap.size W w') :
    Calls Tryd.prog 6 #[.slice A n c, .agg #[.int .i64 cc.pc, .int .i64 (cc.r 0), .int .i64 (cc.r 1), .int .i64 (cc.r 2), .int .i64 (cc.r 3)], .slice M m.length cm, .slice A' n' c', .int .i64 now] w fun e w' => e = .returned (.bool true) ∧ Below w.heap.size w w' := by
  have hA : ∀ o, _ := fun o => awake_any (w.alloc o) (hG.alloc o)
  have HA := Lib.hid hA
  have HS := Lib.hid hS
  have HW := Lib.hid hW
  have HR := Lib.hid hr
  have HCH := Lib.hid hch
  have hl : m.length = m.length := rfl
  have d2 : decide (200 < (n : Int)) = false := decide_eq_false (by omega)
  have d3 : decide (200 < n) = false := decide_eq_false (by omega)
  have e2 : decide (200 < (m.length : Int)) = false := decide_eq_false (by omega)
  have e3 : decide (200 < m.length) = false := decide_eq_false (by omega)
  have g2 : decide (20 < (n' : Int)) = false := decide_eq_false (by omega)
  have g3 : decide (20 < n') = false := decide_eq_false (by omega)
  have y1 : decide (f < 0) = false := decide_eq_false (by omega)
  have y2 : decide (7 ≤ f) = false := decide_eq_false (by omega)
  have y3 : (f == 0) = false := by simp [hf]
  have y4 : (f != 0) = true := by simp [hf]
  have heq : ∀ W, _ := fun W => eq_regs 9997 (cc.r 0) (cc.r 1) (cc.r 2) (cc.r 3) W
  simp only [Nat.reduceAdd] at heq
  have HM := Lib.hid hm
  clear hA hG hS hW hr hch hn hn' hm hf0 hf7 hf
  go_enter Tryd.func6, Tryd.ntmps6
  go_wp2_with fail
  refine (HA.out _).mono ?_
  rintro e w1 ⟨rfl, hb⟩
  have B0_ := Lib.hid (Below.refl w.heap.size w)
  have K1_c := Lib.hid (blk_below (blk_new w (.cells #[.int .i64 cc.pc, .int .i64 (cc.r 0), .int .i64 (cc.r 1), .int .i64 (cc.r 2), .int .i64 (cc.r 3)] 29)) hb)
  have B1_ := Lib.hid (btrans (balloc B0_.out (.cells #[.int .i64 cc.pc, .int .i64 (cc.r 0), .int .i64 (cc.r 1), .int .i64 (cc.r 2), .int .i64 (cc.r 3)] 29)) hb)
  have l1_c := blk_lt K1_c.out
  have q1_c_1 : w.heap.size ≤ w1.heap.size := by omega
  have q1_c_2 : w.heap.size ≤ w1.heap.size + 1 := by omega
  have q1_c_3 : w.heap.size < w1.heap.size + 1 := by omega
  have c1_c_0 : w1.cell? ⟨w.heap.size, 0, none⟩ = some (.int .i64 cc.pc) := (blk_cell K1_c.out 0).trans rfl
  have c1_c_1 : w1.cell? ⟨w.heap.size, 1, none⟩ = some (.int .i64 (cc.r 0)) := (blk_cell K1_c.out 1).trans rfl
  have c1_c_2 : w1.cell? ⟨w.heap.size, 2, none⟩ = some (.int .i64 (cc.r 1)) := (blk_cell K1_c.out 2).trans rfl
  have c1_c_3 : w1.cell? ⟨w.heap.size, 3, none⟩ = some (.int .i64 (cc.r 2)) := (blk_cell K1_c.out 3).trans rfl
  have c1_c_4 : w1.cell? ⟨w.heap.size, 4, none⟩ = some (.int .i64 (cc.r 3)) := (blk_cell K1_c.out 4).trans rfl
  clear hb
  go_wp2_with fail
  refine (HS.out _ B1_.out).mono ?_
  rintro e w3 ⟨A1, k1, rfl, hv, hb⟩
  have K2_c := Lib.hid (blk_below K1_c.out hb)
  have B2_ := Lib.hid (btrans B1_.out hb)
  have l2_c := blk_lt K2_c.out
  have q2_c_1 : w.heap.size ≤ w3.heap.size := by omega
  have q2_c_2 : w.heap.size ≤ w3.heap.size + 1 := by omega
  have q2_c_3 : w.heap.size < w3.heap.size + 1 := by omega
  have HV := Lib.hid hv
  clear hv hb l1_c q1_c_1 q1_c_2 q1_c_3 c1_c_0 c1_c_1 c1_c_2 c1_c_3 c1_c_4
  go_wp2_with fail
  have HV' := Lib.hid (Kd.C_below HV.out (balloc (balloc (Below.refl w3.heap.size w3) (.cells #[.int .i64 cc.pc, .int .i64 (cc.r 0), .int .i64 (cc.r 1), .int .i64 (cc.r 2), .int .i64 (cc.r 3)] 29)) (.cells #[.int .i64 f, .int .i64 (-1), .bool false, .bool false, .int .i64 0] 34)))
  clear HV
  go_loopw [15, 16] (fun c_ k_ wr_ => ∃ k : Nat, k ≤ m.length ∧ k_ = .int .i64 k ∧ c_ = .int .i64 (chg m m' k : Nat) ∧ Hid (Below w.heap.size w wr_) ∧ Hid ((Kd.int .i64).C wr_ A1 m.length m') ∧ Hid (wr_.heap[w.heap.size]? = some (.cells #[.int .i64 cc.pc, .int .i64 (cc.r 0), .int .i64 (cc.r 1), .int .i64 (cc.r 2), .int .i64 (cc.r 3)] 29 (0, 0))) ∧ Hid (wr_.heap[w3.heap.size]? = some (.cells #[.int .i64 cc.pc, .int .i64 (cc.r 0), .int .i64 (cc.r 1), .int .i64 (cc.r 2), .int .i64 (cc.r 3)] 29 (0, 0))) ∧ Hid (wr_.heap[w3.heap.size + 1]? = some (.cells #[.int .i64 f, .int .i64 (-1), .bool false, .bool false, .int .i64 0] 34 (0, 0)))) (fun _ k_ _ => m.length - (intOf k_).toNat)
  case atStart => exact ⟨0, Nat.zero_le _, rfl, rfl, Lib.hid (balloc (balloc B2_.out (.cells #[.int .i64 cc.pc, .int .i64 (cc.r 0), .int .i64 (cc.r 1), .int .i64 (cc.r 2), .int .i64 (cc.r 3)] 29)) (.cells #[.int .i64 f, .int .i64 (-1), .bool false, .bool false, .int .i64 0] 34)), Lib.hid HV'.out, Lib.hid (blk_alloc (blk_alloc K2_c.out (.cells #[.int .i64 cc.pc, .int .i64 (cc.r 0), .int .i64 (cc.r 1), .int .i64 (cc.r 2), .int .i64 (cc.r 3)] 29)) (.cells #[.int .i64 f, .int .i64 (-1), .bool false, .bool false, .int .i64 0] 34)), Lib.hid (two_new1 w3 (.cells #[.int .i64 cc.pc, .int .i64 (cc.r 0), .int .i64 (cc.r 1), .int .i64 (cc.r 2), .int .i64 (cc.r 3)] 29) (.cells #[.int .i64 f, .int .i64 (-1), .bool false, .bool false, .int .i64 0] 34)), Lib.hid (two_new2 w3 (.cells #[.int .i64 cc.pc, .int .i64 (cc.r 0), .int .i64 (cc.r 1), .int .i64 (cc.r 2), .int .i64 (cc.r 3)] 29) (.cells #[.int .i64 f, .int .i64 (-1), .bool false, .bool false, .int .i64 0] 34))⟩
  case round =>
    obtain ⟨k, hk, rfl, rfl, hB, hV, hC, hA, hO⟩ := hrel
    have l1 := blk_lt hC.out
    have l2 := blk_lt hA.out
    have l3 := blk_lt hO.out
    have hk200 : k ≤ 200 := by have := HM.out; omega
    by_cases hlt : k < m.length
    · obtain ⟨ad, rfl, u1⟩ := Kd.at_int (Kd.C_below HR.out hB.out) (k : Int) (by omega) (by omega)
      obtain ⟨ad1, rfl, u2⟩ := Kd.at_int hV.out (k : Int) (by omega) (by omega)
      simp only [Int.toNat_natCast] at u1 u2
      have p1 := World.block_lt_of_cell? wr _ u1
      have p2 := World.block_lt_of_cell? wr _ u2
      have hg := chg_le m m' k
      by_cases hd : rd m' k = rd m k
      · have hs : Hid (chg m m' (k + 1) = chg m m' k) := Lib.hid (chg_eq hd)
        rw [hd] at u2
        clear hd
        generalize rd m k = z at *
        generalize chg m m' k = g at *
        go_wp2_with fail
        go_quiet (fail)
        go_wp2_with fail
        go_roundw
        case rel => exact ⟨k + 1, by omega, by simp, by rw [hs.out], Lib.hid (bdrewN hB.out _), Lib.hid (Kd.C_below hV.out (bdrewN (Below.refl _ _) _)), Lib.hid (blk_drewN hC.out _), Lib.hid (blk_drewN hA.out _), Lib.hid (blk_drewN hO.out _)⟩
        case measure => simp [intOf]; omega
      · have hs : Hid (chg m m' (k + 1) = chg m m' k + 1) := Lib.hid (chg_ne hd)
        have hSt : ∀ q, _ := fun q => HW.out (wr.drewN q) k (bdrewN hB.out q) hlt hd
        have HSt := Lib.hid hSt
        have n1 : (rd m' k == rd m k) = false := by simp [hd]
        have n2 : (rd m' k != rd m k) = true := by simp [hd]
        clear hd hSt
        generalize rd m k = z at *
        generalize rd m' k = z' at *
        generalize chg m m' k = g at *
        go_wp2_with fail
        go_quiet (fail)
        go_wp2_with fail
        refine (HSt.out _).mono ?_
        rintro e w4 ⟨r, rfl, hb⟩
        have HB4 := Lib.hid (btrans (bdrewN hB.out _) hb)
        have HV4 := Lib.hid (Kd.C_below (Kd.C_below hV.out (bdrewN (Below.refl _ _) _)) hb)
        have HC4 := Lib.hid (blk_below (blk_drewN hC.out _) hb)
        have HA4 := Lib.hid (blk_below (blk_drewN hA.out _) hb)
        have HO4 := Lib.hid (blk_below (blk_drewN hO.out _) hb)
        clear hb u1 u2
        go_wp2_with fail
        go_roundw
        case rel => exact ⟨k + 1, by omega, by simp, by rw [hs.out]; simp, HB4, HV4, HC4, HA4, HO4⟩
        case measure => simp [intOf]; omega
    · have hke : k = m.length := by omega
      subst hke
      have hch := HCH.out
      obtain ⟨x0, x1, x2, x3, x4⟩ := cells5 hC.out
      obtain ⟨z0, z1, z2, z3, z4⟩ := cells5 hA.out
      obtain ⟨v0, v1, v2, v3, v4⟩ := cells5 hO.out
      rw [hch]
      go_wp2_with fail
      go_ret
      exact ⟨rfl, hB.out⟩
set_option maxHeartbeats 4000000 in
theorem faults_h (cc : Core) (ca va : Int) (re : Bool) (A : Option Addr) (c n : Nat) (M : Option Addr) (cm : Nat) (m m' : List Int) (A' : Option Addr) (c' n' : Nat) (now : Int) (w : World) (hG : Glob w)
    (hn : n ≤ 200) (hn' : n' ≤ 20) (hm : m.length ≤ 200) (hr : (Kd.int .i64).C w M m.length m) (hch : chg m m' m.length = 0)
    (hS : ∀ W, Below w.heap.size w W → Calls Tryd.prog 11 #[.slice A n c, .agg #[.int .i64 cc.pc, .int .i64 (cc.r 0), .int .i64 (cc.r 1), .int .i64 (cc.r 2), .int .i64 (cc.r 3)], .slice M m.length cm, .slice A' n' c', .int .i64 now] W fun e w' =>
      ∃ A1 k1, e = .returned (.tuple #[.agg #[.int .i64 cc.pc, .int .i64 (cc.r 0), .int .i64 (cc.r 1), .int .i64 (cc.r 2), .int .i64 (cc.r 3)], .slice A1 m.length k1, .agg #[.int .i64 0, .int .i64 ca, .bool true, .bool re, .int .i64 va]]) ∧ (Kd.int .i64).C w' A1 m.length m' ∧ Below W.heap.size W w')
    (hW : ∀ W (k : Nat), Below w.heap.size w W → k < m.length → rd m' k ≠ rd m k → Calls Tryd.prog 16 #[.slice M m.length cm, .slice A' n' c', .int .i64 k, .int .i64 0] W fun e w' =>
      ∃ r, e = .returned (.tuple #[r, .int .i64 0]) ∧ Below W.heap.size W w') :
    Calls Tryd.prog 6 #[.slice A n c, .agg #[.int .i64 cc.pc, .int .i64 (cc.r 0), .int .i64 (cc.r 1), .int .i64 (cc.r 2), .int .i64 (cc.r 3)], .slice M m.length cm, .slice A' n' c', .int .i64 now] w fun e w' => e = .returned (.bool true) ∧ Below w.heap.size w w' := by
  have hA : ∀ o, _ := fun o => awake_any (w.alloc o) (hG.alloc o)
  have HA := Lib.hid hA
  have HS := Lib.hid hS
  have HW := Lib.hid hW
  have HR := Lib.hid hr
  have HCH := Lib.hid hch
  have hl : m.length = m.length := rfl
  have d2 : decide (200 < (n : Int)) = false := decide_eq_false (by omega)
  have d3 : decide (200 < n) = false := decide_eq_false (by omega)
  have e2 : decide (200 < (m.length : Int)) = false := decide_eq_false (by omega)
  have e3 : decide (200 < m.length) = false := decide_eq_false (by omega)
  have g2 : decide (20 < (n' : Int)) = false := decide_eq_false (by omega)
  have g3 : decide (20 < n') = false := decide_eq_false (by omega)
  have heq : ∀ W, _ := fun W => eq_regs 9997 (cc.r 0) (cc.r 1) (cc.r 2) (cc.r 3) W
  simp only [Nat.reduceAdd] at heq
  have HM := Lib.hid hm
  clear hA hG hS hW hr hch hn hn' hm
  go_enter Tryd.func6, Tryd.ntmps6
  go_wp2_with fail
  refine (HA.out _).mono ?_
  rintro e w1 ⟨rfl, hb⟩
  have B0_ := Lib.hid (Below.refl w.heap.size w)
  have K1_c := Lib.hid (blk_below (blk_new w (.cells #[.int .i64 cc.pc, .int .i64 (cc.r 0), .int .i64 (cc.r 1), .int .i64 (cc.r 2), .int .i64 (cc.r 3)] 29)) hb)
  have B1_ := Lib.hid (btrans (balloc B0_.out (.cells #[.int .i64 cc.pc, .int .i64 (cc.r 0), .int .i64 (cc.r 1), .int .i64 (cc.r 2), .int .i64 (cc.r 3)] 29)) hb)
  have l1_c := blk_lt K1_c.out
  have q1_c_1 : w.heap.size ≤ w1.heap.size := by omega
  have q1_c_2 : w.heap.size ≤ w1.heap.size + 1 := by omega
  have q1_c_3 : w.heap.size < w1.heap.size + 1 := by omega
  have c1_c_0 : w1.cell? ⟨w.heap.size, 0, none⟩ = some (.int .i64 cc.pc) := (blk_cell K1_c.out 0).trans rfl
  have c1_c_1 : w1.cell? ⟨w.heap.size, 1, none⟩ = some (.int .i64 (cc.r 0)) := (blk_cell K1_c.out 1).trans rfl
  have c1_c_2 : w1.cell? ⟨w.heap.size, 2, none⟩ = some (.int .i64 (cc.r 1)) := (blk_cell K1_c.out 2).trans rfl
  have c1_c_3 : w1.cell? ⟨w.heap.size, 3, none⟩ = some (.int .i64 (cc.r 2)) := (blk_cell K1_c.out 3).trans rfl
  have c1_c_4 : w1.cell? ⟨w.heap.size, 4, none⟩ = some (.int .i64 (cc.r 3)) := (blk_cell K1_c.out 4).trans rfl
  clear hb
  go_wp2_with fail
  refine (HS.out _ B1_.out).mono ?_
  rintro e w3 ⟨A1, k1, rfl, hv, hb⟩
  have K2_c := Lib.hid (blk_below K1_c.out hb)
  have B2_ := Lib.hid (btrans B1_.out hb)
  have l2_c := blk_lt K2_c.out
  have q2_c_1 : w.heap.size ≤ w3.heap.size := by omega
  have q2_c_2 : w.heap.size ≤ w3.heap.size + 1 := by omega
  have q2_c_3 : w.heap.size < w3.heap.size + 1 := by omega
  have HV := Lib.hid hv
  clear hv hb l1_c q1_c_1 q1_c_2 q1_c_3 c1_c_0 c1_c_1 c1_c_2 c1_c_3 c1_c_4
  go_wp2_with fail
  have HV' := Lib.hid (Kd.C_below HV.out (balloc (balloc (Below.refl w3.heap.size w3) (.cells #[.int .i64 cc.pc, .int .i64 (cc.r 0), .int .i64 (cc.r 1), .int .i64 (cc.r 2), .int .i64 (cc.r 3)] 29)) (.cells #[.int .i64 0, .int .i64 ca, .bool true, .bool re, .int .i64 va] 34)))
  clear HV
  go_loopw [15, 16] (fun c_ k_ wr_ => ∃ k : Nat, k ≤ m.length ∧ k_ = .int .i64 k ∧ c_ = .int .i64 (chg m m' k : Nat) ∧ Hid (Below w.heap.size w wr_) ∧ Hid ((Kd.int .i64).C wr_ A1 m.length m') ∧ Hid (wr_.heap[w.heap.size]? = some (.cells #[.int .i64 cc.pc, .int .i64 (cc.r 0), .int .i64 (cc.r 1), .int .i64 (cc.r 2), .int .i64 (cc.r 3)] 29 (0, 0))) ∧ Hid (wr_.heap[w3.heap.size]? = some (.cells #[.int .i64 cc.pc, .int .i64 (cc.r 0), .int .i64 (cc.r 1), .int .i64 (cc.r 2), .int .i64 (cc.r 3)] 29 (0, 0))) ∧ Hid (wr_.heap[w3.heap.size + 1]? = some (.cells #[.int .i64 0, .int .i64 ca, .bool true, .bool re, .int .i64 va] 34 (0, 0)))) (fun _ k_ _ => m.length - (intOf k_).toNat)
  case atStart => exact ⟨0, Nat.zero_le _, rfl, rfl, Lib.hid (balloc (balloc B2_.out (.cells #[.int .i64 cc.pc, .int .i64 (cc.r 0), .int .i64 (cc.r 1), .int .i64 (cc.r 2), .int .i64 (cc.r 3)] 29)) (.cells #[.int .i64 0, .int .i64 ca, .bool true, .bool re, .int .i64 va] 34)), Lib.hid HV'.out, Lib.hid (blk_alloc (blk_alloc K2_c.out (.cells #[.int .i64 cc.pc, .int .i64 (cc.r 0), .int .i64 (cc.r 1), .int .i64 (cc.r 2), .int .i64 (cc.r 3)] 29)) (.cells #[.int .i64 0, .int .i64 ca, .bool true, .bool re, .int .i64 va] 34)), Lib.hid (two_new1 w3 (.cells #[.int .i64 cc.pc, .int .i64 (cc.r 0), .int .i64 (cc.r 1), .int .i64 (cc.r 2), .int .i64 (cc.r 3)] 29) (.cells #[.int .i64 0, .int .i64 ca, .bool true, .bool re, .int .i64 va] 34)), Lib.hid (two_new2 w3 (.cells #[.int .i64 cc.pc, .int .i64 (cc.r 0), .int .i64 (cc.r 1), .int .i64 (cc.r 2), .int .i64 (cc.r 3)] 29) (.cells #[.int .i64 0, .int .i64 ca, .bool true, .bool re, .int .i64 va] 34))⟩
  case round =>
    obtain ⟨k, hk, rfl, rfl, hB, hV, hC, hA, hO⟩ := hrel
    have l1 := blk_lt hC.out
    have l2 := blk_lt hA.out
    have l3 := blk_lt hO.out
    have hk200 : k ≤ 200 := by have := HM.out; omega
    by_cases hlt : k < m.length
    · obtain ⟨ad, rfl, u1⟩ := Kd.at_int (Kd.C_below HR.out hB.out) (k : Int) (by omega) (by omega)
      obtain ⟨ad1, rfl, u2⟩ := Kd.at_int hV.out (k : Int) (by omega) (by omega)
      simp only [Int.toNat_natCast] at u1 u2
      have p1 := World.block_lt_of_cell? wr _ u1
      have p2 := World.block_lt_of_cell? wr _ u2
      have hg := chg_le m m' k
      by_cases hd : rd m' k = rd m k
      · have hs : Hid (chg m m' (k + 1) = chg m m' k) := Lib.hid (chg_eq hd)
        rw [hd] at u2
        clear hd
        generalize rd m k = z at *
        generalize chg m m' k = g at *
        go_wp2_with fail
        go_quiet (fail)
        go_wp2_with fail
        go_roundw
        case rel => exact ⟨k + 1, by omega, by simp, by rw [hs.out], Lib.hid (bdrewN hB.out _), Lib.hid (Kd.C_below hV.out (bdrewN (Below.refl _ _) _)), Lib.hid (blk_drewN hC.out _), Lib.hid (blk_drewN hA.out _), Lib.hid (blk_drewN hO.out _)⟩
        case measure => simp [intOf]; omega
      · have hs : Hid (chg m m' (k + 1) = chg m m' k + 1) := Lib.hid (chg_ne hd)
        have hSt : ∀ q, _ := fun q => HW.out (wr.drewN q) k (bdrewN hB.out q) hlt hd
        have HSt := Lib.hid hSt
        have n1 : (rd m' k == rd m k) = false := by simp [hd]
        have n2 : (rd m' k != rd m k) = true := by simp [hd]
        clear hd hSt
        generalize rd m k = z at *
        generalize rd m' k = z' at *
        generalize chg m m' k = g at *
        go_wp2_with fail
        go_quiet (fail)
        go_wp2_with fail
        refine (HSt.out _).mono ?_
        rintro e w4 ⟨r, rfl, hb⟩
        have HB4 := Lib.hid (btrans (bdrewN hB.out _) hb)
        have HV4 := Lib.hid (Kd.C_below (Kd.C_below hV.out (bdrewN (Below.refl _ _) _)) hb)
        have HC4 := Lib.hid (blk_below (blk_drewN hC.out _) hb)
        have HA4 := Lib.hid (blk_below (blk_drewN hA.out _) hb)
        have HO4 := Lib.hid (blk_below (blk_drewN hO.out _) hb)
        clear hb u1 u2
        go_wp2_with fail
        go_roundw
        case rel => exact ⟨k + 1, by omega, by simp, by rw [hs.out]; simp, HB4, HV4, HC4, HA4, HO4⟩
        case measure => simp [intOf]; omega
    · have hke : k = m.length := by omega
      subst hke
      have hch := HCH.out
      obtain ⟨x0, x1, x2, x3, x4⟩ := cells5 hC.out
      obtain ⟨z0, z1, z2, z3, z4⟩ := cells5 hA.out
      obtain ⟨v0, v1, v2, v3, v4⟩ := cells5 hO.out
      rw [hch]
      go_wp2_with fail
      go_ret
      exact ⟨rfl, hB.out⟩
set_option maxHeartbeats 4000000 in
theorem faults_n (cc : Core) (X : Core) (ca va : Int) (re : Bool) (A : Option Addr) (c n : Nat) (M : Option Addr) (cm : Nat) (m m' : List Int) (A' : Option Addr) (c' n' : Nat) (now : Int) (w : World) (hG : Glob w)
    (hn : n ≤ 200) (hn' : n' ≤ 20) (hm : m.length ≤ 200) (hr : (Kd.int .i64).C w M m.length m) (hch : chg m m' m.length ≤ 1)
    (hS : ∀ W, Below w.heap.size w W → Calls Tryd.prog 11 #[.slice A n c, .agg #[.int .i64 cc.pc, .int .i64 (cc.r 0), .int .i64 (cc.r 1), .int .i64 (cc.r 2), .int .i64 (cc.r 3)], .slice M m.length cm, .slice A' n' c', .int .i64 now] W fun e w' =>
      ∃ A1 k1, e = .returned (.tuple #[.agg #[.int .i64 X.pc, .int .i64 (X.r 0), .int .i64 (X.r 1), .int .i64 (X.r 2), .int .i64 (X.r 3)], .slice A1 m.length k1, .agg #[.int .i64 0, .int .i64 ca, .bool false, .bool re, .int .i64 va]]) ∧ (Kd.int .i64).C w' A1 m.length m' ∧ Below W.heap.size W w')
    (hW : ∀ W (k : Nat), Below w.heap.size w W → k < m.length → rd m' k ≠ rd m k → Calls Tryd.prog 16 #[.slice M m.length cm, .slice A' n' c', .int .i64 k, .int .i64 0] W fun e w' =>
      ∃ r, e = .returned (.tuple #[r, .int .i64 0]) ∧ Below W.heap.size W w') :
    Calls Tryd.prog 6 #[.slice A n c, .agg #[.int .i64 cc.pc, .int .i64 (cc.r 0), .int .i64 (cc.r 1), .int .i64 (cc.r 2), .int .i64 (cc.r 3)], .slice M m.length cm, .slice A' n' c', .int .i64 now] w fun e w' => e = .returned (.bool true) ∧ Below w.heap.size w w' := by
  have hA : ∀ o, _ := fun o => awake_any (w.alloc o) (hG.alloc o)
  have HA := Lib.hid hA
  have HS := Lib.hid hS
  have HW := Lib.hid hW
  have HR := Lib.hid hr
  have HCH := Lib.hid hch
  have hl : m.length = m.length := rfl
  have d2 : decide (200 < (n : Int)) = false := decide_eq_false (by omega)
  have d3 : decide (200 < n) = false := decide_eq_false (by omega)
  have e2 : decide (200 < (m.length : Int)) = false := decide_eq_false (by omega)
  have e3 : decide (200 < m.length) = false := decide_eq_false (by omega)
  have g2 : decide (20 < (n' : Int)) = false := decide_eq_false (by omega)
  have g3 : decide (20 < n') = false := decide_eq_false (by omega)
  have heq : ∀ W, _ := fun W => eq_regs 9997 (cc.r 0) (cc.r 1) (cc.r 2) (cc.r 3) W
  simp only [Nat.reduceAdd] at heq
  have HM := Lib.hid hm
  clear hA hG hS hW hr hch hn hn' hm
  go_enter Tryd.func6, Tryd.ntmps6
  go_wp2_with fail
  refine (HA.out _).mono ?_
  rintro e w1 ⟨rfl, hb⟩
  have B0_ := Lib.hid (Below.refl w.heap.size w)
  have K1_c := Lib.hid (blk_below (blk_new w (.cells #[.int .i64 cc.pc, .int .i64 (cc.r 0), .int .i64 (cc.r 1), .int .i64 (cc.r 2), .int .i64 (cc.r 3)] 29)) hb)
  have B1_ := Lib.hid (btrans (balloc B0_.out (.cells #[.int .i64 cc.pc, .int .i64 (cc.r 0), .int .i64 (cc.r 1), .int .i64 (cc.r 2), .int .i64 (cc.r 3)] 29)) hb)
  have l1_c := blk_lt K1_c.out
  have q1_c_1 : w.heap.size ≤ w1.heap.size := by omega
  have q1_c_2 : w.heap.size ≤ w1.heap.size + 1 := by omega
  have q1_c_3 : w.heap.size < w1.heap.size + 1 := by omega
  have c1_c_0 : w1.cell? ⟨w.heap.size, 0, none⟩ = some (.int .i64 cc.pc) := (blk_cell K1_c.out 0).trans rfl
  have c1_c_1 : w1.cell? ⟨w.heap.size, 1, none⟩ = some (.int .i64 (cc.r 0)) := (blk_cell K1_c.out 1).trans rfl
  have c1_c_2 : w1.cell? ⟨w.heap.size, 2, none⟩ = some (.int .i64 (cc.r 1)) := (blk_cell K1_c.out 2).trans rfl
  have c1_c_3 : w1.cell? ⟨w.heap.size, 3, none⟩ = some (.int .i64 (cc.r 2)) := (blk_cell K1_c.out 3).trans rfl
  have c1_c_4 : w1.cell? ⟨w.heap.size, 4, none⟩ = some (.int .i64 (cc.r 3)) := (blk_cell K1_c.out 4).trans rfl
  clear hb
  go_wp2_with fail
  refine (HS.out _ B1_.out).mono ?_
  rintro e w3 ⟨A1, k1, rfl, hv, hb⟩
  have K2_c := Lib.hid (blk_below K1_c.out hb)
  have B2_ := Lib.hid (btrans B1_.out hb)
  have l2_c := blk_lt K2_c.out
  have q2_c_1 : w.heap.size ≤ w3.heap.size := by omega
  have q2_c_2 : w.heap.size ≤ w3.heap.size + 1 := by omega
  have q2_c_3 : w.heap.size < w3.heap.size + 1 := by omega
  have HV := Lib.hid hv
  clear hv hb l1_c q1_c_1 q1_c_2 q1_c_3 c1_c_0 c1_c_1 c1_c_2 c1_c_3 c1_c_4
  go_wp2_with fail
  have HV' := Lib.hid (Kd.C_below HV.out (balloc (balloc (Below.refl w3.heap.size w3) (.cells #[.int .i64 X.pc, .int .i64 (X.r 0), .int .i64 (X.r 1), .int .i64 (X.r 2), .int .i64 (X.r 3)] 29)) (.cells #[.int .i64 0, .int .i64 ca, .bool false, .bool re, .int .i64 va] 34)))
  clear HV
  go_loopw [15, 16] (fun c_ k_ wr_ => ∃ k : Nat, k ≤ m.length ∧ k_ = .int .i64 k ∧ c_ = .int .i64 (chg m m' k : Nat) ∧ Hid (Below w.heap.size w wr_) ∧ Hid ((Kd.int .i64).C wr_ A1 m.length m') ∧ Hid (wr_.heap[w.heap.size]? = some (.cells #[.int .i64 cc.pc, .int .i64 (cc.r 0), .int .i64 (cc.r 1), .int .i64 (cc.r 2), .int .i64 (cc.r 3)] 29 (0, 0))) ∧ Hid (wr_.heap[w3.heap.size]? = some (.cells #[.int .i64 X.pc, .int .i64 (X.r 0), .int .i64 (X.r 1), .int .i64 (X.r 2), .int .i64 (X.r 3)] 29 (0, 0))) ∧ Hid (wr_.heap[w3.heap.size + 1]? = some (.cells #[.int .i64 0, .int .i64 ca, .bool false, .bool re, .int .i64 va] 34 (0, 0)))) (fun _ k_ _ => m.length - (intOf k_).toNat)
  case atStart => exact ⟨0, Nat.zero_le _, rfl, rfl, Lib.hid (balloc (balloc B2_.out (.cells #[.int .i64 X.pc, .int .i64 (X.r 0), .int .i64 (X.r 1), .int .i64 (X.r 2), .int .i64 (X.r 3)] 29)) (.cells #[.int .i64 0, .int .i64 ca, .bool false, .bool re, .int .i64 va] 34)), Lib.hid HV'.out, Lib.hid (blk_alloc (blk_alloc K2_c.out (.cells #[.int .i64 X.pc, .int .i64 (X.r 0), .int .i64 (X.r 1), .int .i64 (X.r 2), .int .i64 (X.r 3)] 29)) (.cells #[.int .i64 0, .int .i64 ca, .bool false, .bool re, .int .i64 va] 34)), Lib.hid (two_new1 w3 (.cells #[.int .i64 X.pc, .int .i64 (X.r 0), .int .i64 (X.r 1), .int .i64 (X.r 2), .int .i64 (X.r 3)] 29) (.cells #[.int .i64 0, .int .i64 ca, .bool false, .bool re, .int .i64 va] 34)), Lib.hid (two_new2 w3 (.cells #[.int .i64 X.pc, .int .i64 (X.r 0), .int .i64 (X.r 1), .int .i64 (X.r 2), .int .i64 (X.r 3)] 29) (.cells #[.int .i64 0, .int .i64 ca, .bool false, .bool re, .int .i64 va] 34))⟩
  case round =>
    obtain ⟨k, hk, rfl, rfl, hB, hV, hC, hA, hO⟩ := hrel
    have l1 := blk_lt hC.out
    have l2 := blk_lt hA.out
    have l3 := blk_lt hO.out
    have hk200 : k ≤ 200 := by have := HM.out; omega
    by_cases hlt : k < m.length
    · obtain ⟨ad, rfl, u1⟩ := Kd.at_int (Kd.C_below HR.out hB.out) (k : Int) (by omega) (by omega)
      obtain ⟨ad1, rfl, u2⟩ := Kd.at_int hV.out (k : Int) (by omega) (by omega)
      simp only [Int.toNat_natCast] at u1 u2
      have p1 := World.block_lt_of_cell? wr _ u1
      have p2 := World.block_lt_of_cell? wr _ u2
      have hg := chg_le m m' k
      by_cases hd : rd m' k = rd m k
      · have hs : Hid (chg m m' (k + 1) = chg m m' k) := Lib.hid (chg_eq hd)
        rw [hd] at u2
        clear hd
        generalize rd m k = z at *
        generalize chg m m' k = g at *
        go_wp2_with fail
        go_quiet (fail)
        go_wp2_with fail
        go_roundw
        case rel => exact ⟨k + 1, by omega, by simp, by rw [hs.out], Lib.hid (bdrewN hB.out _), Lib.hid (Kd.C_below hV.out (bdrewN (Below.refl _ _) _)), Lib.hid (blk_drewN hC.out _), Lib.hid (blk_drewN hA.out _), Lib.hid (blk_drewN hO.out _)⟩
        case measure => simp [intOf]; omega
      · have hs : Hid (chg m m' (k + 1) = chg m m' k + 1) := Lib.hid (chg_ne hd)
        have hSt : ∀ q, _ := fun q => HW.out (wr.drewN q) k (bdrewN hB.out q) hlt hd
        have HSt := Lib.hid hSt
        have n1 : (rd m' k == rd m k) = false := by simp [hd]
        have n2 : (rd m' k != rd m k) = true := by simp [hd]
        clear hd hSt
        generalize rd m k = z at *
        generalize rd m' k = z' at *
        generalize chg m m' k = g at *
        go_wp2_with fail
        go_quiet (fail)
        go_wp2_with fail
        refine (HSt.out _).mono ?_
        rintro e w4 ⟨r, rfl, hb⟩
        have HB4 := Lib.hid (btrans (bdrewN hB.out _) hb)
        have HV4 := Lib.hid (Kd.C_below (Kd.C_below hV.out (bdrewN (Below.refl _ _) _)) hb)
        have HC4 := Lib.hid (blk_below (blk_drewN hC.out _) hb)
        have HA4 := Lib.hid (blk_below (blk_drewN hA.out _) hb)
        have HO4 := Lib.hid (blk_below (blk_drewN hO.out _) hb)
        clear hb u1 u2
        go_wp2_with fail
        go_roundw
        case rel => exact ⟨k + 1, by omega, by simp, by rw [hs.out]; simp, HB4, HV4, HC4, HA4, HO4⟩
        case measure => simp [intOf]; omega
    · have hke : k = m.length := by omega
      subst hke
      have hch := HCH.out
      obtain ⟨x0, x1, x2, x3, x4⟩ := cells5 hC.out
      obtain ⟨z0, z1, z2, z3, z4⟩ := cells5 hA.out
      obtain ⟨v0, v1, v2, v3, v4⟩ := cells5 hO.out
      generalize chg m m' m.length = g at *
      have g1 : decide ((g : Int) ≤ 1) = true := decide_eq_true (by omega)
      have g1' : decide (g ≤ 1) = true := decide_eq_true (by omega)
      go_wp2_with fail
      go_ret
      exact ⟨rfl, hB.out⟩
/-- The guards let it in no further. -/
theorem faults_out (cc : Core) (A : Option Addr) (c n : Nat) (M : Option Addr) (cm k : Nat) (A' : Option Addr) (c' n' : Nat) (now : Int) (w : World) (hG : Glob w) (h : 200 < n ∨ 200 < k ∨ 20 < n') :
    Calls Tryd.prog 6 #[.slice A n c, .agg #[.int .i64 cc.pc, .int .i64 (cc.r 0), .int .i64 (cc.r 1), .int .i64 (cc.r 2), .int .i64 (cc.r 3)], .slice M k cm, .slice A' n' c', .int .i64 now] w fun e w' => e = .returned (.bool true) ∧ Below w.heap.size w w' := by
  have hA : ∀ o, _ := fun o => awake_any (w.alloc o) (hG.alloc o)
  have HA := Lib.hid hA
  have h' : (200 < n) ∨ (¬ 200 < n ∧ 200 < k) ∨ (¬ 200 < n ∧ ¬ 200 < k ∧ 20 < n') := by omega
  clear hA hG h
  rcases h' with h1 | ⟨h1, h2⟩ | ⟨h1, h2, h3⟩
  · have d2 : decide (200 < (n : Int)) = true := decide_eq_true (by omega)
    have d3 : decide (200 < n) = true := decide_eq_true (by omega)
    clear h1
    go_enter Tryd.func6, Tryd.ntmps6
    go_wp2_with fail
    refine (HA.out _).mono ?_
    rintro e w1 ⟨rfl, hb⟩
    have HB1 := Lib.hid (btrans (balloc (Below.refl _ _) _) hb)
    clear hb
    go_wp2_with fail
    go_ret
    exact ⟨rfl, HB1.out⟩
  · have d2 : decide (200 < (n : Int)) = false := decide_eq_false (by omega)
    have d3 : decide (200 < n) = false := decide_eq_false (by omega)
    have e2 : decide (200 < (k : Int)) = true := decide_eq_true (by omega)
    have e3 : decide (200 < k) = true := decide_eq_true (by omega)
    clear h1 h2
    go_enter Tryd.func6, Tryd.ntmps6
    go_wp2_with fail
    refine (HA.out _).mono ?_
    rintro e w1 ⟨rfl, hb⟩
    have HB1 := Lib.hid (btrans (balloc (Below.refl _ _) _) hb)
    clear hb
    go_wp2_with fail
    go_ret
    exact ⟨rfl, HB1.out⟩
  · have d2 : decide (200 < (n : Int)) = false := decide_eq_false (by omega)
    have d3 : decide (200 < n) = false := decide_eq_false (by omega)
    have e2 : decide (200 < (k : Int)) = false := decide_eq_false (by omega)
    have e3 : decide (200 < k) = false := decide_eq_false (by omega)
    have g2 : decide (20 < (n' : Int)) = true := decide_eq_true (by omega)
    have g3 : decide (20 < n') = true := decide_eq_true (by omega)
    clear h1 h2 h3
    go_enter Tryd.func6, Tryd.ntmps6
    go_wp2_with fail
    refine (HA.out _).mono ?_
    rintro e w1 ⟨rfl, hb⟩
    have HB1 := Lib.hid (btrans (balloc (Below.refl _ _) _) hb)
    clear hb
    go_wp2_with fail
    go_ret
    exact ⟨rfl, HB1.out⟩

theorem faults_any (cc : Core) (A : Option Addr) (c : Nat) (code : List (Int × Int × Int)) (M : Option Addr) (cm : Nat) (m : List Int) (A' : Option Addr) (c' : Nat) (l : List PureC.S) (now : Int) (w : World)
    (hc : CodeAt w A code) (hG : Glob w) (hr : (Kd.int .i64).C w M m.length m) (hl : Kd.C Pr.k25 w A' l.length l) :
    Calls Tryd.prog 6 #[.slice A code.length c, coreV cc, .slice M m.length cm, .slice A' l.length c', .int .i64 now] w fun e w' => e = .returned (.bool true) ∧ Below w.heap.size w w' := by
  by_cases h : 200 < code.length ∨ 200 < m.length ∨ 20 < l.length
  · exact faults_out cc A c code.length M cm m.length A' c' l.length now w hG h
  · have h1 : code.length ≤ 200 := by omega
    have h2 : m.length ≤ 200 := by omega
    have h3 : l.length ≤ 20 := by omega
    obtain ⟨f1, f2, f3, f4⟩ := step_facts code cc m (l.map rg_) now h1
    obtain ⟨f5, f6⟩ := stepF_in code cc m (l.map rg_) now
    have hS : ∀ W, Below w.heap.size w W → Calls Tryd.prog 11 #[.slice A code.length c, coreV cc, .slice M m.length cm, .slice A' l.length c', .int .i64 now] W fun e w' =>
        ∃ A1 k1, e = .returned (.tuple #[coreV (stepC code cc m (l.map rg_) now), .slice A1 m.length k1, outV (stepO code cc m (l.map rg_) now)]) ∧ (Kd.int .i64).C w' A1 m.length (stepM code cc m (l.map rg_) now) ∧ Below W.heap.size W w' := fun W hb => by
      have := step_any cc A c code W (hc.below hb) (hG.below hb) M cm m A' c' (l.map rg_) now (Kd.C_below hr hb) (by omega) ((regs_at hl).below hb)
      rw [List.length_map] at this
      refine this.mono ?_
      rintro e w' ⟨v, rfl, hv, hb2⟩
      obtain ⟨A1, k1, rfl, _, hC⟩ := Kd.R_reads hv
      rw [stepM_len] at hC
      exact ⟨A1, k1, by rw [stepM_len], hC, hb2⟩
    have hW : ∀ W (k : Nat), Below w.heap.size w W → k < m.length → rd (stepM code cc m (l.map rg_) now) k ≠ rd m k → Calls Tryd.prog 16 #[.slice M m.length cm, .slice A' l.length c', .int .i64 k, .int .i64 0] W fun e w' =>
        ∃ r, e = .returned (.tuple #[r, .int .i64 0]) ∧ Below W.heap.size W w' := fun W k hb hk hd => by
      have := store_any M cm m A' c' (l.map rg_) (k : Int) 0 W (Kd.C_below hr hb) (by omega) ((regs_at hl).below hb)
      rw [List.length_map, f1 k hk hd] at this
      refine this.mono ?_
      rintro e w' ⟨r, rfl, _, hb2⟩
      exact ⟨r, rfl, hb2⟩
    by_cases hf : stepF code cc m (l.map rg_) now = 0
    · obtain ⟨f7, f8⟩ := f4 hf
      generalize stepO code cc m (l.map rg_) now = O at *
      obtain ⟨fl, ca, ha, re, va⟩ := O
      simp only at f7 f8
      subst f7
      cases ha
      · exact faults_n cc _ ca va re A c code.length M cm m _ A' c' l.length now w hG h1 h3 h2 hr f2 hS hW
      · obtain ⟨f9, f10⟩ := f8 rfl
        rw [f9] at hS
        exact faults_h cc ca va re A c code.length M cm m _ A' c' l.length now w hG h1 h3 h2 hr f10 hS hW
    · obtain ⟨f7, f8, f9⟩ := f3 hf
      rw [f7, f8] at hS
      exact faults_f cc _ f5 f6 hf A c code.length M cm m _ A' c' l.length now w hG h1 h3 h2 hr f9 hS hW
end Go.Proofs.YtlphgnfjemaliaaDoor.CpuF

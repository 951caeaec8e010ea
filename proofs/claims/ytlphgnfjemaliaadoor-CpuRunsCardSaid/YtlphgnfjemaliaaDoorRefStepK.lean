/-
  quarterdeckref05.Step walked: what it answers, way by way (what is reckoned).
  Conditions: the arguments lie in memory as told; the callees' contracts are handed in.
-/
import Derived.Test.YtlphgnfjemaliaaDoorRefStep
import Derived.BigRegion
namespace Go.Proofs.YtlphgnfjemaliaaDoor.RefStep
set_option maxRecDepth 100000
set_option linter.unusedVariables false
set_option linter.unusedSimpArgs false
open Go.RowKit Go.Proofs.YtlphgnfjemaliaaDoorW.PrintWords Go.Proofs.YtlphgnfjemaliaaDoor.Mem Go.Proofs.YtlphgnfjemaliaaDoor.CpuA Go.Proofs.YtlphgnfjemaliaaDoor.CpuB Go.Proofs.YtlphgnfjemaliaaDoor.CpuC Go.Proofs.YtlphgnfjemaliaaDoor.CpuS Go.Proofs.YtlphgnfjemaliaaDoor.CpuL Go.Proofs.YtlphgnfjemaliaaDoor.PureC

set_option maxHeartbeats 4000000 in
theorem ref_reck_in (cc : Core) (A : Option Addr) (c : Nat) (code : List (Int × Int × Int)) (M L : Value) (now : Int) (w : World) (hc : CodeAt w A code) (h0 : 0 ≤ cc.pc) (h1 : cc.pc < code.length) (op : Int) (a : Nat) (b : Int)
    (hi : code.getD cc.pc.toNat zI = (op, (a : Int), b)) (hm : Instr.mayB op a b = true) (ha : a < 4) (hop : op ≠ 0 ∧ op ≠ 8 ∧ op ≠ 9 ∧ op ≠ 10 ∧ op ≠ 11 ∧ op ≠ 18 ∧ op ≠ 19) (y v : Int) (hy : y = if 0 ≤ b ∧ b < 4 then cc.r b.toNat else 0) (hRe : ∀ W, Calls Tryd.prog 27 #[.int .i64 op, .int .i64 (cc.r a), .int .i64 y, .int .i64 b] W fun e w' => e = .returned (.tuple #[.int .i64 v, .int .i64 0]) ∧ ∃ n, w' = W.drewN n) (hin : 0 ≤ b ∧ b < 4) :
    Calls Tryd.prog 13 #[.slice A code.length c, coreV cc, M, L, .int .i64 now] w fun e w' => e = .returned (.tuple #[coreV ⟨cc.pc + 1, upd cc.r a v⟩, M, outV out0]) ∧ Below w.heap.size w w' := by
  have hM : ∀ W, Calls Tryd.prog 23 #[.agg #[.int .i64 op, .int .i64 a, .int .i64 b]] W fun e w' => e = .returned (.bool true) ∧ Below W.heap.size W w' := fun W => by
    obtain ⟨k, hk⟩ := (refmay_ev op a b).rounds
    rw [hm] at hk
    exact Pr.quarterdeckref04_May.calls k _ _ _ _ W hk
  obtain ⟨k, hk⟩ : ∃ k : Nat, cc.pc = (k : Int) := ⟨cc.pc.toNat, by omega⟩
  obtain ⟨pc, r⟩ := cc
  simp only at hk h0 h1 hi
  subst hk
  rw [Int.toNat_natCast] at hi
  obtain ⟨ad, rfl, hcell⟩ := hc.2 (by omega)
  have hkl : k < code.length := by omega
  have hk64 := hc.1
  obtain ⟨a0, a1, a2⟩ := hcell k (code.getD k zI) (by rw [List.getD_eq_getElem?_getD, List.getElem?_eq_getElem hkl]; rfl)
  rw [hi] at a0 a1 a2
  have hb0 := World.block_lt_of_cell? w _ a0
  have hbc1 : (ad.add (k * 3)).block < w.heap.size + 1 := by omega
  have hbc2 : (ad.add (k * 3)).block < w.heap.size + 1 + 1 := by omega
  have hbc3 : (ad.add (k * 3)).block < w.heap.size + 1 + 1 + 1 := by omega
  have hba0 : (ad.add (k * 3)).block ≤ w.heap.size := by omega
  have hba1 : (ad.add (k * 3)).block ≤ w.heap.size + 1 := by omega
  have hba2 : (ad.add (k * 3)).block ≤ w.heap.size + 1 + 1 := by omega
  have hba3 : (ad.add (k * 3)).block ≤ w.heap.size + 1 + 1 + 1 := by omega
  have HM := Lib.hid hM
  have d1 : decide ((k : Int) < 0) = false := decide_eq_false (by omega)
  have d2 : decide ((code.length : Int) ≤ (k : Int)) = false := decide_eq_false (by omega)
  have d3 : decide (code.length ≤ k) = false := decide_eq_false (by omega)
  have HA := Lib.hid ha
  simp only at a0 a1 a2
  simp only at hRe hy
  have HRE := Lib.hid hRe
  have n0 : (op == 0) = false := by simp [hop.1]
  have n8 : (op == 8) = false := by simp [hop.2.1]
  have n9 : (op == 9) = false := by simp [hop.2.2.1]
  have n10 : (op == 10) = false := by simp [hop.2.2.2.1]
  have n11 : (op == 11) = false := by simp [hop.2.2.2.2.1]
  have n18 : (op == 18) = false := by simp [hop.2.2.2.2.2.1]
  have n19 : (op == 19) = false := by simp [hop.2.2.2.2.2.2]
  have HY := Lib.hid hy
  clear hRe hop hy
  clear hc hM hcell hi hm ha
  unfold coreV Core.cells
  go_enter Tryd.func13, Tryd.ntmps13
  go_wp2_with fail
  refine (HM.out _).mono ?_
  rintro e w1 ⟨rfl, hb⟩
  have FIVE := Lib.hid ((five_start w ⟨(k : Int), r⟩ op a b).below hb)
  have HB1 := Lib.hid (btrans (balloc (balloc (balloc (balloc (balloc (Below.refl _ _) _) _) _) _) _) hb)
  have hsz := HB1.out.size
  have g0_0 : w1.cell? ⟨w.heap.size, 0, none⟩ = some (.int .i64 ((k : Int))) := (blk_cell FIVE.out.b0 0).trans rfl
  have g0_1 : w1.cell? ⟨w.heap.size, 1, none⟩ = some (.int .i64 (r 0)) := (blk_cell FIVE.out.b0 1).trans rfl
  have g0_2 : w1.cell? ⟨w.heap.size, 2, none⟩ = some (.int .i64 (r 1)) := (blk_cell FIVE.out.b0 2).trans rfl
  have g0_3 : w1.cell? ⟨w.heap.size, 3, none⟩ = some (.int .i64 (r 2)) := (blk_cell FIVE.out.b0 3).trans rfl
  have g0_4 : w1.cell? ⟨w.heap.size, 4, none⟩ = some (.int .i64 (r 3)) := (blk_cell FIVE.out.b0 4).trans rfl
  have l0 := blk_lt FIVE.out.b0
  have g1_0 : w1.cell? ⟨w.heap.size + 1, 0, none⟩ = some (.int .i64 0) := (blk_cell FIVE.out.b1 0).trans rfl
  have g1_1 : w1.cell? ⟨w.heap.size + 1, 1, none⟩ = some (.int .i64 0) := (blk_cell FIVE.out.b1 1).trans rfl
  have g1_2 : w1.cell? ⟨w.heap.size + 1, 2, none⟩ = some (.int .i64 0) := (blk_cell FIVE.out.b1 2).trans rfl
  have g1_3 : w1.cell? ⟨w.heap.size + 1, 3, none⟩ = some (.int .i64 0) := (blk_cell FIVE.out.b1 3).trans rfl
  have g1_4 : w1.cell? ⟨w.heap.size + 1, 4, none⟩ = some (.int .i64 0) := (blk_cell FIVE.out.b1 4).trans rfl
  have z1_0 := blk_frozen FIVE.out.b1 0
  have z1_1 := blk_frozen FIVE.out.b1 1
  have z1_2 := blk_frozen FIVE.out.b1 2
  have z1_3 := blk_frozen FIVE.out.b1 3
  have z1_4 := blk_frozen FIVE.out.b1 4
  have l1 := blk_lt FIVE.out.b1
  have g2_0 : w1.cell? ⟨w.heap.size + 1 + 1, 0, none⟩ = some (.int .i64 0) := (blk_cell FIVE.out.b2 0).trans rfl
  have g2_1 : w1.cell? ⟨w.heap.size + 1 + 1, 1, none⟩ = some (.int .i64 0) := (blk_cell FIVE.out.b2 1).trans rfl
  have g2_2 : w1.cell? ⟨w.heap.size + 1 + 1, 2, none⟩ = some (.bool false) := (blk_cell FIVE.out.b2 2).trans rfl
  have g2_3 : w1.cell? ⟨w.heap.size + 1 + 1, 3, none⟩ = some (.bool false) := (blk_cell FIVE.out.b2 3).trans rfl
  have g2_4 : w1.cell? ⟨w.heap.size + 1 + 1, 4, none⟩ = some (.int .i64 0) := (blk_cell FIVE.out.b2 4).trans rfl
  have z2_0 := blk_frozen FIVE.out.b2 0
  have z2_1 := blk_frozen FIVE.out.b2 1
  have z2_2 := blk_frozen FIVE.out.b2 2
  have z2_3 := blk_frozen FIVE.out.b2 3
  have z2_4 := blk_frozen FIVE.out.b2 4
  have l2 := blk_lt FIVE.out.b2
  have g3_0 : w1.cell? ⟨w.heap.size + 1 + 1 + 1, 0, none⟩ = some (.int .i64 0) := (blk_cell FIVE.out.b3 0).trans rfl
  have g3_1 : w1.cell? ⟨w.heap.size + 1 + 1 + 1, 1, none⟩ = some (.int .i64 (-1)) := (blk_cell FIVE.out.b3 1).trans rfl
  have g3_2 : w1.cell? ⟨w.heap.size + 1 + 1 + 1, 2, none⟩ = some (.bool false) := (blk_cell FIVE.out.b3 2).trans rfl
  have g3_3 : w1.cell? ⟨w.heap.size + 1 + 1 + 1, 3, none⟩ = some (.bool false) := (blk_cell FIVE.out.b3 3).trans rfl
  have g3_4 : w1.cell? ⟨w.heap.size + 1 + 1 + 1, 4, none⟩ = some (.int .i64 0) := (blk_cell FIVE.out.b3 4).trans rfl
  have z3_0 := blk_frozen FIVE.out.b3 0
  have z3_1 := blk_frozen FIVE.out.b3 1
  have z3_2 := blk_frozen FIVE.out.b3 2
  have z3_3 := blk_frozen FIVE.out.b3 3
  have z3_4 := blk_frozen FIVE.out.b3 4
  have l3 := blk_lt FIVE.out.b3
  have g4_0 : w1.cell? ⟨w.heap.size + 1 + 1 + 1 + 1, 0, none⟩ = some (.int .i64 (op)) := (blk_cell FIVE.out.b4 0).trans rfl
  have g4_1 : w1.cell? ⟨w.heap.size + 1 + 1 + 1 + 1, 1, none⟩ = some (.int .i64 (a)) := (blk_cell FIVE.out.b4 1).trans rfl
  have g4_2 : w1.cell? ⟨w.heap.size + 1 + 1 + 1 + 1, 2, none⟩ = some (.int .i64 (b)) := (blk_cell FIVE.out.b4 2).trans rfl
  have l4 := blk_lt FIVE.out.b4
  have k0a : w.heap.size ≤ w1.heap.size := by omega
  have k0ab : w.heap.size ≤ w1.heap.size + 1 := by omega
  have k0cb : w.heap.size < w1.heap.size + 1 := by omega
  have k0d : w.heap.size < w1.heap.size := by omega
  have k1a : w.heap.size + 1 ≤ w1.heap.size := by omega
  have k1ab : w.heap.size + 1 ≤ w1.heap.size + 1 := by omega
  have k1cb : w.heap.size + 1 < w1.heap.size + 1 := by omega
  have k1d : w.heap.size + 1 < w1.heap.size := by omega
  have k2a : w.heap.size + 1 + 1 ≤ w1.heap.size := by omega
  have k2ab : w.heap.size + 1 + 1 ≤ w1.heap.size + 1 := by omega
  have k2cb : w.heap.size + 1 + 1 < w1.heap.size + 1 := by omega
  have k2d : w.heap.size + 1 + 1 < w1.heap.size := by omega
  have k3a : w.heap.size + 1 + 1 + 1 ≤ w1.heap.size := by omega
  have k3ab : w.heap.size + 1 + 1 + 1 ≤ w1.heap.size + 1 := by omega
  have k3cb : w.heap.size + 1 + 1 + 1 < w1.heap.size + 1 := by omega
  have k3d : w.heap.size + 1 + 1 + 1 < w1.heap.size := by omega
  have k4a : w.heap.size + 1 + 1 + 1 + 1 ≤ w1.heap.size := by omega
  have k4ab : w.heap.size + 1 + 1 + 1 + 1 ≤ w1.heap.size + 1 := by omega
  have k4cb : w.heap.size + 1 + 1 + 1 + 1 < w1.heap.size + 1 := by omega
  have ga : w1.cell? ⟨w.heap.size, 1 + a, none⟩ = some (.int .i64 (r a)) := (blk_cell FIVE.out.b0 _).trans (core_reg ⟨(k : Int), r⟩ a HA.out)
  have q0 : (0 : Int) ≤ (a : Int) := by omega
  have q1 : (a : Int) < 4 := by have := HA.out; omega
  clear hb a0 a1 a2 hb0 hbc1 hbc2 hbc3 hba0 hba1 hba2 hba3
  have hY := HY.out
  rw [if_pos hin] at hY
  subst hY
  obtain ⟨bn, rfl⟩ : ∃ bn : Nat, b = (bn : Int) := ⟨b.toNat, by omega⟩
  simp only [Int.toNat_natCast] at HRE HY
  have hb4 : bn < 4 := by omega
  have gb : w1.cell? ⟨w.heap.size, 1 + bn, none⟩ = some (.int .i64 (r bn)) := (blk_cell FIVE.out.b0 _).trans (core_reg ⟨(k : Int), r⟩ bn hb4)
  have p0 : decide ((0 : Int) ≤ (bn : Int)) = true := decide_eq_true (by omega)
  have p1 : decide ((bn : Int) < 4) = true := decide_eq_true (by omega)
  have p2 : (0 : Int) ≤ (bn : Int) := by omega
  have p3 : (bn : Int) < 4 := by omega
  clear hin hb4
  go_wp2_with fail
  go_quiet ((with_reducible exact Calls.quiet_of (HRE.out _)))
  have ha4 := HA.out
  have hcase : a = 0 ∨ a = 1 ∨ a = 2 ∨ a = 3 := by omega
  clear ha4 q0 q1
  rcases hcase with rfl | rfl | rfl | rfl
  · have g4_1' : w1.cell? ⟨w.heap.size + 1 + 1 + 1 + 1, 1, none⟩ = some (.int .i64 0) := g4_1
    clear g4_1
    go_wp2_with fail
    go_region
    (try simp only [Exit.then, Exit.inBlock])
    go_wp2_with fail
    have hfin : ∀ (W : World) (ts : Array Value), ts.getD 10 undef = .pointer (some ⟨w.heap.size + 1, 0, none⟩) → ts.getD 11 undef = M → ts.getD 12 undef = .pointer (some ⟨w.heap.size + 1 + 1, 0, none⟩) → W.heap[w.heap.size + 1]? = some (.cells #[.int .i64 ((k : Int) + 1), .int .i64 (v), .int .i64 (r 1), .int .i64 (r 2), .int .i64 (r 3)] 29 (0, 0)) → W.heap[w.heap.size + 1 + 1]? = some (.cells #[.int .i64 (0), .int .i64 (-1), .bool false, .bool false, .int .i64 (0)] 34 (0, 0)) → (results Tryd.f13 ts).run Tryd.prog W = .ok (.tuple #[coreV ⟨(k : Int) + 1, upd r 0 v⟩, M, outV out0]) W := fun W ts h10 h11 h12 hA hB => by
      rw [← h11]
      exact results_list (rs := [.cell 10 29, .tmp 11, .cell 12 34]) rfl (by simp) (.cell (w.heap.size + 1) 29 _ (0, 0) _ h10 hA Tryd.underlying29 rfl (by kernel_rfl) (.tmp (.cell (w.heap.size + 1 + 1) 34 _ (0, 0) _ h12 hB Tryd.underlying34 rfl (by kernel_rfl) .nil)))
    refine bodyPost_ret (hfin _ _ rfl rfl rfl ?_ ?_) rfl ⟨rfl, ?_⟩
    · repeat (first | (with_reducible refine blk_drewN ?_ _) | (with_reducible refine blk_drew ?_) | (with_reducible refine blk_alloc ?_ _))
      with_reducible refine put5_far (q := w.heap.size + 1 + 1) ?_ (by omega) _ _ _ _ _
      with_reducible refine put5_zC (q := w.heap.size + 1) ?_ _ _ _ _ _
      repeat (first | (with_reducible exact FIVE.out.b1) | (with_reducible refine blk_drewN ?_ _) | (with_reducible refine blk_drew ?_) | (with_reducible refine blk_alloc ?_ _) | (with_reducible refine blk_far ?_ (by (try simp only); omega) _))
    · repeat (first | (with_reducible refine blk_drewN ?_ _) | (with_reducible refine blk_drew ?_) | (with_reducible refine blk_alloc ?_ _))
      with_reducible refine put5_zO (q := w.heap.size + 1 + 1) ?_ _ _ _ _ _
      with_reducible refine put5_far (q := w.heap.size + 1) ?_ (by omega) _ _ _ _ _
      repeat (first | (with_reducible exact FIVE.out.b2) | (with_reducible refine blk_drewN ?_ _) | (with_reducible refine blk_drew ?_) | (with_reducible refine blk_alloc ?_ _) | (with_reducible refine blk_far ?_ (by (try simp only); omega) _))
    · repeat (first | (with_reducible exact HB1.out) | (with_reducible refine bdrewN ?_ _) | (with_reducible refine below_drew ?_) | (with_reducible refine balloc ?_ _) | (with_reducible refine Below.setCell ?_ (by (try simp only); omega) _))
  · have g4_1' : w1.cell? ⟨w.heap.size + 1 + 1 + 1 + 1, 1, none⟩ = some (.int .i64 1) := g4_1
    clear g4_1
    go_wp2_with fail
    go_region
    (try simp only [Exit.then, Exit.inBlock])
    go_wp2_with fail
    have hfin : ∀ (W : World) (ts : Array Value), ts.getD 10 undef = .pointer (some ⟨w.heap.size + 1, 0, none⟩) → ts.getD 11 undef = M → ts.getD 12 undef = .pointer (some ⟨w.heap.size + 1 + 1, 0, none⟩) → W.heap[w.heap.size + 1]? = some (.cells #[.int .i64 ((k : Int) + 1), .int .i64 (r 0), .int .i64 (v), .int .i64 (r 2), .int .i64 (r 3)] 29 (0, 0)) → W.heap[w.heap.size + 1 + 1]? = some (.cells #[.int .i64 (0), .int .i64 (-1), .bool false, .bool false, .int .i64 (0)] 34 (0, 0)) → (results Tryd.f13 ts).run Tryd.prog W = .ok (.tuple #[coreV ⟨(k : Int) + 1, upd r 1 v⟩, M, outV out0]) W := fun W ts h10 h11 h12 hA hB => by
      rw [← h11]
      exact results_list (rs := [.cell 10 29, .tmp 11, .cell 12 34]) rfl (by simp) (.cell (w.heap.size + 1) 29 _ (0, 0) _ h10 hA Tryd.underlying29 rfl (by kernel_rfl) (.tmp (.cell (w.heap.size + 1 + 1) 34 _ (0, 0) _ h12 hB Tryd.underlying34 rfl (by kernel_rfl) .nil)))
    refine bodyPost_ret (hfin _ _ rfl rfl rfl ?_ ?_) rfl ⟨rfl, ?_⟩
    · repeat (first | (with_reducible refine blk_drewN ?_ _) | (with_reducible refine blk_drew ?_) | (with_reducible refine blk_alloc ?_ _))
      with_reducible refine put5_far (q := w.heap.size + 1 + 1) ?_ (by omega) _ _ _ _ _
      with_reducible refine put5_zC (q := w.heap.size + 1) ?_ _ _ _ _ _
      repeat (first | (with_reducible exact FIVE.out.b1) | (with_reducible refine blk_drewN ?_ _) | (with_reducible refine blk_drew ?_) | (with_reducible refine blk_alloc ?_ _) | (with_reducible refine blk_far ?_ (by (try simp only); omega) _))
    · repeat (first | (with_reducible refine blk_drewN ?_ _) | (with_reducible refine blk_drew ?_) | (with_reducible refine blk_alloc ?_ _))
      with_reducible refine put5_zO (q := w.heap.size + 1 + 1) ?_ _ _ _ _ _
      with_reducible refine put5_far (q := w.heap.size + 1) ?_ (by omega) _ _ _ _ _
      repeat (first | (with_reducible exact FIVE.out.b2) | (with_reducible refine blk_drewN ?_ _) | (with_reducible refine blk_drew ?_) | (with_reducible refine blk_alloc ?_ _) | (with_reducible refine blk_far ?_ (by (try simp only); omega) _))
    · repeat (first | (with_reducible exact HB1.out) | (with_reducible refine bdrewN ?_ _) | (with_reducible refine below_drew ?_) | (with_reducible refine balloc ?_ _) | (with_reducible refine Below.setCell ?_ (by (try simp only); omega) _))
  · have g4_1' : w1.cell? ⟨w.heap.size + 1 + 1 + 1 + 1, 1, none⟩ = some (.int .i64 2) := g4_1
    clear g4_1
    go_wp2_with fail
    go_region
    (try simp only [Exit.then, Exit.inBlock])
    go_wp2_with fail
    have hfin : ∀ (W : World) (ts : Array Value), ts.getD 10 undef = .pointer (some ⟨w.heap.size + 1, 0, none⟩) → ts.getD 11 undef = M → ts.getD 12 undef = .pointer (some ⟨w.heap.size + 1 + 1, 0, none⟩) → W.heap[w.heap.size + 1]? = some (.cells #[.int .i64 ((k : Int) + 1), .int .i64 (r 0), .int .i64 (r 1), .int .i64 (v), .int .i64 (r 3)] 29 (0, 0)) → W.heap[w.heap.size + 1 + 1]? = some (.cells #[.int .i64 (0), .int .i64 (-1), .bool false, .bool false, .int .i64 (0)] 34 (0, 0)) → (results Tryd.f13 ts).run Tryd.prog W = .ok (.tuple #[coreV ⟨(k : Int) + 1, upd r 2 v⟩, M, outV out0]) W := fun W ts h10 h11 h12 hA hB => by
      rw [← h11]
      exact results_list (rs := [.cell 10 29, .tmp 11, .cell 12 34]) rfl (by simp) (.cell (w.heap.size + 1) 29 _ (0, 0) _ h10 hA Tryd.underlying29 rfl (by kernel_rfl) (.tmp (.cell (w.heap.size + 1 + 1) 34 _ (0, 0) _ h12 hB Tryd.underlying34 rfl (by kernel_rfl) .nil)))
    refine bodyPost_ret (hfin _ _ rfl rfl rfl ?_ ?_) rfl ⟨rfl, ?_⟩
    · repeat (first | (with_reducible refine blk_drewN ?_ _) | (with_reducible refine blk_drew ?_) | (with_reducible refine blk_alloc ?_ _))
      with_reducible refine put5_far (q := w.heap.size + 1 + 1) ?_ (by omega) _ _ _ _ _
      with_reducible refine put5_zC (q := w.heap.size + 1) ?_ _ _ _ _ _
      repeat (first | (with_reducible exact FIVE.out.b1) | (with_reducible refine blk_drewN ?_ _) | (with_reducible refine blk_drew ?_) | (with_reducible refine blk_alloc ?_ _) | (with_reducible refine blk_far ?_ (by (try simp only); omega) _))
    · repeat (first | (with_reducible refine blk_drewN ?_ _) | (with_reducible refine blk_drew ?_) | (with_reducible refine blk_alloc ?_ _))
      with_reducible refine put5_zO (q := w.heap.size + 1 + 1) ?_ _ _ _ _ _
      with_reducible refine put5_far (q := w.heap.size + 1) ?_ (by omega) _ _ _ _ _
      repeat (first | (with_reducible exact FIVE.out.b2) | (with_reducible refine blk_drewN ?_ _) | (with_reducible refine blk_drew ?_) | (with_reducible refine blk_alloc ?_ _) | (with_reducible refine blk_far ?_ (by (try simp only); omega) _))
    · repeat (first | (with_reducible exact HB1.out) | (with_reducible refine bdrewN ?_ _) | (with_reducible refine below_drew ?_) | (with_reducible refine balloc ?_ _) | (with_reducible refine Below.setCell ?_ (by (try simp only); omega) _))
  · have g4_1' : w1.cell? ⟨w.heap.size + 1 + 1 + 1 + 1, 1, none⟩ = some (.int .i64 3) := g4_1
    clear g4_1
    go_wp2_with fail
    go_region
    (try simp only [Exit.then, Exit.inBlock])
    go_wp2_with fail
    have hfin : ∀ (W : World) (ts : Array Value), ts.getD 10 undef = .pointer (some ⟨w.heap.size + 1, 0, none⟩) → ts.getD 11 undef = M → ts.getD 12 undef = .pointer (some ⟨w.heap.size + 1 + 1, 0, none⟩) → W.heap[w.heap.size + 1]? = some (.cells #[.int .i64 ((k : Int) + 1), .int .i64 (r 0), .int .i64 (r 1), .int .i64 (r 2), .int .i64 (v)] 29 (0, 0)) → W.heap[w.heap.size + 1 + 1]? = some (.cells #[.int .i64 (0), .int .i64 (-1), .bool false, .bool false, .int .i64 (0)] 34 (0, 0)) → (results Tryd.f13 ts).run Tryd.prog W = .ok (.tuple #[coreV ⟨(k : Int) + 1, upd r 3 v⟩, M, outV out0]) W := fun W ts h10 h11 h12 hA hB => by
      rw [← h11]
      exact results_list (rs := [.cell 10 29, .tmp 11, .cell 12 34]) rfl (by simp) (.cell (w.heap.size + 1) 29 _ (0, 0) _ h10 hA Tryd.underlying29 rfl (by kernel_rfl) (.tmp (.cell (w.heap.size + 1 + 1) 34 _ (0, 0) _ h12 hB Tryd.underlying34 rfl (by kernel_rfl) .nil)))
    refine bodyPost_ret (hfin _ _ rfl rfl rfl ?_ ?_) rfl ⟨rfl, ?_⟩
    · repeat (first | (with_reducible refine blk_drewN ?_ _) | (with_reducible refine blk_drew ?_) | (with_reducible refine blk_alloc ?_ _))
      with_reducible refine put5_far (q := w.heap.size + 1 + 1) ?_ (by omega) _ _ _ _ _
      with_reducible refine put5_zC (q := w.heap.size + 1) ?_ _ _ _ _ _
      repeat (first | (with_reducible exact FIVE.out.b1) | (with_reducible refine blk_drewN ?_ _) | (with_reducible refine blk_drew ?_) | (with_reducible refine blk_alloc ?_ _) | (with_reducible refine blk_far ?_ (by (try simp only); omega) _))
    · repeat (first | (with_reducible refine blk_drewN ?_ _) | (with_reducible refine blk_drew ?_) | (with_reducible refine blk_alloc ?_ _))
      with_reducible refine put5_zO (q := w.heap.size + 1 + 1) ?_ _ _ _ _ _
      with_reducible refine put5_far (q := w.heap.size + 1) ?_ (by omega) _ _ _ _ _
      repeat (first | (with_reducible exact FIVE.out.b2) | (with_reducible refine blk_drewN ?_ _) | (with_reducible refine blk_drew ?_) | (with_reducible refine blk_alloc ?_ _) | (with_reducible refine blk_far ?_ (by (try simp only); omega) _))
    · repeat (first | (with_reducible exact HB1.out) | (with_reducible refine bdrewN ?_ _) | (with_reducible refine below_drew ?_) | (with_reducible refine balloc ?_ _) | (with_reducible refine Below.setCell ?_ (by (try simp only); omega) _))


set_option maxHeartbeats 4000000 in
theorem ref_reck_out (cc : Core) (A : Option Addr) (c : Nat) (code : List (Int × Int × Int)) (M L : Value) (now : Int) (w : World) (hc : CodeAt w A code) (h0 : 0 ≤ cc.pc) (h1 : cc.pc < code.length) (op : Int) (a : Nat) (b : Int)
    (hi : code.getD cc.pc.toNat zI = (op, (a : Int), b)) (hm : Instr.mayB op a b = true) (ha : a < 4) (hop : op ≠ 0 ∧ op ≠ 8 ∧ op ≠ 9 ∧ op ≠ 10 ∧ op ≠ 11 ∧ op ≠ 18 ∧ op ≠ 19) (y v : Int) (hy : y = if 0 ≤ b ∧ b < 4 then cc.r b.toNat else 0) (hRe : ∀ W, Calls Tryd.prog 27 #[.int .i64 op, .int .i64 (cc.r a), .int .i64 y, .int .i64 b] W fun e w' => e = .returned (.tuple #[.int .i64 v, .int .i64 0]) ∧ ∃ n, w' = W.drewN n) (hin : ¬ (0 ≤ b ∧ b < 4)) :
    Calls Tryd.prog 13 #[.slice A code.length c, coreV cc, M, L, .int .i64 now] w fun e w' => e = .returned (.tuple #[coreV ⟨cc.pc + 1, upd cc.r a v⟩, M, outV out0]) ∧ Below w.heap.size w w' := by
  have hM : ∀ W, Calls Tryd.prog 23 #[.agg #[.int .i64 op, .int .i64 a, .int .i64 b]] W fun e w' => e = .returned (.bool true) ∧ Below W.heap.size W w' := fun W => by
    obtain ⟨k, hk⟩ := (refmay_ev op a b).rounds
    rw [hm] at hk
    exact Pr.quarterdeckref04_May.calls k _ _ _ _ W hk
  obtain ⟨k, hk⟩ : ∃ k : Nat, cc.pc = (k : Int) := ⟨cc.pc.toNat, by omega⟩
  obtain ⟨pc, r⟩ := cc
  simp only at hk h0 h1 hi
  subst hk
  rw [Int.toNat_natCast] at hi
  obtain ⟨ad, rfl, hcell⟩ := hc.2 (by omega)
  have hkl : k < code.length := by omega
  have hk64 := hc.1
  obtain ⟨a0, a1, a2⟩ := hcell k (code.getD k zI) (by rw [List.getD_eq_getElem?_getD, List.getElem?_eq_getElem hkl]; rfl)
  rw [hi] at a0 a1 a2
  have hb0 := World.block_lt_of_cell? w _ a0
  have hbc1 : (ad.add (k * 3)).block < w.heap.size + 1 := by omega
  have hbc2 : (ad.add (k * 3)).block < w.heap.size + 1 + 1 := by omega
  have hbc3 : (ad.add (k * 3)).block < w.heap.size + 1 + 1 + 1 := by omega
  have hba0 : (ad.add (k * 3)).block ≤ w.heap.size := by omega
  have hba1 : (ad.add (k * 3)).block ≤ w.heap.size + 1 := by omega
  have hba2 : (ad.add (k * 3)).block ≤ w.heap.size + 1 + 1 := by omega
  have hba3 : (ad.add (k * 3)).block ≤ w.heap.size + 1 + 1 + 1 := by omega
  have HM := Lib.hid hM
  have d1 : decide ((k : Int) < 0) = false := decide_eq_false (by omega)
  have d2 : decide ((code.length : Int) ≤ (k : Int)) = false := decide_eq_false (by omega)
  have d3 : decide (code.length ≤ k) = false := decide_eq_false (by omega)
  have HA := Lib.hid ha
  simp only at a0 a1 a2
  simp only at hRe hy
  have HRE := Lib.hid hRe
  have n0 : (op == 0) = false := by simp [hop.1]
  have n8 : (op == 8) = false := by simp [hop.2.1]
  have n9 : (op == 9) = false := by simp [hop.2.2.1]
  have n10 : (op == 10) = false := by simp [hop.2.2.2.1]
  have n11 : (op == 11) = false := by simp [hop.2.2.2.2.1]
  have n18 : (op == 18) = false := by simp [hop.2.2.2.2.2.1]
  have n19 : (op == 19) = false := by simp [hop.2.2.2.2.2.2]
  have HY := Lib.hid hy
  clear hRe hop hy
  clear hc hM hcell hi hm ha
  unfold coreV Core.cells
  go_enter Tryd.func13, Tryd.ntmps13
  go_wp2_with fail
  refine (HM.out _).mono ?_
  rintro e w1 ⟨rfl, hb⟩
  have FIVE := Lib.hid ((five_start w ⟨(k : Int), r⟩ op a b).below hb)
  have HB1 := Lib.hid (btrans (balloc (balloc (balloc (balloc (balloc (Below.refl _ _) _) _) _) _) _) hb)
  have hsz := HB1.out.size
  have g0_0 : w1.cell? ⟨w.heap.size, 0, none⟩ = some (.int .i64 ((k : Int))) := (blk_cell FIVE.out.b0 0).trans rfl
  have g0_1 : w1.cell? ⟨w.heap.size, 1, none⟩ = some (.int .i64 (r 0)) := (blk_cell FIVE.out.b0 1).trans rfl
  have g0_2 : w1.cell? ⟨w.heap.size, 2, none⟩ = some (.int .i64 (r 1)) := (blk_cell FIVE.out.b0 2).trans rfl
  have g0_3 : w1.cell? ⟨w.heap.size, 3, none⟩ = some (.int .i64 (r 2)) := (blk_cell FIVE.out.b0 3).trans rfl
  have g0_4 : w1.cell? ⟨w.heap.size, 4, none⟩ = some (.int .i64 (r 3)) := (blk_cell FIVE.out.b0 4).trans rfl
  have l0 := blk_lt FIVE.out.b0
  have g1_0 : w1.cell? ⟨w.heap.size + 1, 0, none⟩ = some (.int .i64 0) := (blk_cell FIVE.out.b1 0).trans rfl
  have g1_1 : w1.cell? ⟨w.heap.size + 1, 1, none⟩ = some (.int .i64 0) := (blk_cell FIVE.out.b1 1).trans rfl
  have g1_2 : w1.cell? ⟨w.heap.size + 1, 2, none⟩ = some (.int .i64 0) := (blk_cell FIVE.out.b1 2).trans rfl
  have g1_3 : w1.cell? ⟨w.heap.size + 1, 3, none⟩ = some (.int .i64 0) := (blk_cell FIVE.out.b1 3).trans rfl
  have g1_4 : w1.cell? ⟨w.heap.size + 1, 4, none⟩ = some (.int .i64 0) := (blk_cell FIVE.out.b1 4).trans rfl
  have z1_0 := blk_frozen FIVE.out.b1 0
  have z1_1 := blk_frozen FIVE.out.b1 1
  have z1_2 := blk_frozen FIVE.out.b1 2
  have z1_3 := blk_frozen FIVE.out.b1 3
  have z1_4 := blk_frozen FIVE.out.b1 4
  have l1 := blk_lt FIVE.out.b1
  have g2_0 : w1.cell? ⟨w.heap.size + 1 + 1, 0, none⟩ = some (.int .i64 0) := (blk_cell FIVE.out.b2 0).trans rfl
  have g2_1 : w1.cell? ⟨w.heap.size + 1 + 1, 1, none⟩ = some (.int .i64 0) := (blk_cell FIVE.out.b2 1).trans rfl
  have g2_2 : w1.cell? ⟨w.heap.size + 1 + 1, 2, none⟩ = some (.bool false) := (blk_cell FIVE.out.b2 2).trans rfl
  have g2_3 : w1.cell? ⟨w.heap.size + 1 + 1, 3, none⟩ = some (.bool false) := (blk_cell FIVE.out.b2 3).trans rfl
  have g2_4 : w1.cell? ⟨w.heap.size + 1 + 1, 4, none⟩ = some (.int .i64 0) := (blk_cell FIVE.out.b2 4).trans rfl
  have z2_0 := blk_frozen FIVE.out.b2 0
  have z2_1 := blk_frozen FIVE.out.b2 1
  have z2_2 := blk_frozen FIVE.out.b2 2
  have z2_3 := blk_frozen FIVE.out.b2 3
  have z2_4 := blk_frozen FIVE.out.b2 4
  have l2 := blk_lt FIVE.out.b2
  have g3_0 : w1.cell? ⟨w.heap.size + 1 + 1 + 1, 0, none⟩ = some (.int .i64 0) := (blk_cell FIVE.out.b3 0).trans rfl
  have g3_1 : w1.cell? ⟨w.heap.size + 1 + 1 + 1, 1, none⟩ = some (.int .i64 (-1)) := (blk_cell FIVE.out.b3 1).trans rfl
  have g3_2 : w1.cell? ⟨w.heap.size + 1 + 1 + 1, 2, none⟩ = some (.bool false) := (blk_cell FIVE.out.b3 2).trans rfl
  have g3_3 : w1.cell? ⟨w.heap.size + 1 + 1 + 1, 3, none⟩ = some (.bool false) := (blk_cell FIVE.out.b3 3).trans rfl
  have g3_4 : w1.cell? ⟨w.heap.size + 1 + 1 + 1, 4, none⟩ = some (.int .i64 0) := (blk_cell FIVE.out.b3 4).trans rfl
  have z3_0 := blk_frozen FIVE.out.b3 0
  have z3_1 := blk_frozen FIVE.out.b3 1
  have z3_2 := blk_frozen FIVE.out.b3 2
  have z3_3 := blk_frozen FIVE.out.b3 3
  have z3_4 := blk_frozen FIVE.out.b3 4
  have l3 := blk_lt FIVE.out.b3
  have g4_0 : w1.cell? ⟨w.heap.size + 1 + 1 + 1 + 1, 0, none⟩ = some (.int .i64 (op)) := (blk_cell FIVE.out.b4 0).trans rfl
  have g4_1 : w1.cell? ⟨w.heap.size + 1 + 1 + 1 + 1, 1, none⟩ = some (.int .i64 (a)) := (blk_cell FIVE.out.b4 1).trans rfl
  have g4_2 : w1.cell? ⟨w.heap.size + 1 + 1 + 1 + 1, 2, none⟩ = some (.int .i64 (b)) := (blk_cell FIVE.out.b4 2).trans rfl
  have l4 := blk_lt FIVE.out.b4
  have k0a : w.heap.size ≤ w1.heap.size := by omega
  have k0ab : w.heap.size ≤ w1.heap.size + 1 := by omega
  have k0cb : w.heap.size < w1.heap.size + 1 := by omega
  have k0d : w.heap.size < w1.heap.size := by omega
  have k1a : w.heap.size + 1 ≤ w1.heap.size := by omega
  have k1ab : w.heap.size + 1 ≤ w1.heap.size + 1 := by omega
  have k1cb : w.heap.size + 1 < w1.heap.size + 1 := by omega
  have k1d : w.heap.size + 1 < w1.heap.size := by omega
  have k2a : w.heap.size + 1 + 1 ≤ w1.heap.size := by omega
  have k2ab : w.heap.size + 1 + 1 ≤ w1.heap.size + 1 := by omega
  have k2cb : w.heap.size + 1 + 1 < w1.heap.size + 1 := by omega
  have k2d : w.heap.size + 1 + 1 < w1.heap.size := by omega
  have k3a : w.heap.size + 1 + 1 + 1 ≤ w1.heap.size := by omega
  have k3ab : w.heap.size + 1 + 1 + 1 ≤ w1.heap.size + 1 := by omega
  have k3cb : w.heap.size + 1 + 1 + 1 < w1.heap.size + 1 := by omega
  have k3d : w.heap.size + 1 + 1 + 1 < w1.heap.size := by omega
  have k4a : w.heap.size + 1 + 1 + 1 + 1 ≤ w1.heap.size := by omega
  have k4ab : w.heap.size + 1 + 1 + 1 + 1 ≤ w1.heap.size + 1 := by omega
  have k4cb : w.heap.size + 1 + 1 + 1 + 1 < w1.heap.size + 1 := by omega
  have ga : w1.cell? ⟨w.heap.size, 1 + a, none⟩ = some (.int .i64 (r a)) := (blk_cell FIVE.out.b0 _).trans (core_reg ⟨(k : Int), r⟩ a HA.out)
  have q0 : (0 : Int) ≤ (a : Int) := by omega
  have q1 : (a : Int) < 4 := by have := HA.out; omega
  clear hb a0 a1 a2 hb0 hbc1 hbc2 hbc3 hba0 hba1 hba2 hba3
  have hY := HY.out
  rw [if_neg hin] at hY
  subst hY
  have hor : (decide (0 ≤ b) = false) ∨ (decide (0 ≤ b) = true ∧ decide (b < 4) = false) := by
    by_cases h : 0 ≤ b
    · exact .inr ⟨decide_eq_true h, decide_eq_false (by omega)⟩
    · exact .inl (decide_eq_false h)
  clear hin
  rcases hor with w0 | ⟨w0, w4⟩
  · go_wp2_with fail
    go_quiet ((with_reducible exact Calls.quiet_of (HRE.out _)))
    have ha4 := HA.out
    have hcase : a = 0 ∨ a = 1 ∨ a = 2 ∨ a = 3 := by omega
    clear ha4 q0 q1
    rcases hcase with rfl | rfl | rfl | rfl
    · have g4_1' : w1.cell? ⟨w.heap.size + 1 + 1 + 1 + 1, 1, none⟩ = some (.int .i64 0) := g4_1
      clear g4_1
      go_wp2_with fail
      go_region
      (try simp only [Exit.then, Exit.inBlock])
      go_wp2_with fail
      have hfin : ∀ (W : World) (ts : Array Value), ts.getD 10 undef = .pointer (some ⟨w.heap.size + 1, 0, none⟩) → ts.getD 11 undef = M → ts.getD 12 undef = .pointer (some ⟨w.heap.size + 1 + 1, 0, none⟩) → W.heap[w.heap.size + 1]? = some (.cells #[.int .i64 ((k : Int) + 1), .int .i64 (v), .int .i64 (r 1), .int .i64 (r 2), .int .i64 (r 3)] 29 (0, 0)) → W.heap[w.heap.size + 1 + 1]? = some (.cells #[.int .i64 (0), .int .i64 (-1), .bool false, .bool false, .int .i64 (0)] 34 (0, 0)) → (results Tryd.f13 ts).run Tryd.prog W = .ok (.tuple #[coreV ⟨(k : Int) + 1, upd r 0 v⟩, M, outV out0]) W := fun W ts h10 h11 h12 hA hB => by
        rw [← h11]
        exact results_list (rs := [.cell 10 29, .tmp 11, .cell 12 34]) rfl (by simp) (.cell (w.heap.size + 1) 29 _ (0, 0) _ h10 hA Tryd.underlying29 rfl (by kernel_rfl) (.tmp (.cell (w.heap.size + 1 + 1) 34 _ (0, 0) _ h12 hB Tryd.underlying34 rfl (by kernel_rfl) .nil)))
      refine bodyPost_ret (hfin _ _ rfl rfl rfl ?_ ?_) rfl ⟨rfl, ?_⟩
      · repeat (first | (with_reducible refine blk_drewN ?_ _) | (with_reducible refine blk_drew ?_) | (with_reducible refine blk_alloc ?_ _))
        with_reducible refine put5_far (q := w.heap.size + 1 + 1) ?_ (by omega) _ _ _ _ _
        with_reducible refine put5_zC (q := w.heap.size + 1) ?_ _ _ _ _ _
        repeat (first | (with_reducible exact FIVE.out.b1) | (with_reducible refine blk_drewN ?_ _) | (with_reducible refine blk_drew ?_) | (with_reducible refine blk_alloc ?_ _) | (with_reducible refine blk_far ?_ (by (try simp only); omega) _))
      · repeat (first | (with_reducible refine blk_drewN ?_ _) | (with_reducible refine blk_drew ?_) | (with_reducible refine blk_alloc ?_ _))
        with_reducible refine put5_zO (q := w.heap.size + 1 + 1) ?_ _ _ _ _ _
        with_reducible refine put5_far (q := w.heap.size + 1) ?_ (by omega) _ _ _ _ _
        repeat (first | (with_reducible exact FIVE.out.b2) | (with_reducible refine blk_drewN ?_ _) | (with_reducible refine blk_drew ?_) | (with_reducible refine blk_alloc ?_ _) | (with_reducible refine blk_far ?_ (by (try simp only); omega) _))
      · repeat (first | (with_reducible exact HB1.out) | (with_reducible refine bdrewN ?_ _) | (with_reducible refine below_drew ?_) | (with_reducible refine balloc ?_ _) | (with_reducible refine Below.setCell ?_ (by (try simp only); omega) _))
    · have g4_1' : w1.cell? ⟨w.heap.size + 1 + 1 + 1 + 1, 1, none⟩ = some (.int .i64 1) := g4_1
      clear g4_1
      go_wp2_with fail
      go_region
      (try simp only [Exit.then, Exit.inBlock])
      go_wp2_with fail
      have hfin : ∀ (W : World) (ts : Array Value), ts.getD 10 undef = .pointer (some ⟨w.heap.size + 1, 0, none⟩) → ts.getD 11 undef = M → ts.getD 12 undef = .pointer (some ⟨w.heap.size + 1 + 1, 0, none⟩) → W.heap[w.heap.size + 1]? = some (.cells #[.int .i64 ((k : Int) + 1), .int .i64 (r 0), .int .i64 (v), .int .i64 (r 2), .int .i64 (r 3)] 29 (0, 0)) → W.heap[w.heap.size + 1 + 1]? = some (.cells #[.int .i64 (0), .int .i64 (-1), .bool false, .bool false, .int .i64 (0)] 34 (0, 0)) → (results Tryd.f13 ts).run Tryd.prog W = .ok (.tuple #[coreV ⟨(k : Int) + 1, upd r 1 v⟩, M, outV out0]) W := fun W ts h10 h11 h12 hA hB => by
        rw [← h11]
        exact results_list (rs := [.cell 10 29, .tmp 11, .cell 12 34]) rfl (by simp) (.cell (w.heap.size + 1) 29 _ (0, 0) _ h10 hA Tryd.underlying29 rfl (by kernel_rfl) (.tmp (.cell (w.heap.size + 1 + 1) 34 _ (0, 0) _ h12 hB Tryd.underlying34 rfl (by kernel_rfl) .nil)))
      refine bodyPost_ret (hfin _ _ rfl rfl rfl ?_ ?_) rfl ⟨rfl, ?_⟩
      · repeat (first | (with_reducible refine blk_drewN ?_ _) | (with_reducible refine blk_drew ?_) | (with_reducible refine blk_alloc ?_ _))
        with_reducible refine put5_far (q := w.heap.size + 1 + 1) ?_ (by omega) _ _ _ _ _
        with_reducible refine put5_zC (q := w.heap.size + 1) ?_ _ _ _ _ _
        repeat (first | (with_reducible exact FIVE.out.b1) | (with_reducible refine blk_drewN ?_ _) | (with_reducible refine blk_drew ?_) | (with_reducible refine blk_alloc ?_ _) | (with_reducible refine blk_far ?_ (by (try simp only); omega) _))
      · repeat (first | (with_reducible refine blk_drewN ?_ _) | (with_reducible refine blk_drew ?_) | (with_reducible refine blk_alloc ?_ _))
        with_reducible refine put5_zO (q := w.heap.size + 1 + 1) ?_ _ _ _ _ _
        with_reducible refine put5_far (q := w.heap.size + 1) ?_ (by omega) _ _ _ _ _
        repeat (first | (with_reducible exact FIVE.out.b2) | (with_reducible refine blk_drewN ?_ _) | (with_reducible refine blk_drew ?_) | (with_reducible refine blk_alloc ?_ _) | (with_reducible refine blk_far ?_ (by (try simp only); omega) _))
      · repeat (first | (with_reducible exact HB1.out) | (with_reducible refine bdrewN ?_ _) | (with_reducible refine below_drew ?_) | (with_reducible refine balloc ?_ _) | (with_reducible refine Below.setCell ?_ (by (try simp only); omega) _))
    · have g4_1' : w1.cell? ⟨w.heap.size + 1 + 1 + 1 + 1, 1, none⟩ = some (.int .i64 2) := g4_1
      clear g4_1
      go_wp2_with fail
      go_region
      (try simp only [Exit.then, Exit.inBlock])
      go_wp2_with fail
      have hfin : ∀ (W : World) (ts : Array Value), ts.getD 10 undef = .pointer (some ⟨w.heap.size + 1, 0, none⟩) → ts.getD 11 undef = M → ts.getD 12 undef = .pointer (some ⟨w.heap.size + 1 + 1, 0, none⟩) → W.heap[w.heap.size + 1]? = some (.cells #[.int .i64 ((k : Int) + 1), .int .i64 (r 0), .int .i64 (r 1), .int .i64 (v), .int .i64 (r 3)] 29 (0, 0)) → W.heap[w.heap.size + 1 + 1]? = some (.cells #[.int .i64 (0), .int .i64 (-1), .bool false, .bool false, .int .i64 (0)] 34 (0, 0)) → (results Tryd.f13 ts).run Tryd.prog W = .ok (.tuple #[coreV ⟨(k : Int) + 1, upd r 2 v⟩, M, outV out0]) W := fun W ts h10 h11 h12 hA hB => by
        rw [← h11]
        exact results_list (rs := [.cell 10 29, .tmp 11, .cell 12 34]) rfl (by simp) (.cell (w.heap.size + 1) 29 _ (0, 0) _ h10 hA Tryd.underlying29 rfl (by kernel_rfl) (.tmp (.cell (w.heap.size + 1 + 1) 34 _ (0, 0) _ h12 hB Tryd.underlying34 rfl (by kernel_rfl) .nil)))
      refine bodyPost_ret (hfin _ _ rfl rfl rfl ?_ ?_) rfl ⟨rfl, ?_⟩
      · repeat (first | (with_reducible refine blk_drewN ?_ _) | (with_reducible refine blk_drew ?_) | (with_reducible refine blk_alloc ?_ _))
        with_reducible refine put5_far (q := w.heap.size + 1 + 1) ?_ (by omega) _ _ _ _ _
        with_reducible refine put5_zC (q := w.heap.size + 1) ?_ _ _ _ _ _
        repeat (first | (with_reducible exact FIVE.out.b1) | (with_reducible refine blk_drewN ?_ _) | (with_reducible refine blk_drew ?_) | (with_reducible refine blk_alloc ?_ _) | (with_reducible refine blk_far ?_ (by (try simp only); omega) _))
      · repeat (first | (with_reducible refine blk_drewN ?_ _) | (with_reducible refine blk_drew ?_) | (with_reducible refine blk_alloc ?_ _))
        with_reducible refine put5_zO (q := w.heap.size + 1 + 1) ?_ _ _ _ _ _
        with_reducible refine put5_far (q := w.heap.size + 1) ?_ (by omega) _ _ _ _ _
        repeat (first | (with_reducible exact FIVE.out.b2) | (with_reducible refine blk_drewN ?_ _) | (with_reducible refine blk_drew ?_) | (with_reducible refine blk_alloc ?_ _) | (with_reducible refine blk_far ?_ (by (try simp only); omega) _))
      · repeat (first | (with_reducible exact HB1.out) | (with_reducible refine bdrewN ?_ _) | (with_reducible refine below_drew ?_) | (with_reducible refine balloc ?_ _) | (with_reducible refine Below.setCell ?_ (by (try simp only); omega) _))
    · have g4_1' : w1.cell? ⟨w.heap.size + 1 + 1 + 1 + 1, 1, none⟩ = some (.int .i64 3) := g4_1
      clear g4_1
      go_wp2_with fail
      go_region
      (try simp only [Exit.then, Exit.inBlock])
      go_wp2_with fail
      have hfin : ∀ (W : World) (ts : Array Value), ts.getD 10 undef = .pointer (some ⟨w.heap.size + 1, 0, none⟩) → ts.getD 11 undef = M → ts.getD 12 undef = .pointer (some ⟨w.heap.size + 1 + 1, 0, none⟩) → W.heap[w.heap.size + 1]? = some (.cells #[.int .i64 ((k : Int) + 1), .int .i64 (r 0), .int .i64 (r 1), .int .i64 (r 2), .int .i64 (v)] 29 (0, 0)) → W.heap[w.heap.size + 1 + 1]? = some (.cells #[.int .i64 (0), .int .i64 (-1), .bool false, .bool false, .int .i64 (0)] 34 (0, 0)) → (results Tryd.f13 ts).run Tryd.prog W = .ok (.tuple #[coreV ⟨(k : Int) + 1, upd r 3 v⟩, M, outV out0]) W := fun W ts h10 h11 h12 hA hB => by
        rw [← h11]
        exact results_list (rs := [.cell 10 29, .tmp 11, .cell 12 34]) rfl (by simp) (.cell (w.heap.size + 1) 29 _ (0, 0) _ h10 hA Tryd.underlying29 rfl (by kernel_rfl) (.tmp (.cell (w.heap.size + 1 + 1) 34 _ (0, 0) _ h12 hB Tryd.underlying34 rfl (by kernel_rfl) .nil)))
      refine bodyPost_ret (hfin _ _ rfl rfl rfl ?_ ?_) rfl ⟨rfl, ?_⟩
      · repeat (first | (with_reducible refine blk_drewN ?_ _) | (with_reducible refine blk_drew ?_) | (with_reducible refine blk_alloc ?_ _))
        with_reducible refine put5_far (q := w.heap.size + 1 + 1) ?_ (by omega) _ _ _ _ _
        with_reducible refine put5_zC (q := w.heap.size + 1) ?_ _ _ _ _ _
        repeat (first | (with_reducible exact FIVE.out.b1) | (with_reducible refine blk_drewN ?_ _) | (with_reducible refine blk_drew ?_) | (with_reducible refine blk_alloc ?_ _) | (with_reducible refine blk_far ?_ (by (try simp only); omega) _))
      · repeat (first | (with_reducible refine blk_drewN ?_ _) | (with_reducible refine blk_drew ?_) | (with_reducible refine blk_alloc ?_ _))
        with_reducible refine put5_zO (q := w.heap.size + 1 + 1) ?_ _ _ _ _ _
        with_reducible refine put5_far (q := w.heap.size + 1) ?_ (by omega) _ _ _ _ _
        repeat (first | (with_reducible exact FIVE.out.b2) | (with_reducible refine blk_drewN ?_ _) | (with_reducible refine blk_drew ?_) | (with_reducible refine blk_alloc ?_ _) | (with_reducible refine blk_far ?_ (by (try simp only); omega) _))
      · repeat (first | (with_reducible exact HB1.out) | (with_reducible refine bdrewN ?_ _) | (with_reducible refine below_drew ?_) | (with_reducible refine balloc ?_ _) | (with_reducible refine Below.setCell ?_ (by (try simp only); omega) _))
  · go_wp2_with fail
    go_quiet ((with_reducible exact Calls.quiet_of (HRE.out _)))
    have ha4 := HA.out
    have hcase : a = 0 ∨ a = 1 ∨ a = 2 ∨ a = 3 := by omega
    clear ha4 q0 q1
    rcases hcase with rfl | rfl | rfl | rfl
    · have g4_1' : w1.cell? ⟨w.heap.size + 1 + 1 + 1 + 1, 1, none⟩ = some (.int .i64 0) := g4_1
      clear g4_1
      go_wp2_with fail
      go_region
      (try simp only [Exit.then, Exit.inBlock])
      go_wp2_with fail
      have hfin : ∀ (W : World) (ts : Array Value), ts.getD 10 undef = .pointer (some ⟨w.heap.size + 1, 0, none⟩) → ts.getD 11 undef = M → ts.getD 12 undef = .pointer (some ⟨w.heap.size + 1 + 1, 0, none⟩) → W.heap[w.heap.size + 1]? = some (.cells #[.int .i64 ((k : Int) + 1), .int .i64 (v), .int .i64 (r 1), .int .i64 (r 2), .int .i64 (r 3)] 29 (0, 0)) → W.heap[w.heap.size + 1 + 1]? = some (.cells #[.int .i64 (0), .int .i64 (-1), .bool false, .bool false, .int .i64 (0)] 34 (0, 0)) → (results Tryd.f13 ts).run Tryd.prog W = .ok (.tuple #[coreV ⟨(k : Int) + 1, upd r 0 v⟩, M, outV out0]) W := fun W ts h10 h11 h12 hA hB => by
        rw [← h11]
        exact results_list (rs := [.cell 10 29, .tmp 11, .cell 12 34]) rfl (by simp) (.cell (w.heap.size + 1) 29 _ (0, 0) _ h10 hA Tryd.underlying29 rfl (by kernel_rfl) (.tmp (.cell (w.heap.size + 1 + 1) 34 _ (0, 0) _ h12 hB Tryd.underlying34 rfl (by kernel_rfl) .nil)))
      refine bodyPost_ret (hfin _ _ rfl rfl rfl ?_ ?_) rfl ⟨rfl, ?_⟩
      · repeat (first | (with_reducible refine blk_drewN ?_ _) | (with_reducible refine blk_drew ?_) | (with_reducible refine blk_alloc ?_ _))
        with_reducible refine put5_far (q := w.heap.size + 1 + 1) ?_ (by omega) _ _ _ _ _
        with_reducible refine put5_zC (q := w.heap.size + 1) ?_ _ _ _ _ _
        repeat (first | (with_reducible exact FIVE.out.b1) | (with_reducible refine blk_drewN ?_ _) | (with_reducible refine blk_drew ?_) | (with_reducible refine blk_alloc ?_ _) | (with_reducible refine blk_far ?_ (by (try simp only); omega) _))
      · repeat (first | (with_reducible refine blk_drewN ?_ _) | (with_reducible refine blk_drew ?_) | (with_reducible refine blk_alloc ?_ _))
        with_reducible refine put5_zO (q := w.heap.size + 1 + 1) ?_ _ _ _ _ _
        with_reducible refine put5_far (q := w.heap.size + 1) ?_ (by omega) _ _ _ _ _
        repeat (first | (with_reducible exact FIVE.out.b2) | (with_reducible refine blk_drewN ?_ _) | (with_reducible refine blk_drew ?_) | (with_reducible refine blk_alloc ?_ _) | (with_reducible refine blk_far ?_ (by (try simp only); omega) _))
      · repeat (first | (with_reducible exact HB1.out) | (with_reducible refine bdrewN ?_ _) | (with_reducible refine below_drew ?_) | (with_reducible refine balloc ?_ _) | (with_reducible refine Below.setCell ?_ (by (try simp only); omega) _))
    · have g4_1' : w1.cell? ⟨w.heap.size + 1 + 1 + 1 + 1, 1, none⟩ = some (.int .i64 1) := g4_1
      clear g4_1
      go_wp2_with fail
      go_region
      (try simp only [Exit.then, Exit.inBlock])
      go_wp2_with fail
      have hfin : ∀ (W : World) (ts : Array Value), ts.getD 10 undef = .pointer (some ⟨w.heap.size + 1, 0, none⟩) → ts.getD 11 undef = M → ts.getD 12 undef = .pointer (some ⟨w.heap.size + 1 + 1, 0, none⟩) → W.heap[w.heap.size + 1]? = some (.cells #[.int .i64 ((k : Int) + 1), .int .i64 (r 0), .int .i64 (v), .int .i64 (r 2), .int .i64 (r 3)] 29 (0, 0)) → W.heap[w.heap.size + 1 + 1]? = some (.cells #[.int .i64 (0), .int .i64 (-1), .bool false, .bool false, .int .i64 (0)] 34 (0, 0)) → (results Tryd.f13 ts).run Tryd.prog W = .ok (.tuple #[coreV ⟨(k : Int) + 1, upd r 1 v⟩, M, outV out0]) W := fun W ts h10 h11 h12 hA hB => by
        rw [← h11]
        exact results_list (rs := [.cell 10 29, .tmp 11, .cell 12 34]) rfl (by simp) (.cell (w.heap.size + 1) 29 _ (0, 0) _ h10 hA Tryd.underlying29 rfl (by kernel_rfl) (.tmp (.cell (w.heap.size + 1 + 1) 34 _ (0, 0) _ h12 hB Tryd.underlying34 rfl (by kernel_rfl) .nil)))
      refine bodyPost_ret (hfin _ _ rfl rfl rfl ?_ ?_) rfl ⟨rfl, ?_⟩
      · repeat (first | (with_reducible refine blk_drewN ?_ _) | (with_reducible refine blk_drew ?_) | (with_reducible refine blk_alloc ?_ _))
        with_reducible refine put5_far (q := w.heap.size + 1 + 1) ?_ (by omega) _ _ _ _ _
        with_reducible refine put5_zC (q := w.heap.size + 1) ?_ _ _ _ _ _
        repeat (first | (with_reducible exact FIVE.out.b1) | (with_reducible refine blk_drewN ?_ _) | (with_reducible refine blk_drew ?_) | (with_reducible refine blk_alloc ?_ _) | (with_reducible refine blk_far ?_ (by (try simp only); omega) _))
      · repeat (first | (with_reducible refine blk_drewN ?_ _) | (with_reducible refine blk_drew ?_) | (with_reducible refine blk_alloc ?_ _))
        with_reducible refine put5_zO (q := w.heap.size + 1 + 1) ?_ _ _ _ _ _
        with_reducible refine put5_far (q := w.heap.size + 1) ?_ (by omega) _ _ _ _ _
        repeat (first | (with_reducible exact FIVE.out.b2) | (with_reducible refine blk_drewN ?_ _) | (with_reducible refine blk_drew ?_) | (with_reducible refine blk_alloc ?_ _) | (with_reducible refine blk_far ?_ (by (try simp only); omega) _))
      · repeat (first | (with_reducible exact HB1.out) | (with_reducible refine bdrewN ?_ _) | (with_reducible refine below_drew ?_) | (with_reducible refine balloc ?_ _) | (with_reducible refine Below.setCell ?_ (by (try simp only); omega) _))
    · have g4_1' : w1.cell? ⟨w.heap.size + 1 + 1 + 1 + 1, 1, none⟩ = some (.int .i64 2) := g4_1
      clear g4_1
      go_wp2_with fail
      go_region
      (try simp only [Exit.then, Exit.inBlock])
      go_wp2_with fail
      have hfin : ∀ (W : World) (ts : Array Value), ts.getD 10 undef = .pointer (some ⟨w.heap.size + 1, 0, none⟩) → ts.getD 11 undef = M → ts.getD 12 undef = .pointer (some ⟨w.heap.size + 1 + 1, 0, none⟩) → W.heap[w.heap.size + 1]? = some (.cells #[.int .i64 ((k : Int) + 1), .int .i64 (r 0), .int .i64 (r 1), .int .i64 (v), .int .i64 (r 3)] 29 (0, 0)) → W.heap[w.heap.size + 1 + 1]? = some (.cells #[.int .i64 (0), .int .i64 (-1), .bool false, .bool false, .int .i64 (0)] 34 (0, 0)) → (results Tryd.f13 ts).run Tryd.prog W = .ok (.tuple #[coreV ⟨(k : Int) + 1, upd r 2 v⟩, M, outV out0]) W := fun W ts h10 h11 h12 hA hB => by
        rw [← h11]
        exact results_list (rs := [.cell 10 29, .tmp 11, .cell 12 34]) rfl (by simp) (.cell (w.heap.size + 1) 29 _ (0, 0) _ h10 hA Tryd.underlying29 rfl (by kernel_rfl) (.tmp (.cell (w.heap.size + 1 + 1) 34 _ (0, 0) _ h12 hB Tryd.underlying34 rfl (by kernel_rfl) .nil)))
      refine bodyPost_ret (hfin _ _ rfl rfl rfl ?_ ?_) rfl ⟨rfl, ?_⟩
      · repeat (first | (with_reducible refine blk_drewN ?_ _) | (with_reducible refine blk_drew ?_) | (with_reducible refine blk_alloc ?_ _))
        with_reducible refine put5_far (q := w.heap.size + 1 + 1) ?_ (by omega) _ _ _ _ _
        with_reducible refine put5_zC (q := w.heap.size + 1) ?_ _ _ _ _ _
        repeat (first | (with_reducible exact FIVE.out.b1) | (with_reducible refine blk_drewN ?_ _) | (with_reducible refine blk_drew ?_) | (with_reducible refine blk_alloc ?_ _) | (with_reducible refine blk_far ?_ (by (try simp only); omega) _))
      · repeat (first | (with_reducible refine blk_drewN ?_ _) | (with_reducible refine blk_drew ?_) | (with_reducible refine blk_alloc ?_ _))
        with_reducible refine put5_zO (q := w.heap.size + 1 + 1) ?_ _ _ _ _ _
        with_reducible refine put5_far (q := w.heap.size + 1) ?_ (by omega) _ _ _ _ _
        repeat (first | (with_reducible exact FIVE.out.b2) | (with_reducible refine blk_drewN ?_ _) | (with_reducible refine blk_drew ?_) | (with_reducible refine blk_alloc ?_ _) | (with_reducible refine blk_far ?_ (by (try simp only); omega) _))
      · repeat (first | (with_reducible exact HB1.out) | (with_reducible refine bdrewN ?_ _) | (with_reducible refine below_drew ?_) | (with_reducible refine balloc ?_ _) | (with_reducible refine Below.setCell ?_ (by (try simp only); omega) _))
    · have g4_1' : w1.cell? ⟨w.heap.size + 1 + 1 + 1 + 1, 1, none⟩ = some (.int .i64 3) := g4_1
      clear g4_1
      go_wp2_with fail
      go_region
      (try simp only [Exit.then, Exit.inBlock])
      go_wp2_with fail
      have hfin : ∀ (W : World) (ts : Array Value), ts.getD 10 undef = .pointer (some ⟨w.heap.size + 1, 0, none⟩) → ts.getD 11 undef = M → ts.getD 12 undef = .pointer (some ⟨w.heap.size + 1 + 1, 0, none⟩) → W.heap[w.heap.size + 1]? = some (.cells #[.int .i64 ((k : Int) + 1), .int .i64 (r 0), .int .i64 (r 1), .int .i64 (r 2), .int .i64 (v)] 29 (0, 0)) → W.heap[w.heap.size + 1 + 1]? = some (.cells #[.int .i64 (0), .int .i64 (-1), .bool false, .bool false, .int .i64 (0)] 34 (0, 0)) → (results Tryd.f13 ts).run Tryd.prog W = .ok (.tuple #[coreV ⟨(k : Int) + 1, upd r 3 v⟩, M, outV out0]) W := fun W ts h10 h11 h12 hA hB => by
        rw [← h11]
        exact results_list (rs := [.cell 10 29, .tmp 11, .cell 12 34]) rfl (by simp) (.cell (w.heap.size + 1) 29 _ (0, 0) _ h10 hA Tryd.underlying29 rfl (by kernel_rfl) (.tmp (.cell (w.heap.size + 1 + 1) 34 _ (0, 0) _ h12 hB Tryd.underlying34 rfl (by kernel_rfl) .nil)))
      refine bodyPost_ret (hfin _ _ rfl rfl rfl ?_ ?_) rfl ⟨rfl, ?_⟩
      · repeat (first | (with_reducible refine blk_drewN ?_ _) | (with_reducible refine blk_drew ?_) | (with_reducible refine blk_alloc ?_ _))
        with_reducible refine put5_far (q := w.heap.size + 1 + 1) ?_ (by omega) _ _ _ _ _
        with_reducible refine put5_zC (q := w.heap.size + 1) ?_ _ _ _ _ _
        repeat (first | (with_reducible exact FIVE.out.b1) | (with_reducible refine blk_drewN ?_ _) | (with_reducible refine blk_drew ?_) | (with_reducible refine blk_alloc ?_ _) | (with_reducible refine blk_far ?_ (by (try simp only); omega) _))
      · repeat (first | (with_reducible refine blk_drewN ?_ _) | (with_reducible refine blk_drew ?_) | (with_reducible refine blk_alloc ?_ _))
        with_reducible refine put5_zO (q := w.heap.size + 1 + 1) ?_ _ _ _ _ _
        with_reducible refine put5_far (q := w.heap.size + 1) ?_ (by omega) _ _ _ _ _
        repeat (first | (with_reducible exact FIVE.out.b2) | (with_reducible refine blk_drewN ?_ _) | (with_reducible refine blk_drew ?_) | (with_reducible refine blk_alloc ?_ _) | (with_reducible refine blk_far ?_ (by (try simp only); omega) _))
      · repeat (first | (with_reducible exact HB1.out) | (with_reducible refine bdrewN ?_ _) | (with_reducible refine below_drew ?_) | (with_reducible refine balloc ?_ _) | (with_reducible refine Below.setCell ?_ (by (try simp only); omega) _))


set_option maxHeartbeats 4000000 in
theorem ref_reck_bad (cc : Core) (A : Option Addr) (c : Nat) (code : List (Int × Int × Int)) (M L : Value) (now : Int) (w : World) (hc : CodeAt w A code) (h0 : 0 ≤ cc.pc) (h1 : cc.pc < code.length) (op : Int) (a : Nat) (b : Int)
    (hi : code.getD cc.pc.toNat zI = (op, (a : Int), b)) (hm : Instr.mayB op a b = true) (ha : a < 4) (hop : op ≠ 0 ∧ op ≠ 8 ∧ op ≠ 9 ∧ op ≠ 10 ∧ op ≠ 11 ∧ op ≠ 18 ∧ op ≠ 19) (y v f : Int) (hy : y = if 0 ≤ b ∧ b < 4 then cc.r b.toNat else 0) (hf : ¬ f = 0) (hRe : ∀ W, Calls Tryd.prog 27 #[.int .i64 op, .int .i64 (cc.r a), .int .i64 y, .int .i64 b] W fun e w' => e = .returned (.tuple #[.int .i64 v, .int .i64 f]) ∧ ∃ n, w' = W.drewN n) (hin : 0 ≤ b ∧ b < 4) :
    Calls Tryd.prog 13 #[.slice A code.length c, coreV cc, M, L, .int .i64 now] w fun e w' => e = .returned (.tuple #[coreV cc, M, outV ⟨f, -1, false, false, 0⟩]) ∧ Below w.heap.size w w' := by
  have hM : ∀ W, Calls Tryd.prog 23 #[.agg #[.int .i64 op, .int .i64 a, .int .i64 b]] W fun e w' => e = .returned (.bool true) ∧ Below W.heap.size W w' := fun W => by
    obtain ⟨k, hk⟩ := (refmay_ev op a b).rounds
    rw [hm] at hk
    exact Pr.quarterdeckref04_May.calls k _ _ _ _ W hk
  obtain ⟨k, hk⟩ : ∃ k : Nat, cc.pc = (k : Int) := ⟨cc.pc.toNat, by omega⟩
  obtain ⟨pc, r⟩ := cc
  simp only at hk h0 h1 hi
  subst hk
  rw [Int.toNat_natCast] at hi
  obtain ⟨ad, rfl, hcell⟩ := hc.2 (by omega)
  have hkl : k < code.length := by omega
  have hk64 := hc.1
  obtain ⟨a0, a1, a2⟩ := hcell k (code.getD k zI) (by rw [List.getD_eq_getElem?_getD, List.getElem?_eq_getElem hkl]; rfl)
  rw [hi] at a0 a1 a2
  have hb0 := World.block_lt_of_cell? w _ a0
  have hbc1 : (ad.add (k * 3)).block < w.heap.size + 1 := by omega
  have hbc2 : (ad.add (k * 3)).block < w.heap.size + 1 + 1 := by omega
  have hbc3 : (ad.add (k * 3)).block < w.heap.size + 1 + 1 + 1 := by omega
  have hba0 : (ad.add (k * 3)).block ≤ w.heap.size := by omega
  have hba1 : (ad.add (k * 3)).block ≤ w.heap.size + 1 := by omega
  have hba2 : (ad.add (k * 3)).block ≤ w.heap.size + 1 + 1 := by omega
  have hba3 : (ad.add (k * 3)).block ≤ w.heap.size + 1 + 1 + 1 := by omega
  have HM := Lib.hid hM
  have d1 : decide ((k : Int) < 0) = false := decide_eq_false (by omega)
  have d2 : decide ((code.length : Int) ≤ (k : Int)) = false := decide_eq_false (by omega)
  have d3 : decide (code.length ≤ k) = false := decide_eq_false (by omega)
  have HA := Lib.hid ha
  simp only at a0 a1 a2
  simp only at hRe hy
  have HRE := Lib.hid hRe
  have n0 : (op == 0) = false := by simp [hop.1]
  have n8 : (op == 8) = false := by simp [hop.2.1]
  have n9 : (op == 9) = false := by simp [hop.2.2.1]
  have n10 : (op == 10) = false := by simp [hop.2.2.2.1]
  have n11 : (op == 11) = false := by simp [hop.2.2.2.2.1]
  have n18 : (op == 18) = false := by simp [hop.2.2.2.2.2.1]
  have n19 : (op == 19) = false := by simp [hop.2.2.2.2.2.2]
  have HY := Lib.hid hy
  clear hRe hop hy
  clear hc hM hcell hi hm ha
  unfold coreV Core.cells
  go_enter Tryd.func13, Tryd.ntmps13
  go_wp2_with fail
  refine (HM.out _).mono ?_
  rintro e w1 ⟨rfl, hb⟩
  have FIVE := Lib.hid ((five_start w ⟨(k : Int), r⟩ op a b).below hb)
  have HB1 := Lib.hid (btrans (balloc (balloc (balloc (balloc (balloc (Below.refl _ _) _) _) _) _) _) hb)
  have hsz := HB1.out.size
  have g0_0 : w1.cell? ⟨w.heap.size, 0, none⟩ = some (.int .i64 ((k : Int))) := (blk_cell FIVE.out.b0 0).trans rfl
  have g0_1 : w1.cell? ⟨w.heap.size, 1, none⟩ = some (.int .i64 (r 0)) := (blk_cell FIVE.out.b0 1).trans rfl
  have g0_2 : w1.cell? ⟨w.heap.size, 2, none⟩ = some (.int .i64 (r 1)) := (blk_cell FIVE.out.b0 2).trans rfl
  have g0_3 : w1.cell? ⟨w.heap.size, 3, none⟩ = some (.int .i64 (r 2)) := (blk_cell FIVE.out.b0 3).trans rfl
  have g0_4 : w1.cell? ⟨w.heap.size, 4, none⟩ = some (.int .i64 (r 3)) := (blk_cell FIVE.out.b0 4).trans rfl
  have l0 := blk_lt FIVE.out.b0
  have g1_0 : w1.cell? ⟨w.heap.size + 1, 0, none⟩ = some (.int .i64 0) := (blk_cell FIVE.out.b1 0).trans rfl
  have g1_1 : w1.cell? ⟨w.heap.size + 1, 1, none⟩ = some (.int .i64 0) := (blk_cell FIVE.out.b1 1).trans rfl
  have g1_2 : w1.cell? ⟨w.heap.size + 1, 2, none⟩ = some (.int .i64 0) := (blk_cell FIVE.out.b1 2).trans rfl
  have g1_3 : w1.cell? ⟨w.heap.size + 1, 3, none⟩ = some (.int .i64 0) := (blk_cell FIVE.out.b1 3).trans rfl
  have g1_4 : w1.cell? ⟨w.heap.size + 1, 4, none⟩ = some (.int .i64 0) := (blk_cell FIVE.out.b1 4).trans rfl
  have z1_0 := blk_frozen FIVE.out.b1 0
  have z1_1 := blk_frozen FIVE.out.b1 1
  have z1_2 := blk_frozen FIVE.out.b1 2
  have z1_3 := blk_frozen FIVE.out.b1 3
  have z1_4 := blk_frozen FIVE.out.b1 4
  have l1 := blk_lt FIVE.out.b1
  have g2_0 : w1.cell? ⟨w.heap.size + 1 + 1, 0, none⟩ = some (.int .i64 0) := (blk_cell FIVE.out.b2 0).trans rfl
  have g2_1 : w1.cell? ⟨w.heap.size + 1 + 1, 1, none⟩ = some (.int .i64 0) := (blk_cell FIVE.out.b2 1).trans rfl
  have g2_2 : w1.cell? ⟨w.heap.size + 1 + 1, 2, none⟩ = some (.bool false) := (blk_cell FIVE.out.b2 2).trans rfl
  have g2_3 : w1.cell? ⟨w.heap.size + 1 + 1, 3, none⟩ = some (.bool false) := (blk_cell FIVE.out.b2 3).trans rfl
  have g2_4 : w1.cell? ⟨w.heap.size + 1 + 1, 4, none⟩ = some (.int .i64 0) := (blk_cell FIVE.out.b2 4).trans rfl
  have z2_0 := blk_frozen FIVE.out.b2 0
  have z2_1 := blk_frozen FIVE.out.b2 1
  have z2_2 := blk_frozen FIVE.out.b2 2
  have z2_3 := blk_frozen FIVE.out.b2 3
  have z2_4 := blk_frozen FIVE.out.b2 4
  have l2 := blk_lt FIVE.out.b2
  have g3_0 : w1.cell? ⟨w.heap.size + 1 + 1 + 1, 0, none⟩ = some (.int .i64 0) := (blk_cell FIVE.out.b3 0).trans rfl
  have g3_1 : w1.cell? ⟨w.heap.size + 1 + 1 + 1, 1, none⟩ = some (.int .i64 (-1)) := (blk_cell FIVE.out.b3 1).trans rfl
  have g3_2 : w1.cell? ⟨w.heap.size + 1 + 1 + 1, 2, none⟩ = some (.bool false) := (blk_cell FIVE.out.b3 2).trans rfl
  have g3_3 : w1.cell? ⟨w.heap.size + 1 + 1 + 1, 3, none⟩ = some (.bool false) := (blk_cell FIVE.out.b3 3).trans rfl
  have g3_4 : w1.cell? ⟨w.heap.size + 1 + 1 + 1, 4, none⟩ = some (.int .i64 0) := (blk_cell FIVE.out.b3 4).trans rfl
  have z3_0 := blk_frozen FIVE.out.b3 0
  have z3_1 := blk_frozen FIVE.out.b3 1
  have z3_2 := blk_frozen FIVE.out.b3 2
  have z3_3 := blk_frozen FIVE.out.b3 3
  have z3_4 := blk_frozen FIVE.out.b3 4
  have l3 := blk_lt FIVE.out.b3
  have g4_0 : w1.cell? ⟨w.heap.size + 1 + 1 + 1 + 1, 0, none⟩ = some (.int .i64 (op)) := (blk_cell FIVE.out.b4 0).trans rfl
  have g4_1 : w1.cell? ⟨w.heap.size + 1 + 1 + 1 + 1, 1, none⟩ = some (.int .i64 (a)) := (blk_cell FIVE.out.b4 1).trans rfl
  have g4_2 : w1.cell? ⟨w.heap.size + 1 + 1 + 1 + 1, 2, none⟩ = some (.int .i64 (b)) := (blk_cell FIVE.out.b4 2).trans rfl
  have l4 := blk_lt FIVE.out.b4
  have k0a : w.heap.size ≤ w1.heap.size := by omega
  have k0ab : w.heap.size ≤ w1.heap.size + 1 := by omega
  have k0cb : w.heap.size < w1.heap.size + 1 := by omega
  have k0d : w.heap.size < w1.heap.size := by omega
  have k1a : w.heap.size + 1 ≤ w1.heap.size := by omega
  have k1ab : w.heap.size + 1 ≤ w1.heap.size + 1 := by omega
  have k1cb : w.heap.size + 1 < w1.heap.size + 1 := by omega
  have k1d : w.heap.size + 1 < w1.heap.size := by omega
  have k2a : w.heap.size + 1 + 1 ≤ w1.heap.size := by omega
  have k2ab : w.heap.size + 1 + 1 ≤ w1.heap.size + 1 := by omega
  have k2cb : w.heap.size + 1 + 1 < w1.heap.size + 1 := by omega
  have k2d : w.heap.size + 1 + 1 < w1.heap.size := by omega
  have k3a : w.heap.size + 1 + 1 + 1 ≤ w1.heap.size := by omega
  have k3ab : w.heap.size + 1 + 1 + 1 ≤ w1.heap.size + 1 := by omega
  have k3cb : w.heap.size + 1 + 1 + 1 < w1.heap.size + 1 := by omega
  have k3d : w.heap.size + 1 + 1 + 1 < w1.heap.size := by omega
  have k4a : w.heap.size + 1 + 1 + 1 + 1 ≤ w1.heap.size := by omega
  have k4ab : w.heap.size + 1 + 1 + 1 + 1 ≤ w1.heap.size + 1 := by omega
  have k4cb : w.heap.size + 1 + 1 + 1 + 1 < w1.heap.size + 1 := by omega
  have ga : w1.cell? ⟨w.heap.size, 1 + a, none⟩ = some (.int .i64 (r a)) := (blk_cell FIVE.out.b0 _).trans (core_reg ⟨(k : Int), r⟩ a HA.out)
  have q0 : (0 : Int) ≤ (a : Int) := by omega
  have q1 : (a : Int) < 4 := by have := HA.out; omega
  clear hb a0 a1 a2 hb0 hbc1 hbc2 hbc3 hba0 hba1 hba2 hba3
  have hY := HY.out
  rw [if_pos hin] at hY
  subst hY
  obtain ⟨bn, rfl⟩ : ∃ bn : Nat, b = (bn : Int) := ⟨b.toNat, by omega⟩
  simp only [Int.toNat_natCast] at HRE HY
  have hb4 : bn < 4 := by omega
  have gb : w1.cell? ⟨w.heap.size, 1 + bn, none⟩ = some (.int .i64 (r bn)) := (blk_cell FIVE.out.b0 _).trans (core_reg ⟨(k : Int), r⟩ bn hb4)
  have p0 : decide ((0 : Int) ≤ (bn : Int)) = true := decide_eq_true (by omega)
  have p1 : decide ((bn : Int) < 4) = true := decide_eq_true (by omega)
  have p2 : (0 : Int) ≤ (bn : Int) := by omega
  have p3 : (bn : Int) < 4 := by omega
  clear hin hb4
  go_wp2_with fail
  go_quiet ((with_reducible exact Calls.quiet_of (HRE.out _)))
  have ha4 := HA.out
  have hcase : a = 0 ∨ a = 1 ∨ a = 2 ∨ a = 3 := by omega
  clear ha4 q0 q1
  rcases hcase with rfl | rfl | rfl | rfl
  · have g4_1' : w1.cell? ⟨w.heap.size + 1 + 1 + 1 + 1, 1, none⟩ = some (.int .i64 0) := g4_1
    clear g4_1
    go_wp2_with fail
    go_region
    (try simp only [Exit.then, Exit.inBlock])
    go_wp2_with fail
    have hfin : ∀ (W : World) (ts : Array Value), ts.getD 10 undef = .pointer (some ⟨w.heap.size + 1, 0, none⟩) → ts.getD 11 undef = M → ts.getD 12 undef = .pointer (some ⟨w.heap.size + 1 + 1, 0, none⟩) → W.heap[w.heap.size + 1]? = some (.cells #[.int .i64 ((k : Int)), .int .i64 (r 0), .int .i64 (r 1), .int .i64 (r 2), .int .i64 (r 3)] 29 (0, 0)) → W.heap[w.heap.size + 1 + 1]? = some (.cells #[.int .i64 (f), .int .i64 (-1), .bool false, .bool false, .int .i64 (0)] 34 (0, 0)) → (results Tryd.f13 ts).run Tryd.prog W = .ok (.tuple #[coreV ⟨(k : Int), r⟩, M, outV ⟨f, -1, false, false, 0⟩]) W := fun W ts h10 h11 h12 hA hB => by
      rw [← h11]
      exact results_list (rs := [.cell 10 29, .tmp 11, .cell 12 34]) rfl (by simp) (.cell (w.heap.size + 1) 29 _ (0, 0) _ h10 hA Tryd.underlying29 rfl (by kernel_rfl) (.tmp (.cell (w.heap.size + 1 + 1) 34 _ (0, 0) _ h12 hB Tryd.underlying34 rfl (by kernel_rfl) .nil)))
    refine bodyPost_ret (hfin _ _ rfl rfl rfl ?_ ?_) rfl ⟨rfl, ?_⟩
    · repeat (first | (with_reducible refine blk_drewN ?_ _) | (with_reducible refine blk_drew ?_) | (with_reducible refine blk_alloc ?_ _))
      with_reducible refine put5_far (q := w.heap.size + 1 + 1) ?_ (by omega) _ _ _ _ _
      with_reducible refine put5_zC (q := w.heap.size + 1) ?_ _ _ _ _ _
      repeat (first | (with_reducible exact FIVE.out.b1) | (with_reducible refine blk_drewN ?_ _) | (with_reducible refine blk_drew ?_) | (with_reducible refine blk_alloc ?_ _) | (with_reducible refine blk_far ?_ (by (try simp only); omega) _))
    · repeat (first | (with_reducible refine blk_drewN ?_ _) | (with_reducible refine blk_drew ?_) | (with_reducible refine blk_alloc ?_ _))
      with_reducible refine put5_zO (q := w.heap.size + 1 + 1) ?_ _ _ _ _ _
      with_reducible refine put5_far (q := w.heap.size + 1) ?_ (by omega) _ _ _ _ _
      repeat (first | (with_reducible exact FIVE.out.b2) | (with_reducible refine blk_drewN ?_ _) | (with_reducible refine blk_drew ?_) | (with_reducible refine blk_alloc ?_ _) | (with_reducible refine blk_far ?_ (by (try simp only); omega) _))
    · repeat (first | (with_reducible exact HB1.out) | (with_reducible refine bdrewN ?_ _) | (with_reducible refine below_drew ?_) | (with_reducible refine balloc ?_ _) | (with_reducible refine Below.setCell ?_ (by (try simp only); omega) _))
  · have g4_1' : w1.cell? ⟨w.heap.size + 1 + 1 + 1 + 1, 1, none⟩ = some (.int .i64 1) := g4_1
    clear g4_1
    go_wp2_with fail
    go_region
    (try simp only [Exit.then, Exit.inBlock])
    go_wp2_with fail
    have hfin : ∀ (W : World) (ts : Array Value), ts.getD 10 undef = .pointer (some ⟨w.heap.size + 1, 0, none⟩) → ts.getD 11 undef = M → ts.getD 12 undef = .pointer (some ⟨w.heap.size + 1 + 1, 0, none⟩) → W.heap[w.heap.size + 1]? = some (.cells #[.int .i64 ((k : Int)), .int .i64 (r 0), .int .i64 (r 1), .int .i64 (r 2), .int .i64 (r 3)] 29 (0, 0)) → W.heap[w.heap.size + 1 + 1]? = some (.cells #[.int .i64 (f), .int .i64 (-1), .bool false, .bool false, .int .i64 (0)] 34 (0, 0)) → (results Tryd.f13 ts).run Tryd.prog W = .ok (.tuple #[coreV ⟨(k : Int), r⟩, M, outV ⟨f, -1, false, false, 0⟩]) W := fun W ts h10 h11 h12 hA hB => by
      rw [← h11]
      exact results_list (rs := [.cell 10 29, .tmp 11, .cell 12 34]) rfl (by simp) (.cell (w.heap.size + 1) 29 _ (0, 0) _ h10 hA Tryd.underlying29 rfl (by kernel_rfl) (.tmp (.cell (w.heap.size + 1 + 1) 34 _ (0, 0) _ h12 hB Tryd.underlying34 rfl (by kernel_rfl) .nil)))
    refine bodyPost_ret (hfin _ _ rfl rfl rfl ?_ ?_) rfl ⟨rfl, ?_⟩
    · repeat (first | (with_reducible refine blk_drewN ?_ _) | (with_reducible refine blk_drew ?_) | (with_reducible refine blk_alloc ?_ _))
      with_reducible refine put5_far (q := w.heap.size + 1 + 1) ?_ (by omega) _ _ _ _ _
      with_reducible refine put5_zC (q := w.heap.size + 1) ?_ _ _ _ _ _
      repeat (first | (with_reducible exact FIVE.out.b1) | (with_reducible refine blk_drewN ?_ _) | (with_reducible refine blk_drew ?_) | (with_reducible refine blk_alloc ?_ _) | (with_reducible refine blk_far ?_ (by (try simp only); omega) _))
    · repeat (first | (with_reducible refine blk_drewN ?_ _) | (with_reducible refine blk_drew ?_) | (with_reducible refine blk_alloc ?_ _))
      with_reducible refine put5_zO (q := w.heap.size + 1 + 1) ?_ _ _ _ _ _
      with_reducible refine put5_far (q := w.heap.size + 1) ?_ (by omega) _ _ _ _ _
      repeat (first | (with_reducible exact FIVE.out.b2) | (with_reducible refine blk_drewN ?_ _) | (with_reducible refine blk_drew ?_) | (with_reducible refine blk_alloc ?_ _) | (with_reducible refine blk_far ?_ (by (try simp only); omega) _))
    · repeat (first | (with_reducible exact HB1.out) | (with_reducible refine bdrewN ?_ _) | (with_reducible refine below_drew ?_) | (with_reducible refine balloc ?_ _) | (with_reducible refine Below.setCell ?_ (by (try simp only); omega) _))
  · have g4_1' : w1.cell? ⟨w.heap.size + 1 + 1 + 1 + 1, 1, none⟩ = some (.int .i64 2) := g4_1
    clear g4_1
    go_wp2_with fail
    go_region
    (try simp only [Exit.then, Exit.inBlock])
    go_wp2_with fail
    have hfin : ∀ (W : World) (ts : Array Value), ts.getD 10 undef = .pointer (some ⟨w.heap.size + 1, 0, none⟩) → ts.getD 11 undef = M → ts.getD 12 undef = .pointer (some ⟨w.heap.size + 1 + 1, 0, none⟩) → W.heap[w.heap.size + 1]? = some (.cells #[.int .i64 ((k : Int)), .int .i64 (r 0), .int .i64 (r 1), .int .i64 (r 2), .int .i64 (r 3)] 29 (0, 0)) → W.heap[w.heap.size + 1 + 1]? = some (.cells #[.int .i64 (f), .int .i64 (-1), .bool false, .bool false, .int .i64 (0)] 34 (0, 0)) → (results Tryd.f13 ts).run Tryd.prog W = .ok (.tuple #[coreV ⟨(k : Int), r⟩, M, outV ⟨f, -1, false, false, 0⟩]) W := fun W ts h10 h11 h12 hA hB => by
      rw [← h11]
      exact results_list (rs := [.cell 10 29, .tmp 11, .cell 12 34]) rfl (by simp) (.cell (w.heap.size + 1) 29 _ (0, 0) _ h10 hA Tryd.underlying29 rfl (by kernel_rfl) (.tmp (.cell (w.heap.size + 1 + 1) 34 _ (0, 0) _ h12 hB Tryd.underlying34 rfl (by kernel_rfl) .nil)))
    refine bodyPost_ret (hfin _ _ rfl rfl rfl ?_ ?_) rfl ⟨rfl, ?_⟩
    · repeat (first | (with_reducible refine blk_drewN ?_ _) | (with_reducible refine blk_drew ?_) | (with_reducible refine blk_alloc ?_ _))
      with_reducible refine put5_far (q := w.heap.size + 1 + 1) ?_ (by omega) _ _ _ _ _
      with_reducible refine put5_zC (q := w.heap.size + 1) ?_ _ _ _ _ _
      repeat (first | (with_reducible exact FIVE.out.b1) | (with_reducible refine blk_drewN ?_ _) | (with_reducible refine blk_drew ?_) | (with_reducible refine blk_alloc ?_ _) | (with_reducible refine blk_far ?_ (by (try simp only); omega) _))
    · repeat (first | (with_reducible refine blk_drewN ?_ _) | (with_reducible refine blk_drew ?_) | (with_reducible refine blk_alloc ?_ _))
      with_reducible refine put5_zO (q := w.heap.size + 1 + 1) ?_ _ _ _ _ _
      with_reducible refine put5_far (q := w.heap.size + 1) ?_ (by omega) _ _ _ _ _
      repeat (first | (with_reducible exact FIVE.out.b2) | (with_reducible refine blk_drewN ?_ _) | (with_reducible refine blk_drew ?_) | (with_reducible refine blk_alloc ?_ _) | (with_reducible refine blk_far ?_ (by (try simp only); omega) _))
    · repeat (first | (with_reducible exact HB1.out) | (with_reducible refine bdrewN ?_ _) | (with_reducible refine below_drew ?_) | (with_reducible refine balloc ?_ _) | (with_reducible refine Below.setCell ?_ (by (try simp only); omega) _))
  · have g4_1' : w1.cell? ⟨w.heap.size + 1 + 1 + 1 + 1, 1, none⟩ = some (.int .i64 3) := g4_1
    clear g4_1
    go_wp2_with fail
    go_region
    (try simp only [Exit.then, Exit.inBlock])
    go_wp2_with fail
    have hfin : ∀ (W : World) (ts : Array Value), ts.getD 10 undef = .pointer (some ⟨w.heap.size + 1, 0, none⟩) → ts.getD 11 undef = M → ts.getD 12 undef = .pointer (some ⟨w.heap.size + 1 + 1, 0, none⟩) → W.heap[w.heap.size + 1]? = some (.cells #[.int .i64 ((k : Int)), .int .i64 (r 0), .int .i64 (r 1), .int .i64 (r 2), .int .i64 (r 3)] 29 (0, 0)) → W.heap[w.heap.size + 1 + 1]? = some (.cells #[.int .i64 (f), .int .i64 (-1), .bool false, .bool false, .int .i64 (0)] 34 (0, 0)) → (results Tryd.f13 ts).run Tryd.prog W = .ok (.tuple #[coreV ⟨(k : Int), r⟩, M, outV ⟨f, -1, false, false, 0⟩]) W := fun W ts h10 h11 h12 hA hB => by
      rw [← h11]
      exact results_list (rs := [.cell 10 29, .tmp 11, .cell 12 34]) rfl (by simp) (.cell (w.heap.size + 1) 29 _ (0, 0) _ h10 hA Tryd.underlying29 rfl (by kernel_rfl) (.tmp (.cell (w.heap.size + 1 + 1) 34 _ (0, 0) _ h12 hB Tryd.underlying34 rfl (by kernel_rfl) .nil)))
    refine bodyPost_ret (hfin _ _ rfl rfl rfl ?_ ?_) rfl ⟨rfl, ?_⟩
    · repeat (first | (with_reducible refine blk_drewN ?_ _) | (with_reducible refine blk_drew ?_) | (with_reducible refine blk_alloc ?_ _))
      with_reducible refine put5_far (q := w.heap.size + 1 + 1) ?_ (by omega) _ _ _ _ _
      with_reducible refine put5_zC (q := w.heap.size + 1) ?_ _ _ _ _ _
      repeat (first | (with_reducible exact FIVE.out.b1) | (with_reducible refine blk_drewN ?_ _) | (with_reducible refine blk_drew ?_) | (with_reducible refine blk_alloc ?_ _) | (with_reducible refine blk_far ?_ (by (try simp only); omega) _))
    · repeat (first | (with_reducible refine blk_drewN ?_ _) | (with_reducible refine blk_drew ?_) | (with_reducible refine blk_alloc ?_ _))
      with_reducible refine put5_zO (q := w.heap.size + 1 + 1) ?_ _ _ _ _ _
      with_reducible refine put5_far (q := w.heap.size + 1) ?_ (by omega) _ _ _ _ _
      repeat (first | (with_reducible exact FIVE.out.b2) | (with_reducible refine blk_drewN ?_ _) | (with_reducible refine blk_drew ?_) | (with_reducible refine blk_alloc ?_ _) | (with_reducible refine blk_far ?_ (by (try simp only); omega) _))
    · repeat (first | (with_reducible exact HB1.out) | (with_reducible refine bdrewN ?_ _) | (with_reducible refine below_drew ?_) | (with_reducible refine balloc ?_ _) | (with_reducible refine Below.setCell ?_ (by (try simp only); omega) _))

end Go.Proofs.YtlphgnfjemaliaaDoor.RefStep

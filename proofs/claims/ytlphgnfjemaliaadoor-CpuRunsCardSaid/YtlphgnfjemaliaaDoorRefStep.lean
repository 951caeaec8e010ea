/-
  quarterdeckref05.Step walked: what it answers, way by way.
  Conditions: the arguments lie in memory as told; the callees' contracts are handed in.
-/
import Derived.Test.YtlphgnfjemaliaaDoorCpuL
import Derived.Test.YtlphgnfjemaliaaDoorPureC
import Derived.BigRegion
namespace Go.Proofs.YtlphgnfjemaliaaDoor.RefStep
set_option maxRecDepth 100000
set_option linter.unusedVariables false
set_option linter.unusedSimpArgs false
open Go.RowKit Go.Proofs.YtlphgnfjemaliaaDoorW.PrintWords Go.Proofs.YtlphgnfjemaliaaDoor.Mem Go.Proofs.YtlphgnfjemaliaaDoor.CpuA Go.Proofs.YtlphgnfjemaliaaDoor.CpuB Go.Proofs.YtlphgnfjemaliaaDoor.CpuC Go.Proofs.YtlphgnfjemaliaaDoor.CpuS Go.Proofs.YtlphgnfjemaliaaDoor.CpuL Go.Proofs.YtlphgnfjemaliaaDoor.PureC

theorem core_reg (c : Core) (a : Nat) (ha : a < 4) : c.cells[1 + a]? = some (.int .i64 (c.r a)) := by
  match a, ha with
  | 0, _ => rfl
  | 1, _ => rfl
  | 2, _ => rfl
  | 3, _ => rfl
def out0 : Outc := ⟨0, -1, false, false, 0⟩
theorem h_drew (w : World) (k : Nat) : w.drew.heap[k]? = w.heap[k]? := rfl
theorem h_drewN (w : World) (n k : Nat) : (w.drewN n).heap[k]? = w.heap[k]? := rfl
theorem put5_zC {W : World} {q : Nat} {t : TypeId} (h : W.heap[q]? = some (.cells zeroC t (0, 0))) (a b c d e : Value) :
    (((((W.setCell ⟨q, 0, none⟩ a).setCell ⟨q, 1, none⟩ b).setCell ⟨q, 2, none⟩ c).setCell ⟨q, 3, none⟩ d).setCell ⟨q, 4, none⟩ e).heap[q]? = some (.cells #[a, b, c, d, e] t (0, 0)) :=
  blk_put (blk_put (blk_put (blk_put (blk_put h 0 a rfl) 1 b rfl) 2 c rfl) 3 d rfl) 4 e rfl
theorem put5_zO {W : World} {q : Nat} {t : TypeId} (h : W.heap[q]? = some (.cells zeroO t (0, 0))) (a b c d e : Value) :
    (((((W.setCell ⟨q, 0, none⟩ a).setCell ⟨q, 1, none⟩ b).setCell ⟨q, 2, none⟩ c).setCell ⟨q, 3, none⟩ d).setCell ⟨q, 4, none⟩ e).heap[q]? = some (.cells #[a, b, c, d, e] t (0, 0)) :=
  blk_put (blk_put (blk_put (blk_put (blk_put h 0 a rfl) 1 b rfl) 2 c rfl) 3 d rfl) 4 e rfl
theorem put5_far {W : World} {q k : Nat} {t : TypeId} {cs : Array Value} (h : W.heap[k]? = some (.cells cs t (0, 0))) (hk : k ≠ q) (a b c d e : Value) :
    (((((W.setCell ⟨q, 0, none⟩ a).setCell ⟨q, 1, none⟩ b).setCell ⟨q, 2, none⟩ c).setCell ⟨q, 3, none⟩ d).setCell ⟨q, 4, none⟩ e).heap[k]? = some (.cells cs t (0, 0)) :=
  blk_far (blk_far (blk_far (blk_far (blk_far h hk a) hk b) hk c) hk d) hk e
/-- The five blocks that a step of the reference begins with. -/
structure Five (w : World) (s : Nat) (c : Core) (op a b : Int) : Prop where
  b0 : w.heap[s]? = some (.cells c.cells 29 (0, 0))
  b1 : w.heap[s + 1]? = some (.cells zeroC 29 (0, 0))
  b2 : w.heap[s + 1 + 1]? = some (.cells zeroO 34 (0, 0))
  b3 : w.heap[s + 1 + 1 + 1]? = some (.cells out0.cells 34 (0, 0))
  b4 : w.heap[s + 1 + 1 + 1 + 1]? = some (.cells #[.int .i64 op, .int .i64 a, .int .i64 b] 31 (0, 0))
theorem Five.below {w w1 : World} {s : Nat} {c : Core} {op a b : Int} (h : Five w s c op a b) (hb : Below w.heap.size w w1) : Five w1 s c op a b := ⟨blk_below h.b0 hb, blk_below h.b1 hb, blk_below h.b2 hb, blk_below h.b3 hb, blk_below h.b4 hb⟩
theorem five_start (w : World) (c : Core) (op a b : Int) : Five (((((w.alloc (.cells c.cells 29)).alloc (.cells zeroC 29)).alloc (.cells zeroO 34)).alloc (.cells out0.cells 34)).alloc (.cells #[.int .i64 op, .int .i64 a, .int .i64 b] 31)) w.heap.size c op a b := by
  refine ⟨blk_alloc (blk_alloc (three_new1 w _ _ _) _) _, blk_alloc (blk_alloc (three_new2 w _ _ _) _) _, blk_alloc (blk_alloc (three_new3 w _ _ _) _) _, blk_alloc ?_ _, ?_⟩
  · have h := blk_new (((w.alloc (.cells c.cells 29)).alloc (.cells zeroC 29)).alloc (.cells zeroO 34)) (.cells out0.cells 34)
    rw [alloc_size, alloc_size, alloc_size] at h
    exact h
  · have h := blk_new ((((w.alloc (.cells c.cells 29)).alloc (.cells zeroC 29)).alloc (.cells zeroO 34)).alloc (.cells out0.cells 34)) (.cells #[.int .i64 op, .int .i64 a, .int .i64 b] 31)
    rw [alloc_size, alloc_size, alloc_size, alloc_size] at h
    exact h


theorem rwrong_zero (w : World) : Calls Tryd.prog 25 #[.int .i64 0] w fun e w' => e = .returned (.int .i64 0) ∧ ∃ n, w' = w.drewN n :=
  (Pr.quarterdeckref05_wrong.calls 0 0 w rfl).mono fun e w' ⟨h, ⟨n, h2⟩⟩ => ⟨h, n, h2⟩
theorem rwrong_non (f : Int) (hf : ¬ f = 0) (w : World) : Calls Tryd.prog 25 #[.int .i64 f] w fun e w' => e = .returned (.int .i64 5) ∧ ∃ n, w' = w.drewN n :=
  (Pr.quarterdeckref05_wrong.calls f 5 w (by unfold Pr.quarterdeckref05_wrong.f; rw [if_neg hf])).mono fun e w' ⟨h, ⟨n, h2⟩⟩ => ⟨h, n, h2⟩


/-- A block that lies there behind stores into it is found by its cells. -/
theorem blk_eq {w : World} {q : Nat} {cs cs' : Array Value} {t : TypeId} (h : w.heap[q]? = some (.cells cs t (0, 0))) (e : cs = cs') : w.heap[q]? = some (.cells cs' t (0, 0)) := e ▸ h


set_option maxHeartbeats 2000000 in
theorem ref_low (cc : Core) (A : Option Addr) (n c : Nat) (M : Value) (L : Value) (now : Int) (w : World) (hp : cc.pc < 0 ∨ (n : Int) ≤ cc.pc) :
    Calls Tryd.prog 13 #[.slice A n c, coreV cc, M, L, .int .i64 now] w fun e w' => e = .returned (.tuple #[coreV cc, M, outV ⟨4, -1, false, false, 0⟩]) ∧ Below w.heap.size w w' := by
  unfold coreV Core.cells
  by_cases hn : cc.pc < 0
  · have d1 : decide (cc.pc < 0) = true := decide_eq_true hn
    clear hp hn
    go_enter Tryd.func13, Tryd.ntmps13
    go_wp2_with fail
    go_region
    (try simp only [Exit.then, Exit.inBlock])
    go_wp2_with fail
    have hfin : ∀ (W : World) (ts : Array Value), ts.getD 10 undef = .pointer (some ⟨w.heap.size + 1, 0, none⟩) → ts.getD 11 undef = M → ts.getD 12 undef = .pointer (some ⟨w.heap.size + 1 + 1, 0, none⟩) → W.heap[w.heap.size + 1]? = some (.cells #[.int .i64 (cc.pc), .int .i64 (cc.r 0), .int .i64 (cc.r 1), .int .i64 (cc.r 2), .int .i64 (cc.r 3)] 29 (0, 0)) → W.heap[w.heap.size + 1 + 1]? = some (.cells #[.int .i64 (4), .int .i64 (-1), .bool false, .bool false, .int .i64 (0)] 34 (0, 0)) → (results Tryd.f13 ts).run Tryd.prog W = .ok (.tuple #[coreV cc, M, outV ⟨4, -1, false, false, 0⟩]) W := fun W ts h10 h11 h12 hA hB => by
      rw [← h11]
      exact results_list (rs := [.cell 10 29, .tmp 11, .cell 12 34]) rfl (by simp) (.cell (w.heap.size + 1) 29 _ (0, 0) _ h10 hA Tryd.underlying29 rfl (by kernel_rfl) (.tmp (.cell (w.heap.size + 1 + 1) 34 _ (0, 0) _ h12 hB Tryd.underlying34 rfl (by kernel_rfl) .nil)))
    refine bodyPost_ret (hfin _ _ rfl rfl rfl ?_ ?_) rfl ⟨rfl, ?_⟩
    · exact blk_drew (blk_alloc ((three_new2 w _ _ _)) _)
    · exact blk_drew (blk_alloc ((three_new3 w _ _ _)) _)
    · repeat (first | (with_reducible exact (Below.refl _ _)) | (with_reducible refine bdrewN ?_ _) | (with_reducible refine below_drew ?_) | (with_reducible refine balloc ?_ _) | (with_reducible refine Below.setCell ?_ (by (try simp only); omega) _))
  · have d1 : decide (cc.pc < 0) = false := decide_eq_false hn
    have d2 : decide ((n : Int) ≤ cc.pc) = true := decide_eq_true (by omega)
    clear hp hn
    go_enter Tryd.func13, Tryd.ntmps13
    go_wp2_with fail
    go_region
    (try simp only [Exit.then, Exit.inBlock])
    go_wp2_with fail
    have hfin : ∀ (W : World) (ts : Array Value), ts.getD 10 undef = .pointer (some ⟨w.heap.size + 1, 0, none⟩) → ts.getD 11 undef = M → ts.getD 12 undef = .pointer (some ⟨w.heap.size + 1 + 1, 0, none⟩) → W.heap[w.heap.size + 1]? = some (.cells #[.int .i64 (cc.pc), .int .i64 (cc.r 0), .int .i64 (cc.r 1), .int .i64 (cc.r 2), .int .i64 (cc.r 3)] 29 (0, 0)) → W.heap[w.heap.size + 1 + 1]? = some (.cells #[.int .i64 (4), .int .i64 (-1), .bool false, .bool false, .int .i64 (0)] 34 (0, 0)) → (results Tryd.f13 ts).run Tryd.prog W = .ok (.tuple #[coreV cc, M, outV ⟨4, -1, false, false, 0⟩]) W := fun W ts h10 h11 h12 hA hB => by
      rw [← h11]
      exact results_list (rs := [.cell 10 29, .tmp 11, .cell 12 34]) rfl (by simp) (.cell (w.heap.size + 1) 29 _ (0, 0) _ h10 hA Tryd.underlying29 rfl (by kernel_rfl) (.tmp (.cell (w.heap.size + 1 + 1) 34 _ (0, 0) _ h12 hB Tryd.underlying34 rfl (by kernel_rfl) .nil)))
    refine bodyPost_ret (hfin _ _ rfl rfl rfl ?_ ?_) rfl ⟨rfl, ?_⟩
    · exact blk_drew (blk_alloc ((three_new2 w _ _ _)) _)
    · exact blk_drew (blk_alloc ((three_new3 w _ _ _)) _)
    · repeat (first | (with_reducible exact (Below.refl _ _)) | (with_reducible refine bdrewN ?_ _) | (with_reducible refine below_drew ?_) | (with_reducible refine balloc ?_ _) | (with_reducible refine Below.setCell ?_ (by (try simp only); omega) _))


set_option maxHeartbeats 4000000 in
theorem ref_no (cc : Core) (A : Option Addr) (c : Nat) (code : List (Int × Int × Int)) (M L : Value) (now : Int) (w : World) (hc : CodeAt w A code) (h0 : 0 ≤ cc.pc) (h1 : cc.pc < code.length) (op : Int) (a : Int) (b : Int)
    (hi : code.getD cc.pc.toNat zI = (op, (a : Int), b)) (hm : Instr.mayB op a b = false) :
    Calls Tryd.prog 13 #[.slice A code.length c, coreV cc, M, L, .int .i64 now] w fun e w' => e = .returned (.tuple #[coreV cc, M, outV ⟨4, -1, false, false, 0⟩]) ∧ Below w.heap.size w w' := by
  have hM : ∀ W, Calls Tryd.prog 23 #[.agg #[.int .i64 op, .int .i64 a, .int .i64 b]] W fun e w' => e = .returned (.bool false) ∧ Below W.heap.size W w' := fun W => by
    obtain ⟨k, hk⟩ := (refmay_ev op a b).rounds
    rw [hm] at hk
    exact Pr.quarterdeckref04_May.calls k _ _ _ _ W hk
  obtain ⟨k, hk⟩ : ∃ k : Nat, cc.pc = (k : Int) := ⟨cc.pc.toNat, by omega⟩
  obtain ⟨pc, r⟩ := cc
  simp only at hk h0 h1 hi
  subst hk
  rw [Int.toNat_natCast] at hi
  obtain ⟨ad, rfl, hcell⟩ := hc.2 (by omega)
  have hkl : k < code.length := by omega
  have hk64 := hc.1
  obtain ⟨a0, a1, a2⟩ := hcell k (code.getD k zI) (by rw [List.getD_eq_getElem?_getD, List.getElem?_eq_getElem hkl]; rfl)
  rw [hi] at a0 a1 a2
  have hb0 := World.block_lt_of_cell? w _ a0
  have hbc1 : (ad.add (k * 3)).block < w.heap.size + 1 := by omega
  have hbc2 : (ad.add (k * 3)).block < w.heap.size + 1 + 1 := by omega
  have hbc3 : (ad.add (k * 3)).block < w.heap.size + 1 + 1 + 1 := by omega
  have hba0 : (ad.add (k * 3)).block ≤ w.heap.size := by omega
  have hba1 : (ad.add (k * 3)).block ≤ w.heap.size + 1 := by omega
  have hba2 : (ad.add (k * 3)).block ≤ w.heap.size + 1 + 1 := by omega
  have hba3 : (ad.add (k * 3)).block ≤ w.heap.size + 1 + 1 + 1 := by omega
  have HM := Lib.hid hM
  have d1 : decide ((k : Int) < 0) = false := decide_eq_false (by omega)
  have d2 : decide ((code.length : Int) ≤ (k : Int)) = false := decide_eq_false (by omega)
  have d3 : decide (code.length ≤ k) = false := decide_eq_false (by omega)
  simp only at a0 a1 a2
  clear hc hM hcell hi hm
  unfold coreV Core.cells
  go_enter Tryd.func13, Tryd.ntmps13
  go_wp2_with fail
  refine (HM.out _).mono ?_
  rintro e w1 ⟨rfl, hb⟩
  have FIVE := Lib.hid ((five_start w ⟨(k : Int), r⟩ op a b).below hb)
  have HB1 := Lib.hid (btrans (balloc (balloc (balloc (balloc (balloc (Below.refl _ _) _) _) _) _) _) hb)
  have hsz := HB1.out.size
  have g0_0 : w1.cell? ⟨w.heap.size, 0, none⟩ = some (.int .i64 ((k : Int))) := (blk_cell FIVE.out.b0 0).trans rfl
  have g0_1 : w1.cell? ⟨w.heap.size, 1, none⟩ = some (.int .i64 (r 0)) := (blk_cell FIVE.out.b0 1).trans rfl
  have g0_2 : w1.cell? ⟨w.heap.size, 2, none⟩ = some (.int .i64 (r 1)) := (blk_cell FIVE.out.b0 2).trans rfl
  have g0_3 : w1.cell? ⟨w.heap.size, 3, none⟩ = some (.int .i64 (r 2)) := (blk_cell FIVE.out.b0 3).trans rfl
  have g0_4 : w1.cell? ⟨w.heap.size, 4, none⟩ = some (.int .i64 (r 3)) := (blk_cell FIVE.out.b0 4).trans rfl
  have l0 := blk_lt FIVE.out.b0
  have g1_0 : w1.cell? ⟨w.heap.size + 1, 0, none⟩ = some (.int .i64 0) := (blk_cell FIVE.out.b1 0).trans rfl
  have g1_1 : w1.cell? ⟨w.heap.size + 1, 1, none⟩ = some (.int .i64 0) := (blk_cell FIVE.out.b1 1).trans rfl
  have g1_2 : w1.cell? ⟨w.heap.size + 1, 2, none⟩ = some (.int .i64 0) := (blk_cell FIVE.out.b1 2).trans rfl
  have g1_3 : w1.cell? ⟨w.heap.size + 1, 3, none⟩ = some (.int .i64 0) := (blk_cell FIVE.out.b1 3).trans rfl
  have g1_4 : w1.cell? ⟨w.heap.size + 1, 4, none⟩ = some (.int .i64 0) := (blk_cell FIVE.out.b1 4).trans rfl
  have z1_0 := blk_frozen FIVE.out.b1 0
  have z1_1 := blk_frozen FIVE.out.b1 1
  have z1_2 := blk_frozen FIVE.out.b1 2
  have z1_3 := blk_frozen FIVE.out.b1 3
  have z1_4 := blk_frozen FIVE.out.b1 4
  have l1 := blk_lt FIVE.out.b1
  have g2_0 : w1.cell? ⟨w.heap.size + 1 + 1, 0, none⟩ = some (.int .i64 0) := (blk_cell FIVE.out.b2 0).trans rfl
  have g2_1 : w1.cell? ⟨w.heap.size + 1 + 1, 1, none⟩ = some (.int .i64 0) := (blk_cell FIVE.out.b2 1).trans rfl
  have g2_2 : w1.cell? ⟨w.heap.size + 1 + 1, 2, none⟩ = some (.bool false) := (blk_cell FIVE.out.b2 2).trans rfl
  have g2_3 : w1.cell? ⟨w.heap.size + 1 + 1, 3, none⟩ = some (.bool false) := (blk_cell FIVE.out.b2 3).trans rfl
  have g2_4 : w1.cell? ⟨w.heap.size + 1 + 1, 4, none⟩ = some (.int .i64 0) := (blk_cell FIVE.out.b2 4).trans rfl
  have z2_0 := blk_frozen FIVE.out.b2 0
  have z2_1 := blk_frozen FIVE.out.b2 1
  have z2_2 := blk_frozen FIVE.out.b2 2
  have z2_3 := blk_frozen FIVE.out.b2 3
  have z2_4 := blk_frozen FIVE.out.b2 4
  have l2 := blk_lt FIVE.out.b2
  have g3_0 : w1.cell? ⟨w.heap.size + 1 + 1 + 1, 0, none⟩ = some (.int .i64 0) := (blk_cell FIVE.out.b3 0).trans rfl
  have g3_1 : w1.cell? ⟨w.heap.size + 1 + 1 + 1, 1, none⟩ = some (.int .i64 (-1)) := (blk_cell FIVE.out.b3 1).trans rfl
  have g3_2 : w1.cell? ⟨w.heap.size + 1 + 1 + 1, 2, none⟩ = some (.bool false) := (blk_cell FIVE.out.b3 2).trans rfl
  have g3_3 : w1.cell? ⟨w.heap.size + 1 + 1 + 1, 3, none⟩ = some (.bool false) := (blk_cell FIVE.out.b3 3).trans rfl
  have g3_4 : w1.cell? ⟨w.heap.size + 1 + 1 + 1, 4, none⟩ = some (.int .i64 0) := (blk_cell FIVE.out.b3 4).trans rfl
  have z3_0 := blk_frozen FIVE.out.b3 0
  have z3_1 := blk_frozen FIVE.out.b3 1
  have z3_2 := blk_frozen FIVE.out.b3 2
  have z3_3 := blk_frozen FIVE.out.b3 3
  have z3_4 := blk_frozen FIVE.out.b3 4
  have l3 := blk_lt FIVE.out.b3
  have g4_0 : w1.cell? ⟨w.heap.size + 1 + 1 + 1 + 1, 0, none⟩ = some (.int .i64 (op)) := (blk_cell FIVE.out.b4 0).trans rfl
  have g4_1 : w1.cell? ⟨w.heap.size + 1 + 1 + 1 + 1, 1, none⟩ = some (.int .i64 (a)) := (blk_cell FIVE.out.b4 1).trans rfl
  have g4_2 : w1.cell? ⟨w.heap.size + 1 + 1 + 1 + 1, 2, none⟩ = some (.int .i64 (b)) := (blk_cell FIVE.out.b4 2).trans rfl
  have l4 := blk_lt FIVE.out.b4
  have k0a : w.heap.size ≤ w1.heap.size := by omega
  have k0ab : w.heap.size ≤ w1.heap.size + 1 := by omega
  have k0cb : w.heap.size < w1.heap.size + 1 := by omega
  have k0d : w.heap.size < w1.heap.size := by omega
  have k1a : w.heap.size + 1 ≤ w1.heap.size := by omega
  have k1ab : w.heap.size + 1 ≤ w1.heap.size + 1 := by omega
  have k1cb : w.heap.size + 1 < w1.heap.size + 1 := by omega
  have k1d : w.heap.size + 1 < w1.heap.size := by omega
  have k2a : w.heap.size + 1 + 1 ≤ w1.heap.size := by omega
  have k2ab : w.heap.size + 1 + 1 ≤ w1.heap.size + 1 := by omega
  have k2cb : w.heap.size + 1 + 1 < w1.heap.size + 1 := by omega
  have k2d : w.heap.size + 1 + 1 < w1.heap.size := by omega
  have k3a : w.heap.size + 1 + 1 + 1 ≤ w1.heap.size := by omega
  have k3ab : w.heap.size + 1 + 1 + 1 ≤ w1.heap.size + 1 := by omega
  have k3cb : w.heap.size + 1 + 1 + 1 < w1.heap.size + 1 := by omega
  have k3d : w.heap.size + 1 + 1 + 1 < w1.heap.size := by omega
  have k4a : w.heap.size + 1 + 1 + 1 + 1 ≤ w1.heap.size := by omega
  have k4ab : w.heap.size + 1 + 1 + 1 + 1 ≤ w1.heap.size + 1 := by omega
  have k4cb : w.heap.size + 1 + 1 + 1 + 1 < w1.heap.size + 1 := by omega
  clear hb a0 a1 a2 hb0 hbc1 hbc2 hbc3 hba0 hba1 hba2 hba3
  go_wp2_with fail
  go_region
  (try simp only [Exit.then, Exit.inBlock])
  go_wp2_with fail
  have hfin : ∀ (W : World) (ts : Array Value), ts.getD 10 undef = .pointer (some ⟨w.heap.size + 1, 0, none⟩) → ts.getD 11 undef = M → ts.getD 12 undef = .pointer (some ⟨w.heap.size + 1 + 1, 0, none⟩) → W.heap[w.heap.size + 1]? = some (.cells #[.int .i64 ((k : Int)), .int .i64 (r 0), .int .i64 (r 1), .int .i64 (r 2), .int .i64 (r 3)] 29 (0, 0)) → W.heap[w.heap.size + 1 + 1]? = some (.cells #[.int .i64 (4), .int .i64 (-1), .bool false, .bool false, .int .i64 (0)] 34 (0, 0)) → (results Tryd.f13 ts).run Tryd.prog W = .ok (.tuple #[coreV ⟨(k : Int), r⟩, M, outV ⟨4, -1, false, false, 0⟩]) W := fun W ts h10 h11 h12 hA hB => by
    rw [← h11]
    exact results_list (rs := [.cell 10 29, .tmp 11, .cell 12 34]) rfl (by simp) (.cell (w.heap.size + 1) 29 _ (0, 0) _ h10 hA Tryd.underlying29 rfl (by kernel_rfl) (.tmp (.cell (w.heap.size + 1 + 1) 34 _ (0, 0) _ h12 hB Tryd.underlying34 rfl (by kernel_rfl) .nil)))
  refine bodyPost_ret (hfin _ _ rfl rfl rfl ?_ ?_) rfl ⟨rfl, ?_⟩
  · repeat (first | (with_reducible refine blk_drewN ?_ _) | (with_reducible refine blk_drew ?_) | (with_reducible refine blk_alloc ?_ _))
    with_reducible refine put5_far (q := w.heap.size + 1 + 1) ?_ (by omega) _ _ _ _ _
    with_reducible refine put5_zC (q := w.heap.size + 1) ?_ _ _ _ _ _
    repeat (first | (with_reducible exact FIVE.out.b1) | (with_reducible refine blk_drewN ?_ _) | (with_reducible refine blk_drew ?_) | (with_reducible refine blk_alloc ?_ _) | (with_reducible refine blk_far ?_ (by (try simp only); omega) _))
  · repeat (first | (with_reducible refine blk_drewN ?_ _) | (with_reducible refine blk_drew ?_) | (with_reducible refine blk_alloc ?_ _))
    with_reducible refine put5_zO (q := w.heap.size + 1 + 1) ?_ _ _ _ _ _
    with_reducible refine put5_far (q := w.heap.size + 1) ?_ (by omega) _ _ _ _ _
    repeat (first | (with_reducible exact FIVE.out.b2) | (with_reducible refine blk_drewN ?_ _) | (with_reducible refine blk_drew ?_) | (with_reducible refine blk_alloc ?_ _) | (with_reducible refine blk_far ?_ (by (try simp only); omega) _))
  · repeat (first | (with_reducible exact HB1.out) | (with_reducible refine bdrewN ?_ _) | (with_reducible refine below_drew ?_) | (with_reducible refine balloc ?_ _) | (with_reducible refine Below.setCell ?_ (by (try simp only); omega) _))


set_option maxHeartbeats 4000000 in
theorem ref_halt (cc : Core) (A : Option Addr) (c : Nat) (code : List (Int × Int × Int)) (M L : Value) (now : Int) (w : World) (hc : CodeAt w A code) (h0 : 0 ≤ cc.pc) (h1 : cc.pc < code.length) (op : Int) (a : Nat) (b : Int)
    (hi : code.getD cc.pc.toNat zI = (op, (a : Int), b)) (hm : Instr.mayB op a b = true) (ha : a < 4) (ho : op = 0) :
    Calls Tryd.prog 13 #[.slice A code.length c, coreV cc, M, L, .int .i64 now] w fun e w' => e = .returned (.tuple #[coreV cc, M, outV ⟨0, -1, true, false, 0⟩]) ∧ Below w.heap.size w w' := by
  subst ho
  have hM : ∀ W, Calls Tryd.prog 23 #[.agg #[.int .i64 0, .int .i64 a, .int .i64 b]] W fun e w' => e = .returned (.bool true) ∧ Below W.heap.size W w' := fun W => by
    obtain ⟨k, hk⟩ := (refmay_ev 0 a b).rounds
    rw [hm] at hk
    exact Pr.quarterdeckref04_May.calls k _ _ _ _ W hk
  obtain ⟨k, hk⟩ : ∃ k : Nat, cc.pc = (k : Int) := ⟨cc.pc.toNat, by omega⟩
  obtain ⟨pc, r⟩ := cc
  simp only at hk h0 h1 hi
  subst hk
  rw [Int.toNat_natCast] at hi
  obtain ⟨ad, rfl, hcell⟩ := hc.2 (by omega)
  have hkl : k < code.length := by omega
  have hk64 := hc.1
  obtain ⟨a0, a1, a2⟩ := hcell k (code.getD k zI) (by rw [List.getD_eq_getElem?_getD, List.getElem?_eq_getElem hkl]; rfl)
  rw [hi] at a0 a1 a2
  have hb0 := World.block_lt_of_cell? w _ a0
  have hbc1 : (ad.add (k * 3)).block < w.heap.size + 1 := by omega
  have hbc2 : (ad.add (k * 3)).block < w.heap.size + 1 + 1 := by omega
  have hbc3 : (ad.add (k * 3)).block < w.heap.size + 1 + 1 + 1 := by omega
  have hba0 : (ad.add (k * 3)).block ≤ w.heap.size := by omega
  have hba1 : (ad.add (k * 3)).block ≤ w.heap.size + 1 := by omega
  have hba2 : (ad.add (k * 3)).block ≤ w.heap.size + 1 + 1 := by omega
  have hba3 : (ad.add (k * 3)).block ≤ w.heap.size + 1 + 1 + 1 := by omega
  have HM := Lib.hid hM
  have d1 : decide ((k : Int) < 0) = false := decide_eq_false (by omega)
  have d2 : decide ((code.length : Int) ≤ (k : Int)) = false := decide_eq_false (by omega)
  have d3 : decide (code.length ≤ k) = false := decide_eq_false (by omega)
  have HA := Lib.hid ha
  simp only at a0 a1 a2
  clear hc hM hcell hi hm ha
  unfold coreV Core.cells
  go_enter Tryd.func13, Tryd.ntmps13
  go_wp2_with fail
  refine (HM.out _).mono ?_
  rintro e w1 ⟨rfl, hb⟩
  have FIVE := Lib.hid ((five_start w ⟨(k : Int), r⟩ 0 a b).below hb)
  have HB1 := Lib.hid (btrans (balloc (balloc (balloc (balloc (balloc (Below.refl _ _) _) _) _) _) _) hb)
  have hsz := HB1.out.size
  have g0_0 : w1.cell? ⟨w.heap.size, 0, none⟩ = some (.int .i64 ((k : Int))) := (blk_cell FIVE.out.b0 0).trans rfl
  have g0_1 : w1.cell? ⟨w.heap.size, 1, none⟩ = some (.int .i64 (r 0)) := (blk_cell FIVE.out.b0 1).trans rfl
  have g0_2 : w1.cell? ⟨w.heap.size, 2, none⟩ = some (.int .i64 (r 1)) := (blk_cell FIVE.out.b0 2).trans rfl
  have g0_3 : w1.cell? ⟨w.heap.size, 3, none⟩ = some (.int .i64 (r 2)) := (blk_cell FIVE.out.b0 3).trans rfl
  have g0_4 : w1.cell? ⟨w.heap.size, 4, none⟩ = some (.int .i64 (r 3)) := (blk_cell FIVE.out.b0 4).trans rfl
  have l0 := blk_lt FIVE.out.b0
  have g1_0 : w1.cell? ⟨w.heap.size + 1, 0, none⟩ = some (.int .i64 0) := (blk_cell FIVE.out.b1 0).trans rfl
  have g1_1 : w1.cell? ⟨w.heap.size + 1, 1, none⟩ = some (.int .i64 0) := (blk_cell FIVE.out.b1 1).trans rfl
  have g1_2 : w1.cell? ⟨w.heap.size + 1, 2, none⟩ = some (.int .i64 0) := (blk_cell FIVE.out.b1 2).trans rfl
  have g1_3 : w1.cell? ⟨w.heap.size + 1, 3, none⟩ = some (.int .i64 0) := (blk_cell FIVE.out.b1 3).trans rfl
  have g1_4 : w1.cell? ⟨w.heap.size + 1, 4, none⟩ = some (.int .i64 0) := (blk_cell FIVE.out.b1 4).trans rfl
  have z1_0 := blk_frozen FIVE.out.b1 0
  have z1_1 := blk_frozen FIVE.out.b1 1
  have z1_2 := blk_frozen FIVE.out.b1 2
  have z1_3 := blk_frozen FIVE.out.b1 3
  have z1_4 := blk_frozen FIVE.out.b1 4
  have l1 := blk_lt FIVE.out.b1
  have g2_0 : w1.cell? ⟨w.heap.size + 1 + 1, 0, none⟩ = some (.int .i64 0) := (blk_cell FIVE.out.b2 0).trans rfl
  have g2_1 : w1.cell? ⟨w.heap.size + 1 + 1, 1, none⟩ = some (.int .i64 0) := (blk_cell FIVE.out.b2 1).trans rfl
  have g2_2 : w1.cell? ⟨w.heap.size + 1 + 1, 2, none⟩ = some (.bool false) := (blk_cell FIVE.out.b2 2).trans rfl
  have g2_3 : w1.cell? ⟨w.heap.size + 1 + 1, 3, none⟩ = some (.bool false) := (blk_cell FIVE.out.b2 3).trans rfl
  have g2_4 : w1.cell? ⟨w.heap.size + 1 + 1, 4, none⟩ = some (.int .i64 0) := (blk_cell FIVE.out.b2 4).trans rfl
  have z2_0 := blk_frozen FIVE.out.b2 0
  have z2_1 := blk_frozen FIVE.out.b2 1
  have z2_2 := blk_frozen FIVE.out.b2 2
  have z2_3 := blk_frozen FIVE.out.b2 3
  have z2_4 := blk_frozen FIVE.out.b2 4
  have l2 := blk_lt FIVE.out.b2
  have g3_0 : w1.cell? ⟨w.heap.size + 1 + 1 + 1, 0, none⟩ = some (.int .i64 0) := (blk_cell FIVE.out.b3 0).trans rfl
  have g3_1 : w1.cell? ⟨w.heap.size + 1 + 1 + 1, 1, none⟩ = some (.int .i64 (-1)) := (blk_cell FIVE.out.b3 1).trans rfl
  have g3_2 : w1.cell? ⟨w.heap.size + 1 + 1 + 1, 2, none⟩ = some (.bool false) := (blk_cell FIVE.out.b3 2).trans rfl
  have g3_3 : w1.cell? ⟨w.heap.size + 1 + 1 + 1, 3, none⟩ = some (.bool false) := (blk_cell FIVE.out.b3 3).trans rfl
  have g3_4 : w1.cell? ⟨w.heap.size + 1 + 1 + 1, 4, none⟩ = some (.int .i64 0) := (blk_cell FIVE.out.b3 4).trans rfl
  have z3_0 := blk_frozen FIVE.out.b3 0
  have z3_1 := blk_frozen FIVE.out.b3 1
  have z3_2 := blk_frozen FIVE.out.b3 2
  have z3_3 := blk_frozen FIVE.out.b3 3
  have z3_4 := blk_frozen FIVE.out.b3 4
  have l3 := blk_lt FIVE.out.b3
  have g4_0 : w1.cell? ⟨w.heap.size + 1 + 1 + 1 + 1, 0, none⟩ = some (.int .i64 (0)) := (blk_cell FIVE.out.b4 0).trans rfl
  have g4_1 : w1.cell? ⟨w.heap.size + 1 + 1 + 1 + 1, 1, none⟩ = some (.int .i64 (a)) := (blk_cell FIVE.out.b4 1).trans rfl
  have g4_2 : w1.cell? ⟨w.heap.size + 1 + 1 + 1 + 1, 2, none⟩ = some (.int .i64 (b)) := (blk_cell FIVE.out.b4 2).trans rfl
  have l4 := blk_lt FIVE.out.b4
  have k0a : w.heap.size ≤ w1.heap.size := by omega
  have k0ab : w.heap.size ≤ w1.heap.size + 1 := by omega
  have k0cb : w.heap.size < w1.heap.size + 1 := by omega
  have k0d : w.heap.size < w1.heap.size := by omega
  have k1a : w.heap.size + 1 ≤ w1.heap.size := by omega
  have k1ab : w.heap.size + 1 ≤ w1.heap.size + 1 := by omega
  have k1cb : w.heap.size + 1 < w1.heap.size + 1 := by omega
  have k1d : w.heap.size + 1 < w1.heap.size := by omega
  have k2a : w.heap.size + 1 + 1 ≤ w1.heap.size := by omega
  have k2ab : w.heap.size + 1 + 1 ≤ w1.heap.size + 1 := by omega
  have k2cb : w.heap.size + 1 + 1 < w1.heap.size + 1 := by omega
  have k2d : w.heap.size + 1 + 1 < w1.heap.size := by omega
  have k3a : w.heap.size + 1 + 1 + 1 ≤ w1.heap.size := by omega
  have k3ab : w.heap.size + 1 + 1 + 1 ≤ w1.heap.size + 1 := by omega
  have k3cb : w.heap.size + 1 + 1 + 1 < w1.heap.size + 1 := by omega
  have k3d : w.heap.size + 1 + 1 + 1 < w1.heap.size := by omega
  have k4a : w.heap.size + 1 + 1 + 1 + 1 ≤ w1.heap.size := by omega
  have k4ab : w.heap.size + 1 + 1 + 1 + 1 ≤ w1.heap.size + 1 := by omega
  have k4cb : w.heap.size + 1 + 1 + 1 + 1 < w1.heap.size + 1 := by omega
  have ga : w1.cell? ⟨w.heap.size, 1 + a, none⟩ = some (.int .i64 (r a)) := (blk_cell FIVE.out.b0 _).trans (core_reg ⟨(k : Int), r⟩ a HA.out)
  have q0 : (0 : Int) ≤ (a : Int) := by omega
  have q1 : (a : Int) < 4 := by have := HA.out; omega
  clear hb a0 a1 a2 hb0 hbc1 hbc2 hbc3 hba0 hba1 hba2 hba3
  go_wp2_with fail
  go_region
  (try simp only [Exit.then, Exit.inBlock])
  go_wp2_with fail
  have hfin : ∀ (W : World) (ts : Array Value), ts.getD 10 undef = .pointer (some ⟨w.heap.size + 1, 0, none⟩) → ts.getD 11 undef = M → ts.getD 12 undef = .pointer (some ⟨w.heap.size + 1 + 1, 0, none⟩) → W.heap[w.heap.size + 1]? = some (.cells #[.int .i64 ((k : Int)), .int .i64 (r 0), .int .i64 (r 1), .int .i64 (r 2), .int .i64 (r 3)] 29 (0, 0)) → W.heap[w.heap.size + 1 + 1]? = some (.cells #[.int .i64 (0), .int .i64 (-1), .bool true, .bool false, .int .i64 (0)] 34 (0, 0)) → (results Tryd.f13 ts).run Tryd.prog W = .ok (.tuple #[coreV ⟨(k : Int), r⟩, M, outV ⟨0, -1, true, false, 0⟩]) W := fun W ts h10 h11 h12 hA hB => by
    rw [← h11]
    exact results_list (rs := [.cell 10 29, .tmp 11, .cell 12 34]) rfl (by simp) (.cell (w.heap.size + 1) 29 _ (0, 0) _ h10 hA Tryd.underlying29 rfl (by kernel_rfl) (.tmp (.cell (w.heap.size + 1 + 1) 34 _ (0, 0) _ h12 hB Tryd.underlying34 rfl (by kernel_rfl) .nil)))
  refine bodyPost_ret (hfin _ _ rfl rfl rfl ?_ ?_) rfl ⟨rfl, ?_⟩
  · repeat (first | (with_reducible refine blk_drewN ?_ _) | (with_reducible refine blk_drew ?_) | (with_reducible refine blk_alloc ?_ _))
    with_reducible refine put5_far (q := w.heap.size + 1 + 1) ?_ (by omega) _ _ _ _ _
    with_reducible refine put5_zC (q := w.heap.size + 1) ?_ _ _ _ _ _
    repeat (first | (with_reducible exact FIVE.out.b1) | (with_reducible refine blk_drewN ?_ _) | (with_reducible refine blk_drew ?_) | (with_reducible refine blk_alloc ?_ _) | (with_reducible refine blk_far ?_ (by (try simp only); omega) _))
  · repeat (first | (with_reducible refine blk_drewN ?_ _) | (with_reducible refine blk_drew ?_) | (with_reducible refine blk_alloc ?_ _))
    with_reducible refine put5_zO (q := w.heap.size + 1 + 1) ?_ _ _ _ _ _
    with_reducible refine put5_far (q := w.heap.size + 1) ?_ (by omega) _ _ _ _ _
    repeat (first | (with_reducible exact FIVE.out.b2) | (with_reducible refine blk_drewN ?_ _) | (with_reducible refine blk_drew ?_) | (with_reducible refine blk_alloc ?_ _) | (with_reducible refine blk_far ?_ (by (try simp only); omega) _))
  · repeat (first | (with_reducible exact HB1.out) | (with_reducible refine bdrewN ?_ _) | (with_reducible refine below_drew ?_) | (with_reducible refine balloc ?_ _) | (with_reducible refine Below.setCell ?_ (by (try simp only); omega) _))


set_option maxHeartbeats 4000000 in
theorem ref_jump (cc : Core) (A : Option Addr) (c : Nat) (code : List (Int × Int × Int)) (M L : Value) (now : Int) (w : World) (hc : CodeAt w A code) (h0 : 0 ≤ cc.pc) (h1 : cc.pc < code.length) (op : Int) (a : Nat) (b : Int)
    (hi : code.getD cc.pc.toNat zI = (op, (a : Int), b)) (hm : Instr.mayB op a b = true) (ha : a < 4) (ho : op = 10) :
    Calls Tryd.prog 13 #[.slice A code.length c, coreV cc, M, L, .int .i64 now] w fun e w' => e = .returned (.tuple #[coreV ⟨b, cc.r⟩, M, outV out0]) ∧ Below w.heap.size w w' := by
  subst ho
  have hM : ∀ W, Calls Tryd.prog 23 #[.agg #[.int .i64 10, .int .i64 a, .int .i64 b]] W fun e w' => e = .returned (.bool true) ∧ Below W.heap.size W w' := fun W => by
    obtain ⟨k, hk⟩ := (refmay_ev 10 a b).rounds
    rw [hm] at hk
    exact Pr.quarterdeckref04_May.calls k _ _ _ _ W hk
  obtain ⟨k, hk⟩ : ∃ k : Nat, cc.pc = (k : Int) := ⟨cc.pc.toNat, by omega⟩
  obtain ⟨pc, r⟩ := cc
  simp only at hk h0 h1 hi
  subst hk
  rw [Int.toNat_natCast] at hi
  obtain ⟨ad, rfl, hcell⟩ := hc.2 (by omega)
  have hkl : k < code.length := by omega
  have hk64 := hc.1
  obtain ⟨a0, a1, a2⟩ := hcell k (code.getD k zI) (by rw [List.getD_eq_getElem?_getD, List.getElem?_eq_getElem hkl]; rfl)
  rw [hi] at a0 a1 a2
  have hb0 := World.block_lt_of_cell? w _ a0
  have hbc1 : (ad.add (k * 3)).block < w.heap.size + 1 := by omega
  have hbc2 : (ad.add (k * 3)).block < w.heap.size + 1 + 1 := by omega
  have hbc3 : (ad.add (k * 3)).block < w.heap.size + 1 + 1 + 1 := by omega
  have hba0 : (ad.add (k * 3)).block ≤ w.heap.size := by omega
  have hba1 : (ad.add (k * 3)).block ≤ w.heap.size + 1 := by omega
  have hba2 : (ad.add (k * 3)).block ≤ w.heap.size + 1 + 1 := by omega
  have hba3 : (ad.add (k * 3)).block ≤ w.heap.size + 1 + 1 + 1 := by omega
  have HM := Lib.hid hM
  have d1 : decide ((k : Int) < 0) = false := decide_eq_false (by omega)
  have d2 : decide ((code.length : Int) ≤ (k : Int)) = false := decide_eq_false (by omega)
  have d3 : decide (code.length ≤ k) = false := decide_eq_false (by omega)
  have HA := Lib.hid ha
  simp only at a0 a1 a2
  clear hc hM hcell hi hm ha
  unfold coreV Core.cells
  go_enter Tryd.func13, Tryd.ntmps13
  go_wp2_with fail
  refine (HM.out _).mono ?_
  rintro e w1 ⟨rfl, hb⟩
  have FIVE := Lib.hid ((five_start w ⟨(k : Int), r⟩ 10 a b).below hb)
  have HB1 := Lib.hid (btrans (balloc (balloc (balloc (balloc (balloc (Below.refl _ _) _) _) _) _) _) hb)
  have hsz := HB1.out.size
  have g0_0 : w1.cell? ⟨w.heap.size, 0, none⟩ = some (.int .i64 ((k : Int))) := (blk_cell FIVE.out.b0 0).trans rfl
  have g0_1 : w1.cell? ⟨w.heap.size, 1, none⟩ = some (.int .i64 (r 0)) := (blk_cell FIVE.out.b0 1).trans rfl
  have g0_2 : w1.cell? ⟨w.heap.size, 2, none⟩ = some (.int .i64 (r 1)) := (blk_cell FIVE.out.b0 2).trans rfl
  have g0_3 : w1.cell? ⟨w.heap.size, 3, none⟩ = some (.int .i64 (r 2)) := (blk_cell FIVE.out.b0 3).trans rfl
  have g0_4 : w1.cell? ⟨w.heap.size, 4, none⟩ = some (.int .i64 (r 3)) := (blk_cell FIVE.out.b0 4).trans rfl
  have l0 := blk_lt FIVE.out.b0
  have g1_0 : w1.cell? ⟨w.heap.size + 1, 0, none⟩ = some (.int .i64 0) := (blk_cell FIVE.out.b1 0).trans rfl
  have g1_1 : w1.cell? ⟨w.heap.size + 1, 1, none⟩ = some (.int .i64 0) := (blk_cell FIVE.out.b1 1).trans rfl
  have g1_2 : w1.cell? ⟨w.heap.size + 1, 2, none⟩ = some (.int .i64 0) := (blk_cell FIVE.out.b1 2).trans rfl
  have g1_3 : w1.cell? ⟨w.heap.size + 1, 3, none⟩ = some (.int .i64 0) := (blk_cell FIVE.out.b1 3).trans rfl
  have g1_4 : w1.cell? ⟨w.heap.size + 1, 4, none⟩ = some (.int .i64 0) := (blk_cell FIVE.out.b1 4).trans rfl
  have z1_0 := blk_frozen FIVE.out.b1 0
  have z1_1 := blk_frozen FIVE.out.b1 1
  have z1_2 := blk_frozen FIVE.out.b1 2
  have z1_3 := blk_frozen FIVE.out.b1 3
  have z1_4 := blk_frozen FIVE.out.b1 4
  have l1 := blk_lt FIVE.out.b1
  have g2_0 : w1.cell? ⟨w.heap.size + 1 + 1, 0, none⟩ = some (.int .i64 0) := (blk_cell FIVE.out.b2 0).trans rfl
  have g2_1 : w1.cell? ⟨w.heap.size + 1 + 1, 1, none⟩ = some (.int .i64 0) := (blk_cell FIVE.out.b2 1).trans rfl
  have g2_2 : w1.cell? ⟨w.heap.size + 1 + 1, 2, none⟩ = some (.bool false) := (blk_cell FIVE.out.b2 2).trans rfl
  have g2_3 : w1.cell? ⟨w.heap.size + 1 + 1, 3, none⟩ = some (.bool false) := (blk_cell FIVE.out.b2 3).trans rfl
  have g2_4 : w1.cell? ⟨w.heap.size + 1 + 1, 4, none⟩ = some (.int .i64 0) := (blk_cell FIVE.out.b2 4).trans rfl
  have z2_0 := blk_frozen FIVE.out.b2 0
  have z2_1 := blk_frozen FIVE.out.b2 1
  have z2_2 := blk_frozen FIVE.out.b2 2
  have z2_3 := blk_frozen FIVE.out.b2 3
  have z2_4 := blk_frozen FIVE.out.b2 4
  have l2 := blk_lt FIVE.out.b2
  have g3_0 : w1.cell? ⟨w.heap.size + 1 + 1 + 1, 0, none⟩ = some (.int .i64 0) := (blk_cell FIVE.out.b3 0).trans rfl
  have g3_1 : w1.cell? ⟨w.heap.size + 1 + 1 + 1, 1, none⟩ = some (.int .i64 (-1)) := (blk_cell FIVE.out.b3 1).trans rfl
  have g3_2 : w1.cell? ⟨w.heap.size + 1 + 1 + 1, 2, none⟩ = some (.bool false) := (blk_cell FIVE.out.b3 2).trans rfl
  have g3_3 : w1.cell? ⟨w.heap.size + 1 + 1 + 1, 3, none⟩ = some (.bool false) := (blk_cell FIVE.out.b3 3).trans rfl
  have g3_4 : w1.cell? ⟨w.heap.size + 1 + 1 + 1, 4, none⟩ = some (.int .i64 0) := (blk_cell FIVE.out.b3 4).trans rfl
  have z3_0 := blk_frozen FIVE.out.b3 0
  have z3_1 := blk_frozen FIVE.out.b3 1
  have z3_2 := blk_frozen FIVE.out.b3 2
  have z3_3 := blk_frozen FIVE.out.b3 3
  have z3_4 := blk_frozen FIVE.out.b3 4
  have l3 := blk_lt FIVE.out.b3
  have g4_0 : w1.cell? ⟨w.heap.size + 1 + 1 + 1 + 1, 0, none⟩ = some (.int .i64 (10)) := (blk_cell FIVE.out.b4 0).trans rfl
  have g4_1 : w1.cell? ⟨w.heap.size + 1 + 1 + 1 + 1, 1, none⟩ = some (.int .i64 (a)) := (blk_cell FIVE.out.b4 1).trans rfl
  have g4_2 : w1.cell? ⟨w.heap.size + 1 + 1 + 1 + 1, 2, none⟩ = some (.int .i64 (b)) := (blk_cell FIVE.out.b4 2).trans rfl
  have l4 := blk_lt FIVE.out.b4
  have k0a : w.heap.size ≤ w1.heap.size := by omega
  have k0ab : w.heap.size ≤ w1.heap.size + 1 := by omega
  have k0cb : w.heap.size < w1.heap.size + 1 := by omega
  have k0d : w.heap.size < w1.heap.size := by omega
  have k1a : w.heap.size + 1 ≤ w1.heap.size := by omega
  have k1ab : w.heap.size + 1 ≤ w1.heap.size + 1 := by omega
  have k1cb : w.heap.size + 1 < w1.heap.size + 1 := by omega
  have k1d : w.heap.size + 1 < w1.heap.size := by omega
  have k2a : w.heap.size + 1 + 1 ≤ w1.heap.size := by omega
  have k2ab : w.heap.size + 1 + 1 ≤ w1.heap.size + 1 := by omega
  have k2cb : w.heap.size + 1 + 1 < w1.heap.size + 1 := by omega
  have k2d : w.heap.size + 1 + 1 < w1.heap.size := by omega
  have k3a : w.heap.size + 1 + 1 + 1 ≤ w1.heap.size := by omega
  have k3ab : w.heap.size + 1 + 1 + 1 ≤ w1.heap.size + 1 := by omega
  have k3cb : w.heap.size + 1 + 1 + 1 < w1.heap.size + 1 := by omega
  have k3d : w.heap.size + 1 + 1 + 1 < w1.heap.size := by omega
  have k4a : w.heap.size + 1 + 1 + 1 + 1 ≤ w1.heap.size := by omega
  have k4ab : w.heap.size + 1 + 1 + 1 + 1 ≤ w1.heap.size + 1 := by omega
  have k4cb : w.heap.size + 1 + 1 + 1 + 1 < w1.heap.size + 1 := by omega
  have ga : w1.cell? ⟨w.heap.size, 1 + a, none⟩ = some (.int .i64 (r a)) := (blk_cell FIVE.out.b0 _).trans (core_reg ⟨(k : Int), r⟩ a HA.out)
  have q0 : (0 : Int) ≤ (a : Int) := by omega
  have q1 : (a : Int) < 4 := by have := HA.out; omega
  clear hb a0 a1 a2 hb0 hbc1 hbc2 hbc3 hba0 hba1 hba2 hba3
  go_wp2_with fail
  go_region
  (try simp only [Exit.then, Exit.inBlock])
  go_wp2_with fail
  have hfin : ∀ (W : World) (ts : Array Value), ts.getD 10 undef = .pointer (some ⟨w.heap.size + 1, 0, none⟩) → ts.getD 11 undef = M → ts.getD 12 undef = .pointer (some ⟨w.heap.size + 1 + 1, 0, none⟩) → W.heap[w.heap.size + 1]? = some (.cells #[.int .i64 (b), .int .i64 (r 0), .int .i64 (r 1), .int .i64 (r 2), .int .i64 (r 3)] 29 (0, 0)) → W.heap[w.heap.size + 1 + 1]? = some (.cells #[.int .i64 (0), .int .i64 (-1), .bool false, .bool false, .int .i64 (0)] 34 (0, 0)) → (results Tryd.f13 ts).run Tryd.prog W = .ok (.tuple #[coreV ⟨b, r⟩, M, outV out0]) W := fun W ts h10 h11 h12 hA hB => by
    rw [← h11]
    exact results_list (rs := [.cell 10 29, .tmp 11, .cell 12 34]) rfl (by simp) (.cell (w.heap.size + 1) 29 _ (0, 0) _ h10 hA Tryd.underlying29 rfl (by kernel_rfl) (.tmp (.cell (w.heap.size + 1 + 1) 34 _ (0, 0) _ h12 hB Tryd.underlying34 rfl (by kernel_rfl) .nil)))
  refine bodyPost_ret (hfin _ _ rfl rfl rfl ?_ ?_) rfl ⟨rfl, ?_⟩
  · repeat (first | (with_reducible refine blk_drewN ?_ _) | (with_reducible refine blk_drew ?_) | (with_reducible refine blk_alloc ?_ _))
    with_reducible refine put5_far (q := w.heap.size + 1 + 1) ?_ (by omega) _ _ _ _ _
    with_reducible refine put5_zC (q := w.heap.size + 1) ?_ _ _ _ _ _
    repeat (first | (with_reducible exact FIVE.out.b1) | (with_reducible refine blk_drewN ?_ _) | (with_reducible refine blk_drew ?_) | (with_reducible refine blk_alloc ?_ _) | (with_reducible refine blk_far ?_ (by (try simp only); omega) _))
  · repeat (first | (with_reducible refine blk_drewN ?_ _) | (with_reducible refine blk_drew ?_) | (with_reducible refine blk_alloc ?_ _))
    with_reducible refine put5_zO (q := w.heap.size + 1 + 1) ?_ _ _ _ _ _
    with_reducible refine put5_far (q := w.heap.size + 1) ?_ (by omega) _ _ _ _ _
    repeat (first | (with_reducible exact FIVE.out.b2) | (with_reducible refine blk_drewN ?_ _) | (with_reducible refine blk_drew ?_) | (with_reducible refine blk_alloc ?_ _) | (with_reducible refine blk_far ?_ (by (try simp only); omega) _))
  · repeat (first | (with_reducible exact HB1.out) | (with_reducible refine bdrewN ?_ _) | (with_reducible refine below_drew ?_) | (with_reducible refine balloc ?_ _) | (with_reducible refine Below.setCell ?_ (by (try simp only); omega) _))


set_option maxHeartbeats 4000000 in
theorem ref_zero_z (cc : Core) (A : Option Addr) (c : Nat) (code : List (Int × Int × Int)) (M L : Value) (now : Int) (w : World) (hc : CodeAt w A code) (h0 : 0 ≤ cc.pc) (h1 : cc.pc < code.length) (op : Int) (a : Nat) (b : Int)
    (hi : code.getD cc.pc.toNat zI = (op, (a : Int), b)) (hm : Instr.mayB op a b = true) (ha : a < 4) (ho : op = 11) (hz : cc.r a = 0) :
    Calls Tryd.prog 13 #[.slice A code.length c, coreV cc, M, L, .int .i64 now] w fun e w' => e = .returned (.tuple #[coreV ⟨b, cc.r⟩, M, outV out0]) ∧ Below w.heap.size w w' := by
  subst ho
  have hM : ∀ W, Calls Tryd.prog 23 #[.agg #[.int .i64 11, .int .i64 a, .int .i64 b]] W fun e w' => e = .returned (.bool true) ∧ Below W.heap.size W w' := fun W => by
    obtain ⟨k, hk⟩ := (refmay_ev 11 a b).rounds
    rw [hm] at hk
    exact Pr.quarterdeckref04_May.calls k _ _ _ _ W hk
  obtain ⟨k, hk⟩ : ∃ k : Nat, cc.pc = (k : Int) := ⟨cc.pc.toNat, by omega⟩
  obtain ⟨pc, r⟩ := cc
  simp only at hk h0 h1 hi
  subst hk
  rw [Int.toNat_natCast] at hi
  obtain ⟨ad, rfl, hcell⟩ := hc.2 (by omega)
  have hkl : k < code.length := by omega
  have hk64 := hc.1
  obtain ⟨a0, a1, a2⟩ := hcell k (code.getD k zI) (by rw [List.getD_eq_getElem?_getD, List.getElem?_eq_getElem hkl]; rfl)
  rw [hi] at a0 a1 a2
  have hb0 := World.block_lt_of_cell? w _ a0
  have hbc1 : (ad.add (k * 3)).block < w.heap.size + 1 := by omega
  have hbc2 : (ad.add (k * 3)).block < w.heap.size + 1 + 1 := by omega
  have hbc3 : (ad.add (k * 3)).block < w.heap.size + 1 + 1 + 1 := by omega
  have hba0 : (ad.add (k * 3)).block ≤ w.heap.size := by omega
  have hba1 : (ad.add (k * 3)).block ≤ w.heap.size + 1 := by omega
  have hba2 : (ad.add (k * 3)).block ≤ w.heap.size + 1 + 1 := by omega
  have hba3 : (ad.add (k * 3)).block ≤ w.heap.size + 1 + 1 + 1 := by omega
  have HM := Lib.hid hM
  have d1 : decide ((k : Int) < 0) = false := decide_eq_false (by omega)
  have d2 : decide ((code.length : Int) ≤ (k : Int)) = false := decide_eq_false (by omega)
  have d3 : decide (code.length ≤ k) = false := decide_eq_false (by omega)
  have HA := Lib.hid ha
  simp only at a0 a1 a2
  simp only at hz
  clear hc hM hcell hi hm ha
  unfold coreV Core.cells
  go_enter Tryd.func13, Tryd.ntmps13
  go_wp2_with fail
  refine (HM.out _).mono ?_
  rintro e w1 ⟨rfl, hb⟩
  have FIVE := Lib.hid ((five_start w ⟨(k : Int), r⟩ 11 a b).below hb)
  have HB1 := Lib.hid (btrans (balloc (balloc (balloc (balloc (balloc (Below.refl _ _) _) _) _) _) _) hb)
  have hsz := HB1.out.size
  have g0_0 : w1.cell? ⟨w.heap.size, 0, none⟩ = some (.int .i64 ((k : Int))) := (blk_cell FIVE.out.b0 0).trans rfl
  have g0_1 : w1.cell? ⟨w.heap.size, 1, none⟩ = some (.int .i64 (r 0)) := (blk_cell FIVE.out.b0 1).trans rfl
  have g0_2 : w1.cell? ⟨w.heap.size, 2, none⟩ = some (.int .i64 (r 1)) := (blk_cell FIVE.out.b0 2).trans rfl
  have g0_3 : w1.cell? ⟨w.heap.size, 3, none⟩ = some (.int .i64 (r 2)) := (blk_cell FIVE.out.b0 3).trans rfl
  have g0_4 : w1.cell? ⟨w.heap.size, 4, none⟩ = some (.int .i64 (r 3)) := (blk_cell FIVE.out.b0 4).trans rfl
  have l0 := blk_lt FIVE.out.b0
  have g1_0 : w1.cell? ⟨w.heap.size + 1, 0, none⟩ = some (.int .i64 0) := (blk_cell FIVE.out.b1 0).trans rfl
  have g1_1 : w1.cell? ⟨w.heap.size + 1, 1, none⟩ = some (.int .i64 0) := (blk_cell FIVE.out.b1 1).trans rfl
  have g1_2 : w1.cell? ⟨w.heap.size + 1, 2, none⟩ = some (.int .i64 0) := (blk_cell FIVE.out.b1 2).trans rfl
  have g1_3 : w1.cell? ⟨w.heap.size + 1, 3, none⟩ = some (.int .i64 0) := (blk_cell FIVE.out.b1 3).trans rfl
  have g1_4 : w1.cell? ⟨w.heap.size + 1, 4, none⟩ = some (.int .i64 0) := (blk_cell FIVE.out.b1 4).trans rfl
  have z1_0 := blk_frozen FIVE.out.b1 0
  have z1_1 := blk_frozen FIVE.out.b1 1
  have z1_2 := blk_frozen FIVE.out.b1 2
  have z1_3 := blk_frozen FIVE.out.b1 3
  have z1_4 := blk_frozen FIVE.out.b1 4
  have l1 := blk_lt FIVE.out.b1
  have g2_0 : w1.cell? ⟨w.heap.size + 1 + 1, 0, none⟩ = some (.int .i64 0) := (blk_cell FIVE.out.b2 0).trans rfl
  have g2_1 : w1.cell? ⟨w.heap.size + 1 + 1, 1, none⟩ = some (.int .i64 0) := (blk_cell FIVE.out.b2 1).trans rfl
  have g2_2 : w1.cell? ⟨w.heap.size + 1 + 1, 2, none⟩ = some (.bool false) := (blk_cell FIVE.out.b2 2).trans rfl
  have g2_3 : w1.cell? ⟨w.heap.size + 1 + 1, 3, none⟩ = some (.bool false) := (blk_cell FIVE.out.b2 3).trans rfl
  have g2_4 : w1.cell? ⟨w.heap.size + 1 + 1, 4, none⟩ = some (.int .i64 0) := (blk_cell FIVE.out.b2 4).trans rfl
  have z2_0 := blk_frozen FIVE.out.b2 0
  have z2_1 := blk_frozen FIVE.out.b2 1
  have z2_2 := blk_frozen FIVE.out.b2 2
  have z2_3 := blk_frozen FIVE.out.b2 3
  have z2_4 := blk_frozen FIVE.out.b2 4
  have l2 := blk_lt FIVE.out.b2
  have g3_0 : w1.cell? ⟨w.heap.size + 1 + 1 + 1, 0, none⟩ = some (.int .i64 0) := (blk_cell FIVE.out.b3 0).trans rfl
  have g3_1 : w1.cell? ⟨w.heap.size + 1 + 1 + 1, 1, none⟩ = some (.int .i64 (-1)) := (blk_cell FIVE.out.b3 1).trans rfl
  have g3_2 : w1.cell? ⟨w.heap.size + 1 + 1 + 1, 2, none⟩ = some (.bool false) := (blk_cell FIVE.out.b3 2).trans rfl
  have g3_3 : w1.cell? ⟨w.heap.size + 1 + 1 + 1, 3, none⟩ = some (.bool false) := (blk_cell FIVE.out.b3 3).trans rfl
  have g3_4 : w1.cell? ⟨w.heap.size + 1 + 1 + 1, 4, none⟩ = some (.int .i64 0) := (blk_cell FIVE.out.b3 4).trans rfl
  have z3_0 := blk_frozen FIVE.out.b3 0
  have z3_1 := blk_frozen FIVE.out.b3 1
  have z3_2 := blk_frozen FIVE.out.b3 2
  have z3_3 := blk_frozen FIVE.out.b3 3
  have z3_4 := blk_frozen FIVE.out.b3 4
  have l3 := blk_lt FIVE.out.b3
  have g4_0 : w1.cell? ⟨w.heap.size + 1 + 1 + 1 + 1, 0, none⟩ = some (.int .i64 (11)) := (blk_cell FIVE.out.b4 0).trans rfl
  have g4_1 : w1.cell? ⟨w.heap.size + 1 + 1 + 1 + 1, 1, none⟩ = some (.int .i64 (a)) := (blk_cell FIVE.out.b4 1).trans rfl
  have g4_2 : w1.cell? ⟨w.heap.size + 1 + 1 + 1 + 1, 2, none⟩ = some (.int .i64 (b)) := (blk_cell FIVE.out.b4 2).trans rfl
  have l4 := blk_lt FIVE.out.b4
  have k0a : w.heap.size ≤ w1.heap.size := by omega
  have k0ab : w.heap.size ≤ w1.heap.size + 1 := by omega
  have k0cb : w.heap.size < w1.heap.size + 1 := by omega
  have k0d : w.heap.size < w1.heap.size := by omega
  have k1a : w.heap.size + 1 ≤ w1.heap.size := by omega
  have k1ab : w.heap.size + 1 ≤ w1.heap.size + 1 := by omega
  have k1cb : w.heap.size + 1 < w1.heap.size + 1 := by omega
  have k1d : w.heap.size + 1 < w1.heap.size := by omega
  have k2a : w.heap.size + 1 + 1 ≤ w1.heap.size := by omega
  have k2ab : w.heap.size + 1 + 1 ≤ w1.heap.size + 1 := by omega
  have k2cb : w.heap.size + 1 + 1 < w1.heap.size + 1 := by omega
  have k2d : w.heap.size + 1 + 1 < w1.heap.size := by omega
  have k3a : w.heap.size + 1 + 1 + 1 ≤ w1.heap.size := by omega
  have k3ab : w.heap.size + 1 + 1 + 1 ≤ w1.heap.size + 1 := by omega
  have k3cb : w.heap.size + 1 + 1 + 1 < w1.heap.size + 1 := by omega
  have k3d : w.heap.size + 1 + 1 + 1 < w1.heap.size := by omega
  have k4a : w.heap.size + 1 + 1 + 1 + 1 ≤ w1.heap.size := by omega
  have k4ab : w.heap.size + 1 + 1 + 1 + 1 ≤ w1.heap.size + 1 := by omega
  have k4cb : w.heap.size + 1 + 1 + 1 + 1 < w1.heap.size + 1 := by omega
  have ga : w1.cell? ⟨w.heap.size, 1 + a, none⟩ = some (.int .i64 (r a)) := (blk_cell FIVE.out.b0 _).trans (core_reg ⟨(k : Int), r⟩ a HA.out)
  have q0 : (0 : Int) ≤ (a : Int) := by omega
  have q1 : (a : Int) < 4 := by have := HA.out; omega
  clear hb a0 a1 a2 hb0 hbc1 hbc2 hbc3 hba0 hba1 hba2 hba3
  rw [hz] at ga
  clear hz
  go_wp2_with fail
  go_region
  (try simp only [Exit.then, Exit.inBlock])
  go_wp2_with fail
  have hfin : ∀ (W : World) (ts : Array Value), ts.getD 10 undef = .pointer (some ⟨w.heap.size + 1, 0, none⟩) → ts.getD 11 undef = M → ts.getD 12 undef = .pointer (some ⟨w.heap.size + 1 + 1, 0, none⟩) → W.heap[w.heap.size + 1]? = some (.cells #[.int .i64 (b), .int .i64 (r 0), .int .i64 (r 1), .int .i64 (r 2), .int .i64 (r 3)] 29 (0, 0)) → W.heap[w.heap.size + 1 + 1]? = some (.cells #[.int .i64 (0), .int .i64 (-1), .bool false, .bool false, .int .i64 (0)] 34 (0, 0)) → (results Tryd.f13 ts).run Tryd.prog W = .ok (.tuple #[coreV ⟨b, r⟩, M, outV out0]) W := fun W ts h10 h11 h12 hA hB => by
    rw [← h11]
    exact results_list (rs := [.cell 10 29, .tmp 11, .cell 12 34]) rfl (by simp) (.cell (w.heap.size + 1) 29 _ (0, 0) _ h10 hA Tryd.underlying29 rfl (by kernel_rfl) (.tmp (.cell (w.heap.size + 1 + 1) 34 _ (0, 0) _ h12 hB Tryd.underlying34 rfl (by kernel_rfl) .nil)))
  refine bodyPost_ret (hfin _ _ rfl rfl rfl ?_ ?_) rfl ⟨rfl, ?_⟩
  · repeat (first | (with_reducible refine blk_drewN ?_ _) | (with_reducible refine blk_drew ?_) | (with_reducible refine blk_alloc ?_ _))
    with_reducible refine put5_far (q := w.heap.size + 1 + 1) ?_ (by omega) _ _ _ _ _
    with_reducible refine put5_zC (q := w.heap.size + 1) ?_ _ _ _ _ _
    repeat (first | (with_reducible exact FIVE.out.b1) | (with_reducible refine blk_drewN ?_ _) | (with_reducible refine blk_drew ?_) | (with_reducible refine blk_alloc ?_ _) | (with_reducible refine blk_far ?_ (by (try simp only); omega) _))
  · repeat (first | (with_reducible refine blk_drewN ?_ _) | (with_reducible refine blk_drew ?_) | (with_reducible refine blk_alloc ?_ _))
    with_reducible refine put5_zO (q := w.heap.size + 1 + 1) ?_ _ _ _ _ _
    with_reducible refine put5_far (q := w.heap.size + 1) ?_ (by omega) _ _ _ _ _
    repeat (first | (with_reducible exact FIVE.out.b2) | (with_reducible refine blk_drewN ?_ _) | (with_reducible refine blk_drew ?_) | (with_reducible refine blk_alloc ?_ _) | (with_reducible refine blk_far ?_ (by (try simp only); omega) _))
  · repeat (first | (with_reducible exact HB1.out) | (with_reducible refine bdrewN ?_ _) | (with_reducible refine below_drew ?_) | (with_reducible refine balloc ?_ _) | (with_reducible refine Below.setCell ?_ (by (try simp only); omega) _))


set_option maxHeartbeats 4000000 in
theorem ref_zero_n (cc : Core) (A : Option Addr) (c : Nat) (code : List (Int × Int × Int)) (M L : Value) (now : Int) (w : World) (hc : CodeAt w A code) (h0 : 0 ≤ cc.pc) (h1 : cc.pc < code.length) (op : Int) (a : Nat) (b : Int)
    (hi : code.getD cc.pc.toNat zI = (op, (a : Int), b)) (hm : Instr.mayB op a b = true) (ha : a < 4) (ho : op = 11) (hz : ¬ cc.r a = 0) :
    Calls Tryd.prog 13 #[.slice A code.length c, coreV cc, M, L, .int .i64 now] w fun e w' => e = .returned (.tuple #[coreV ⟨cc.pc + 1, cc.r⟩, M, outV out0]) ∧ Below w.heap.size w w' := by
  subst ho
  have hM : ∀ W, Calls Tryd.prog 23 #[.agg #[.int .i64 11, .int .i64 a, .int .i64 b]] W fun e w' => e = .returned (.bool true) ∧ Below W.heap.size W w' := fun W => by
    obtain ⟨k, hk⟩ := (refmay_ev 11 a b).rounds
    rw [hm] at hk
    exact Pr.quarterdeckref04_May.calls k _ _ _ _ W hk
  obtain ⟨k, hk⟩ : ∃ k : Nat, cc.pc = (k : Int) := ⟨cc.pc.toNat, by omega⟩
  obtain ⟨pc, r⟩ := cc
  simp only at hk h0 h1 hi
  subst hk
  rw [Int.toNat_natCast] at hi
  obtain ⟨ad, rfl, hcell⟩ := hc.2 (by omega)
  have hkl : k < code.length := by omega
  have hk64 := hc.1
  obtain ⟨a0, a1, a2⟩ := hcell k (code.getD k zI) (by rw [List.getD_eq_getElem?_getD, List.getElem?_eq_getElem hkl]; rfl)
  rw [hi] at a0 a1 a2
  have hb0 := World.block_lt_of_cell? w _ a0
  have hbc1 : (ad.add (k * 3)).block < w.heap.size + 1 := by omega
  have hbc2 : (ad.add (k * 3)).block < w.heap.size + 1 + 1 := by omega
  have hbc3 : (ad.add (k * 3)).block < w.heap.size + 1 + 1 + 1 := by omega
  have hba0 : (ad.add (k * 3)).block ≤ w.heap.size := by omega
  have hba1 : (ad.add (k * 3)).block ≤ w.heap.size + 1 := by omega
  have hba2 : (ad.add (k * 3)).block ≤ w.heap.size + 1 + 1 := by omega
  have hba3 : (ad.add (k * 3)).block ≤ w.heap.size + 1 + 1 + 1 := by omega
  have HM := Lib.hid hM
  have d1 : decide ((k : Int) < 0) = false := decide_eq_false (by omega)
  have d2 : decide ((code.length : Int) ≤ (k : Int)) = false := decide_eq_false (by omega)
  have d3 : decide (code.length ≤ k) = false := decide_eq_false (by omega)
  have HA := Lib.hid ha
  simp only at a0 a1 a2
  simp only at hz
  clear hc hM hcell hi hm ha
  unfold coreV Core.cells
  go_enter Tryd.func13, Tryd.ntmps13
  go_wp2_with fail
  refine (HM.out _).mono ?_
  rintro e w1 ⟨rfl, hb⟩
  have FIVE := Lib.hid ((five_start w ⟨(k : Int), r⟩ 11 a b).below hb)
  have HB1 := Lib.hid (btrans (balloc (balloc (balloc (balloc (balloc (Below.refl _ _) _) _) _) _) _) hb)
  have hsz := HB1.out.size
  have g0_0 : w1.cell? ⟨w.heap.size, 0, none⟩ = some (.int .i64 ((k : Int))) := (blk_cell FIVE.out.b0 0).trans rfl
  have g0_1 : w1.cell? ⟨w.heap.size, 1, none⟩ = some (.int .i64 (r 0)) := (blk_cell FIVE.out.b0 1).trans rfl
  have g0_2 : w1.cell? ⟨w.heap.size, 2, none⟩ = some (.int .i64 (r 1)) := (blk_cell FIVE.out.b0 2).trans rfl
  have g0_3 : w1.cell? ⟨w.heap.size, 3, none⟩ = some (.int .i64 (r 2)) := (blk_cell FIVE.out.b0 3).trans rfl
  have g0_4 : w1.cell? ⟨w.heap.size, 4, none⟩ = some (.int .i64 (r 3)) := (blk_cell FIVE.out.b0 4).trans rfl
  have l0 := blk_lt FIVE.out.b0
  have g1_0 : w1.cell? ⟨w.heap.size + 1, 0, none⟩ = some (.int .i64 0) := (blk_cell FIVE.out.b1 0).trans rfl
  have g1_1 : w1.cell? ⟨w.heap.size + 1, 1, none⟩ = some (.int .i64 0) := (blk_cell FIVE.out.b1 1).trans rfl
  have g1_2 : w1.cell? ⟨w.heap.size + 1, 2, none⟩ = some (.int .i64 0) := (blk_cell FIVE.out.b1 2).trans rfl
  have g1_3 : w1.cell? ⟨w.heap.size + 1, 3, none⟩ = some (.int .i64 0) := (blk_cell FIVE.out.b1 3).trans rfl
  have g1_4 : w1.cell? ⟨w.heap.size + 1, 4, none⟩ = some (.int .i64 0) := (blk_cell FIVE.out.b1 4).trans rfl
  have z1_0 := blk_frozen FIVE.out.b1 0
  have z1_1 := blk_frozen FIVE.out.b1 1
  have z1_2 := blk_frozen FIVE.out.b1 2
  have z1_3 := blk_frozen FIVE.out.b1 3
  have z1_4 := blk_frozen FIVE.out.b1 4
  have l1 := blk_lt FIVE.out.b1
  have g2_0 : w1.cell? ⟨w.heap.size + 1 + 1, 0, none⟩ = some (.int .i64 0) := (blk_cell FIVE.out.b2 0).trans rfl
  have g2_1 : w1.cell? ⟨w.heap.size + 1 + 1, 1, none⟩ = some (.int .i64 0) := (blk_cell FIVE.out.b2 1).trans rfl
  have g2_2 : w1.cell? ⟨w.heap.size + 1 + 1, 2, none⟩ = some (.bool false) := (blk_cell FIVE.out.b2 2).trans rfl
  have g2_3 : w1.cell? ⟨w.heap.size + 1 + 1, 3, none⟩ = some (.bool false) := (blk_cell FIVE.out.b2 3).trans rfl
  have g2_4 : w1.cell? ⟨w.heap.size + 1 + 1, 4, none⟩ = some (.int .i64 0) := (blk_cell FIVE.out.b2 4).trans rfl
  have z2_0 := blk_frozen FIVE.out.b2 0
  have z2_1 := blk_frozen FIVE.out.b2 1
  have z2_2 := blk_frozen FIVE.out.b2 2
  have z2_3 := blk_frozen FIVE.out.b2 3
  have z2_4 := blk_frozen FIVE.out.b2 4
  have l2 := blk_lt FIVE.out.b2
  have g3_0 : w1.cell? ⟨w.heap.size + 1 + 1 + 1, 0, none⟩ = some (.int .i64 0) := (blk_cell FIVE.out.b3 0).trans rfl
  have g3_1 : w1.cell? ⟨w.heap.size + 1 + 1 + 1, 1, none⟩ = some (.int .i64 (-1)) := (blk_cell FIVE.out.b3 1).trans rfl
  have g3_2 : w1.cell? ⟨w.heap.size + 1 + 1 + 1, 2, none⟩ = some (.bool false) := (blk_cell FIVE.out.b3 2).trans rfl
  have g3_3 : w1.cell? ⟨w.heap.size + 1 + 1 + 1, 3, none⟩ = some (.bool false) := (blk_cell FIVE.out.b3 3).trans rfl
  have g3_4 : w1.cell? ⟨w.heap.size + 1 + 1 + 1, 4, none⟩ = some (.int .i64 0) := (blk_cell FIVE.out.b3 4).trans rfl
  have z3_0 := blk_frozen FIVE.out.b3 0
  have z3_1 := blk_frozen FIVE.out.b3 1
  have z3_2 := blk_frozen FIVE.out.b3 2
  have z3_3 := blk_frozen FIVE.out.b3 3
  have z3_4 := blk_frozen FIVE.out.b3 4
  have l3 := blk_lt FIVE.out.b3
  have g4_0 : w1.cell? ⟨w.heap.size + 1 + 1 + 1 + 1, 0, none⟩ = some (.int .i64 (11)) := (blk_cell FIVE.out.b4 0).trans rfl
  have g4_1 : w1.cell? ⟨w.heap.size + 1 + 1 + 1 + 1, 1, none⟩ = some (.int .i64 (a)) := (blk_cell FIVE.out.b4 1).trans rfl
  have g4_2 : w1.cell? ⟨w.heap.size + 1 + 1 + 1 + 1, 2, none⟩ = some (.int .i64 (b)) := (blk_cell FIVE.out.b4 2).trans rfl
  have l4 := blk_lt FIVE.out.b4
  have k0a : w.heap.size ≤ w1.heap.size := by omega
  have k0ab : w.heap.size ≤ w1.heap.size + 1 := by omega
  have k0cb : w.heap.size < w1.heap.size + 1 := by omega
  have k0d : w.heap.size < w1.heap.size := by omega
  have k1a : w.heap.size + 1 ≤ w1.heap.size := by omega
  have k1ab : w.heap.size + 1 ≤ w1.heap.size + 1 := by omega
  have k1cb : w.heap.size + 1 < w1.heap.size + 1 := by omega
  have k1d : w.heap.size + 1 < w1.heap.size := by omega
  have k2a : w.heap.size + 1 + 1 ≤ w1.heap.size := by omega
  have k2ab : w.heap.size + 1 + 1 ≤ w1.heap.size + 1 := by omega
  have k2cb : w.heap.size + 1 + 1 < w1.heap.size + 1 := by omega
  have k2d : w.heap.size + 1 + 1 < w1.heap.size := by omega
  have k3a : w.heap.size + 1 + 1 + 1 ≤ w1.heap.size := by omega
  have k3ab : w.heap.size + 1 + 1 + 1 ≤ w1.heap.size + 1 := by omega
  have k3cb : w.heap.size + 1 + 1 + 1 < w1.heap.size + 1 := by omega
  have k3d : w.heap.size + 1 + 1 + 1 < w1.heap.size := by omega
  have k4a : w.heap.size + 1 + 1 + 1 + 1 ≤ w1.heap.size := by omega
  have k4ab : w.heap.size + 1 + 1 + 1 + 1 ≤ w1.heap.size + 1 := by omega
  have k4cb : w.heap.size + 1 + 1 + 1 + 1 < w1.heap.size + 1 := by omega
  have ga : w1.cell? ⟨w.heap.size, 1 + a, none⟩ = some (.int .i64 (r a)) := (blk_cell FIVE.out.b0 _).trans (core_reg ⟨(k : Int), r⟩ a HA.out)
  have q0 : (0 : Int) ≤ (a : Int) := by omega
  have q1 : (a : Int) < 4 := by have := HA.out; omega
  clear hb a0 a1 a2 hb0 hbc1 hbc2 hbc3 hba0 hba1 hba2 hba3
  have hz' : (r a == 0) = false := by simp [hz]
  clear hz
  go_wp2_with fail
  go_region
  (try simp only [Exit.then, Exit.inBlock])
  go_wp2_with fail
  have hfin : ∀ (W : World) (ts : Array Value), ts.getD 10 undef = .pointer (some ⟨w.heap.size + 1, 0, none⟩) → ts.getD 11 undef = M → ts.getD 12 undef = .pointer (some ⟨w.heap.size + 1 + 1, 0, none⟩) → W.heap[w.heap.size + 1]? = some (.cells #[.int .i64 ((k : Int) + 1), .int .i64 (r 0), .int .i64 (r 1), .int .i64 (r 2), .int .i64 (r 3)] 29 (0, 0)) → W.heap[w.heap.size + 1 + 1]? = some (.cells #[.int .i64 (0), .int .i64 (-1), .bool false, .bool false, .int .i64 (0)] 34 (0, 0)) → (results Tryd.f13 ts).run Tryd.prog W = .ok (.tuple #[coreV ⟨(k : Int) + 1, r⟩, M, outV out0]) W := fun W ts h10 h11 h12 hA hB => by
    rw [← h11]
    exact results_list (rs := [.cell 10 29, .tmp 11, .cell 12 34]) rfl (by simp) (.cell (w.heap.size + 1) 29 _ (0, 0) _ h10 hA Tryd.underlying29 rfl (by kernel_rfl) (.tmp (.cell (w.heap.size + 1 + 1) 34 _ (0, 0) _ h12 hB Tryd.underlying34 rfl (by kernel_rfl) .nil)))
  refine bodyPost_ret (hfin _ _ rfl rfl rfl ?_ ?_) rfl ⟨rfl, ?_⟩
  · repeat (first | (with_reducible refine blk_drewN ?_ _) | (with_reducible refine blk_drew ?_) | (with_reducible refine blk_alloc ?_ _))
    with_reducible refine put5_far (q := w.heap.size + 1 + 1) ?_ (by omega) _ _ _ _ _
    with_reducible refine put5_zC (q := w.heap.size + 1) ?_ _ _ _ _ _
    repeat (first | (with_reducible exact FIVE.out.b1) | (with_reducible refine blk_drewN ?_ _) | (with_reducible refine blk_drew ?_) | (with_reducible refine blk_alloc ?_ _) | (with_reducible refine blk_far ?_ (by (try simp only); omega) _))
  · repeat (first | (with_reducible refine blk_drewN ?_ _) | (with_reducible refine blk_drew ?_) | (with_reducible refine blk_alloc ?_ _))
    with_reducible refine put5_zO (q := w.heap.size + 1 + 1) ?_ _ _ _ _ _
    with_reducible refine put5_far (q := w.heap.size + 1) ?_ (by omega) _ _ _ _ _
    repeat (first | (with_reducible exact FIVE.out.b2) | (with_reducible refine blk_drewN ?_ _) | (with_reducible refine blk_drew ?_) | (with_reducible refine blk_alloc ?_ _) | (with_reducible refine blk_far ?_ (by (try simp only); omega) _))
  · repeat (first | (with_reducible exact HB1.out) | (with_reducible refine bdrewN ?_ _) | (with_reducible refine below_drew ?_) | (with_reducible refine balloc ?_ _) | (with_reducible refine Below.setCell ?_ (by (try simp only); omega) _))


set_option maxHeartbeats 4000000 in
theorem ref_call (cc : Core) (A : Option Addr) (c : Nat) (code : List (Int × Int × Int)) (M L : Value) (now : Int) (w : World) (hc : CodeAt w A code) (h0 : 0 ≤ cc.pc) (h1 : cc.pc < code.length) (op : Int) (a : Nat) (b : Int)
    (hi : code.getD cc.pc.toNat zI = (op, (a : Int), b)) (hm : Instr.mayB op a b = true) (ha : a < 4) (ho : op = 19) :
    Calls Tryd.prog 13 #[.slice A code.length c, coreV cc, M, L, .int .i64 now] w fun e w' => e = .returned (.tuple #[coreV ⟨cc.pc + 1, cc.r⟩, M, outV ⟨0, b, false, false, 0⟩]) ∧ Below w.heap.size w w' := by
  subst ho
  have hM : ∀ W, Calls Tryd.prog 23 #[.agg #[.int .i64 19, .int .i64 a, .int .i64 b]] W fun e w' => e = .returned (.bool true) ∧ Below W.heap.size W w' := fun W => by
    obtain ⟨k, hk⟩ := (refmay_ev 19 a b).rounds
    rw [hm] at hk
    exact Pr.quarterdeckref04_May.calls k _ _ _ _ W hk
  obtain ⟨k, hk⟩ : ∃ k : Nat, cc.pc = (k : Int) := ⟨cc.pc.toNat, by omega⟩
  obtain ⟨pc, r⟩ := cc
  simp only at hk h0 h1 hi
  subst hk
  rw [Int.toNat_natCast] at hi
  obtain ⟨ad, rfl, hcell⟩ := hc.2 (by omega)
  have hkl : k < code.length := by omega
  have hk64 := hc.1
  obtain ⟨a0, a1, a2⟩ := hcell k (code.getD k zI) (by rw [List.getD_eq_getElem?_getD, List.getElem?_eq_getElem hkl]; rfl)
  rw [hi] at a0 a1 a2
  have hb0 := World.block_lt_of_cell? w _ a0
  have hbc1 : (ad.add (k * 3)).block < w.heap.size + 1 := by omega
  have hbc2 : (ad.add (k * 3)).block < w.heap.size + 1 + 1 := by omega
  have hbc3 : (ad.add (k * 3)).block < w.heap.size + 1 + 1 + 1 := by omega
  have hba0 : (ad.add (k * 3)).block ≤ w.heap.size := by omega
  have hba1 : (ad.add (k * 3)).block ≤ w.heap.size + 1 := by omega
  have hba2 : (ad.add (k * 3)).block ≤ w.heap.size + 1 + 1 := by omega
  have hba3 : (ad.add (k * 3)).block ≤ w.heap.size + 1 + 1 + 1 := by omega
  have HM := Lib.hid hM
  have d1 : decide ((k : Int) < 0) = false := decide_eq_false (by omega)
  have d2 : decide ((code.length : Int) ≤ (k : Int)) = false := decide_eq_false (by omega)
  have d3 : decide (code.length ≤ k) = false := decide_eq_false (by omega)
  have HA := Lib.hid ha
  simp only at a0 a1 a2
  clear hc hM hcell hi hm ha
  unfold coreV Core.cells
  go_enter Tryd.func13, Tryd.ntmps13
  go_wp2_with fail
  refine (HM.out _).mono ?_
  rintro e w1 ⟨rfl, hb⟩
  have FIVE := Lib.hid ((five_start w ⟨(k : Int), r⟩ 19 a b).below hb)
  have HB1 := Lib.hid (btrans (balloc (balloc (balloc (balloc (balloc (Below.refl _ _) _) _) _) _) _) hb)
  have hsz := HB1.out.size
  have g0_0 : w1.cell? ⟨w.heap.size, 0, none⟩ = some (.int .i64 ((k : Int))) := (blk_cell FIVE.out.b0 0).trans rfl
  have g0_1 : w1.cell? ⟨w.heap.size, 1, none⟩ = some (.int .i64 (r 0)) := (blk_cell FIVE.out.b0 1).trans rfl
  have g0_2 : w1.cell? ⟨w.heap.size, 2, none⟩ = some (.int .i64 (r 1)) := (blk_cell FIVE.out.b0 2).trans rfl
  have g0_3 : w1.cell? ⟨w.heap.size, 3, none⟩ = some (.int .i64 (r 2)) := (blk_cell FIVE.out.b0 3).trans rfl
  have g0_4 : w1.cell? ⟨w.heap.size, 4, none⟩ = some (.int .i64 (r 3)) := (blk_cell FIVE.out.b0 4).trans rfl
  have l0 := blk_lt FIVE.out.b0
  have g1_0 : w1.cell? ⟨w.heap.size + 1, 0, none⟩ = some (.int .i64 0) := (blk_cell FIVE.out.b1 0).trans rfl
  have g1_1 : w1.cell? ⟨w.heap.size + 1, 1, none⟩ = some (.int .i64 0) := (blk_cell FIVE.out.b1 1).trans rfl
  have g1_2 : w1.cell? ⟨w.heap.size + 1, 2, none⟩ = some (.int .i64 0) := (blk_cell FIVE.out.b1 2).trans rfl
  have g1_3 : w1.cell? ⟨w.heap.size + 1, 3, none⟩ = some (.int .i64 0) := (blk_cell FIVE.out.b1 3).trans rfl
  have g1_4 : w1.cell? ⟨w.heap.size + 1, 4, none⟩ = some (.int .i64 0) := (blk_cell FIVE.out.b1 4).trans rfl
  have z1_0 := blk_frozen FIVE.out.b1 0
  have z1_1 := blk_frozen FIVE.out.b1 1
  have z1_2 := blk_frozen FIVE.out.b1 2
  have z1_3 := blk_frozen FIVE.out.b1 3
  have z1_4 := blk_frozen FIVE.out.b1 4
  have l1 := blk_lt FIVE.out.b1
  have g2_0 : w1.cell? ⟨w.heap.size + 1 + 1, 0, none⟩ = some (.int .i64 0) := (blk_cell FIVE.out.b2 0).trans rfl
  have g2_1 : w1.cell? ⟨w.heap.size + 1 + 1, 1, none⟩ = some (.int .i64 0) := (blk_cell FIVE.out.b2 1).trans rfl
  have g2_2 : w1.cell? ⟨w.heap.size + 1 + 1, 2, none⟩ = some (.bool false) := (blk_cell FIVE.out.b2 2).trans rfl
  have g2_3 : w1.cell? ⟨w.heap.size + 1 + 1, 3, none⟩ = some (.bool false) := (blk_cell FIVE.out.b2 3).trans rfl
  have g2_4 : w1.cell? ⟨w.heap.size + 1 + 1, 4, none⟩ = some (.int .i64 0) := (blk_cell FIVE.out.b2 4).trans rfl
  have z2_0 := blk_frozen FIVE.out.b2 0
  have z2_1 := blk_frozen FIVE.out.b2 1
  have z2_2 := blk_frozen FIVE.out.b2 2
  have z2_3 := blk_frozen FIVE.out.b2 3
  have z2_4 := blk_frozen FIVE.out.b2 4
  have l2 := blk_lt FIVE.out.b2
  have g3_0 : w1.cell? ⟨w.heap.size + 1 + 1 + 1, 0, none⟩ = some (.int .i64 0) := (blk_cell FIVE.out.b3 0).trans rfl
  have g3_1 : w1.cell? ⟨w.heap.size + 1 + 1 + 1, 1, none⟩ = some (.int .i64 (-1)) := (blk_cell FIVE.out.b3 1).trans rfl
  have g3_2 : w1.cell? ⟨w.heap.size + 1 + 1 + 1, 2, none⟩ = some (.bool false) := (blk_cell FIVE.out.b3 2).trans rfl
  have g3_3 : w1.cell? ⟨w.heap.size + 1 + 1 + 1, 3, none⟩ = some (.bool false) := (blk_cell FIVE.out.b3 3).trans rfl
  have g3_4 : w1.cell? ⟨w.heap.size + 1 + 1 + 1, 4, none⟩ = some (.int .i64 0) := (blk_cell FIVE.out.b3 4).trans rfl
  have z3_0 := blk_frozen FIVE.out.b3 0
  have z3_1 := blk_frozen FIVE.out.b3 1
  have z3_2 := blk_frozen FIVE.out.b3 2
  have z3_3 := blk_frozen FIVE.out.b3 3
  have z3_4 := blk_frozen FIVE.out.b3 4
  have l3 := blk_lt FIVE.out.b3
  have g4_0 : w1.cell? ⟨w.heap.size + 1 + 1 + 1 + 1, 0, none⟩ = some (.int .i64 (19)) := (blk_cell FIVE.out.b4 0).trans rfl
  have g4_1 : w1.cell? ⟨w.heap.size + 1 + 1 + 1 + 1, 1, none⟩ = some (.int .i64 (a)) := (blk_cell FIVE.out.b4 1).trans rfl
  have g4_2 : w1.cell? ⟨w.heap.size + 1 + 1 + 1 + 1, 2, none⟩ = some (.int .i64 (b)) := (blk_cell FIVE.out.b4 2).trans rfl
  have l4 := blk_lt FIVE.out.b4
  have k0a : w.heap.size ≤ w1.heap.size := by omega
  have k0ab : w.heap.size ≤ w1.heap.size + 1 := by omega
  have k0cb : w.heap.size < w1.heap.size + 1 := by omega
  have k0d : w.heap.size < w1.heap.size := by omega
  have k1a : w.heap.size + 1 ≤ w1.heap.size := by omega
  have k1ab : w.heap.size + 1 ≤ w1.heap.size + 1 := by omega
  have k1cb : w.heap.size + 1 < w1.heap.size + 1 := by omega
  have k1d : w.heap.size + 1 < w1.heap.size := by omega
  have k2a : w.heap.size + 1 + 1 ≤ w1.heap.size := by omega
  have k2ab : w.heap.size + 1 + 1 ≤ w1.heap.size + 1 := by omega
  have k2cb : w.heap.size + 1 + 1 < w1.heap.size + 1 := by omega
  have k2d : w.heap.size + 1 + 1 < w1.heap.size := by omega
  have k3a : w.heap.size + 1 + 1 + 1 ≤ w1.heap.size := by omega
  have k3ab : w.heap.size + 1 + 1 + 1 ≤ w1.heap.size + 1 := by omega
  have k3cb : w.heap.size + 1 + 1 + 1 < w1.heap.size + 1 := by omega
  have k3d : w.heap.size + 1 + 1 + 1 < w1.heap.size := by omega
  have k4a : w.heap.size + 1 + 1 + 1 + 1 ≤ w1.heap.size := by omega
  have k4ab : w.heap.size + 1 + 1 + 1 + 1 ≤ w1.heap.size + 1 := by omega
  have k4cb : w.heap.size + 1 + 1 + 1 + 1 < w1.heap.size + 1 := by omega
  have ga : w1.cell? ⟨w.heap.size, 1 + a, none⟩ = some (.int .i64 (r a)) := (blk_cell FIVE.out.b0 _).trans (core_reg ⟨(k : Int), r⟩ a HA.out)
  have q0 : (0 : Int) ≤ (a : Int) := by omega
  have q1 : (a : Int) < 4 := by have := HA.out; omega
  clear hb a0 a1 a2 hb0 hbc1 hbc2 hbc3 hba0 hba1 hba2 hba3
  go_wp2_with fail
  go_region
  (try simp only [Exit.then, Exit.inBlock])
  go_wp2_with fail
  have hfin : ∀ (W : World) (ts : Array Value), ts.getD 10 undef = .pointer (some ⟨w.heap.size + 1, 0, none⟩) → ts.getD 11 undef = M → ts.getD 12 undef = .pointer (some ⟨w.heap.size + 1 + 1, 0, none⟩) → W.heap[w.heap.size + 1]? = some (.cells #[.int .i64 ((k : Int) + 1), .int .i64 (r 0), .int .i64 (r 1), .int .i64 (r 2), .int .i64 (r 3)] 29 (0, 0)) → W.heap[w.heap.size + 1 + 1]? = some (.cells #[.int .i64 (0), .int .i64 (b), .bool false, .bool false, .int .i64 (0)] 34 (0, 0)) → (results Tryd.f13 ts).run Tryd.prog W = .ok (.tuple #[coreV ⟨(k : Int) + 1, r⟩, M, outV ⟨0, b, false, false, 0⟩]) W := fun W ts h10 h11 h12 hA hB => by
    rw [← h11]
    exact results_list (rs := [.cell 10 29, .tmp 11, .cell 12 34]) rfl (by simp) (.cell (w.heap.size + 1) 29 _ (0, 0) _ h10 hA Tryd.underlying29 rfl (by kernel_rfl) (.tmp (.cell (w.heap.size + 1 + 1) 34 _ (0, 0) _ h12 hB Tryd.underlying34 rfl (by kernel_rfl) .nil)))
  refine bodyPost_ret (hfin _ _ rfl rfl rfl ?_ ?_) rfl ⟨rfl, ?_⟩
  · repeat (first | (with_reducible refine blk_drewN ?_ _) | (with_reducible refine blk_drew ?_) | (with_reducible refine blk_alloc ?_ _))
    with_reducible refine put5_far (q := w.heap.size + 1 + 1) ?_ (by omega) _ _ _ _ _
    with_reducible refine put5_zC (q := w.heap.size + 1) ?_ _ _ _ _ _
    repeat (first | (with_reducible exact FIVE.out.b1) | (with_reducible refine blk_drewN ?_ _) | (with_reducible refine blk_drew ?_) | (with_reducible refine blk_alloc ?_ _) | (with_reducible refine blk_far ?_ (by (try simp only); omega) _))
  · repeat (first | (with_reducible refine blk_drewN ?_ _) | (with_reducible refine blk_drew ?_) | (with_reducible refine blk_alloc ?_ _))
    with_reducible refine put5_zO (q := w.heap.size + 1 + 1) ?_ _ _ _ _ _
    with_reducible refine put5_far (q := w.heap.size + 1) ?_ (by omega) _ _ _ _ _
    repeat (first | (with_reducible exact FIVE.out.b2) | (with_reducible refine blk_drewN ?_ _) | (with_reducible refine blk_drew ?_) | (with_reducible refine blk_alloc ?_ _) | (with_reducible refine blk_far ?_ (by (try simp only); omega) _))
  · repeat (first | (with_reducible exact HB1.out) | (with_reducible refine bdrewN ?_ _) | (with_reducible refine below_drew ?_) | (with_reducible refine balloc ?_ _) | (with_reducible refine Below.setCell ?_ (by (try simp only); omega) _))


set_option maxHeartbeats 4000000 in
theorem ref_clock (cc : Core) (A : Option Addr) (c : Nat) (code : List (Int × Int × Int)) (M L : Value) (now : Int) (w : World) (hc : CodeAt w A code) (h0 : 0 ≤ cc.pc) (h1 : cc.pc < code.length) (op : Int) (a : Nat) (b : Int)
    (hi : code.getD cc.pc.toNat zI = (op, (a : Int), b)) (hm : Instr.mayB op a b = true) (ha : a < 4) (ho : op = 18) :
    Calls Tryd.prog 13 #[.slice A code.length c, coreV cc, M, L, .int .i64 now] w fun e w' => e = .returned (.tuple #[coreV ⟨cc.pc + 1, upd cc.r a now⟩, M, outV ⟨0, -1, false, true, now⟩]) ∧ Below w.heap.size w w' := by
  subst ho
  have hM : ∀ W, Calls Tryd.prog 23 #[.agg #[.int .i64 18, .int .i64 a, .int .i64 b]] W fun e w' => e = .returned (.bool true) ∧ Below W.heap.size W w' := fun W => by
    obtain ⟨k, hk⟩ := (refmay_ev 18 a b).rounds
    rw [hm] at hk
    exact Pr.quarterdeckref04_May.calls k _ _ _ _ W hk
  obtain ⟨k, hk⟩ : ∃ k : Nat, cc.pc = (k : Int) := ⟨cc.pc.toNat, by omega⟩
  obtain ⟨pc, r⟩ := cc
  simp only at hk h0 h1 hi
  subst hk
  rw [Int.toNat_natCast] at hi
  obtain ⟨ad, rfl, hcell⟩ := hc.2 (by omega)
  have hkl : k < code.length := by omega
  have hk64 := hc.1
  obtain ⟨a0, a1, a2⟩ := hcell k (code.getD k zI) (by rw [List.getD_eq_getElem?_getD, List.getElem?_eq_getElem hkl]; rfl)
  rw [hi] at a0 a1 a2
  have hb0 := World.block_lt_of_cell? w _ a0
  have hbc1 : (ad.add (k * 3)).block < w.heap.size + 1 := by omega
  have hbc2 : (ad.add (k * 3)).block < w.heap.size + 1 + 1 := by omega
  have hbc3 : (ad.add (k * 3)).block < w.heap.size + 1 + 1 + 1 := by omega
  have hba0 : (ad.add (k * 3)).block ≤ w.heap.size := by omega
  have hba1 : (ad.add (k * 3)).block ≤ w.heap.size + 1 := by omega
  have hba2 : (ad.add (k * 3)).block ≤ w.heap.size + 1 + 1 := by omega
  have hba3 : (ad.add (k * 3)).block ≤ w.heap.size + 1 + 1 + 1 := by omega
  have HM := Lib.hid hM
  have d1 : decide ((k : Int) < 0) = false := decide_eq_false (by omega)
  have d2 : decide ((code.length : Int) ≤ (k : Int)) = false := decide_eq_false (by omega)
  have d3 : decide (code.length ≤ k) = false := decide_eq_false (by omega)
  have HA := Lib.hid ha
  simp only at a0 a1 a2
  clear hc hM hcell hi hm ha
  unfold coreV Core.cells
  go_enter Tryd.func13, Tryd.ntmps13
  go_wp2_with fail
  refine (HM.out _).mono ?_
  rintro e w1 ⟨rfl, hb⟩
  have FIVE := Lib.hid ((five_start w ⟨(k : Int), r⟩ 18 a b).below hb)
  have HB1 := Lib.hid (btrans (balloc (balloc (balloc (balloc (balloc (Below.refl _ _) _) _) _) _) _) hb)
  have hsz := HB1.out.size
  have g0_0 : w1.cell? ⟨w.heap.size, 0, none⟩ = some (.int .i64 ((k : Int))) := (blk_cell FIVE.out.b0 0).trans rfl
  have g0_1 : w1.cell? ⟨w.heap.size, 1, none⟩ = some (.int .i64 (r 0)) := (blk_cell FIVE.out.b0 1).trans rfl
  have g0_2 : w1.cell? ⟨w.heap.size, 2, none⟩ = some (.int .i64 (r 1)) := (blk_cell FIVE.out.b0 2).trans rfl
  have g0_3 : w1.cell? ⟨w.heap.size, 3, none⟩ = some (.int .i64 (r 2)) := (blk_cell FIVE.out.b0 3).trans rfl
  have g0_4 : w1.cell? ⟨w.heap.size, 4, none⟩ = some (.int .i64 (r 3)) := (blk_cell FIVE.out.b0 4).trans rfl
  have l0 := blk_lt FIVE.out.b0
  have g1_0 : w1.cell? ⟨w.heap.size + 1, 0, none⟩ = some (.int .i64 0) := (blk_cell FIVE.out.b1 0).trans rfl
  have g1_1 : w1.cell? ⟨w.heap.size + 1, 1, none⟩ = some (.int .i64 0) := (blk_cell FIVE.out.b1 1).trans rfl
  have g1_2 : w1.cell? ⟨w.heap.size + 1, 2, none⟩ = some (.int .i64 0) := (blk_cell FIVE.out.b1 2).trans rfl
  have g1_3 : w1.cell? ⟨w.heap.size + 1, 3, none⟩ = some (.int .i64 0) := (blk_cell FIVE.out.b1 3).trans rfl
  have g1_4 : w1.cell? ⟨w.heap.size + 1, 4, none⟩ = some (.int .i64 0) := (blk_cell FIVE.out.b1 4).trans rfl
  have z1_0 := blk_frozen FIVE.out.b1 0
  have z1_1 := blk_frozen FIVE.out.b1 1
  have z1_2 := blk_frozen FIVE.out.b1 2
  have z1_3 := blk_frozen FIVE.out.b1 3
  have z1_4 := blk_frozen FIVE.out.b1 4
  have l1 := blk_lt FIVE.out.b1
  have g2_0 : w1.cell? ⟨w.heap.size + 1 + 1, 0, none⟩ = some (.int .i64 0) := (blk_cell FIVE.out.b2 0).trans rfl
  have g2_1 : w1.cell? ⟨w.heap.size + 1 + 1, 1, none⟩ = some (.int .i64 0) := (blk_cell FIVE.out.b2 1).trans rfl
  have g2_2 : w1.cell? ⟨w.heap.size + 1 + 1, 2, none⟩ = some (.bool false) := (blk_cell FIVE.out.b2 2).trans rfl
  have g2_3 : w1.cell? ⟨w.heap.size + 1 + 1, 3, none⟩ = some (.bool false) := (blk_cell FIVE.out.b2 3).trans rfl
  have g2_4 : w1.cell? ⟨w.heap.size + 1 + 1, 4, none⟩ = some (.int .i64 0) := (blk_cell FIVE.out.b2 4).trans rfl
  have z2_0 := blk_frozen FIVE.out.b2 0
  have z2_1 := blk_frozen FIVE.out.b2 1
  have z2_2 := blk_frozen FIVE.out.b2 2
  have z2_3 := blk_frozen FIVE.out.b2 3
  have z2_4 := blk_frozen FIVE.out.b2 4
  have l2 := blk_lt FIVE.out.b2
  have g3_0 : w1.cell? ⟨w.heap.size + 1 + 1 + 1, 0, none⟩ = some (.int .i64 0) := (blk_cell FIVE.out.b3 0).trans rfl
  have g3_1 : w1.cell? ⟨w.heap.size + 1 + 1 + 1, 1, none⟩ = some (.int .i64 (-1)) := (blk_cell FIVE.out.b3 1).trans rfl
  have g3_2 : w1.cell? ⟨w.heap.size + 1 + 1 + 1, 2, none⟩ = some (.bool false) := (blk_cell FIVE.out.b3 2).trans rfl
  have g3_3 : w1.cell? ⟨w.heap.size + 1 + 1 + 1, 3, none⟩ = some (.bool false) := (blk_cell FIVE.out.b3 3).trans rfl
  have g3_4 : w1.cell? ⟨w.heap.size + 1 + 1 + 1, 4, none⟩ = some (.int .i64 0) := (blk_cell FIVE.out.b3 4).trans rfl
  have z3_0 := blk_frozen FIVE.out.b3 0
  have z3_1 := blk_frozen FIVE.out.b3 1
  have z3_2 := blk_frozen FIVE.out.b3 2
  have z3_3 := blk_frozen FIVE.out.b3 3
  have z3_4 := blk_frozen FIVE.out.b3 4
  have l3 := blk_lt FIVE.out.b3
  have g4_0 : w1.cell? ⟨w.heap.size + 1 + 1 + 1 + 1, 0, none⟩ = some (.int .i64 (18)) := (blk_cell FIVE.out.b4 0).trans rfl
  have g4_1 : w1.cell? ⟨w.heap.size + 1 + 1 + 1 + 1, 1, none⟩ = some (.int .i64 (a)) := (blk_cell FIVE.out.b4 1).trans rfl
  have g4_2 : w1.cell? ⟨w.heap.size + 1 + 1 + 1 + 1, 2, none⟩ = some (.int .i64 (b)) := (blk_cell FIVE.out.b4 2).trans rfl
  have l4 := blk_lt FIVE.out.b4
  have k0a : w.heap.size ≤ w1.heap.size := by omega
  have k0ab : w.heap.size ≤ w1.heap.size + 1 := by omega
  have k0cb : w.heap.size < w1.heap.size + 1 := by omega
  have k0d : w.heap.size < w1.heap.size := by omega
  have k1a : w.heap.size + 1 ≤ w1.heap.size := by omega
  have k1ab : w.heap.size + 1 ≤ w1.heap.size + 1 := by omega
  have k1cb : w.heap.size + 1 < w1.heap.size + 1 := by omega
  have k1d : w.heap.size + 1 < w1.heap.size := by omega
  have k2a : w.heap.size + 1 + 1 ≤ w1.heap.size := by omega
  have k2ab : w.heap.size + 1 + 1 ≤ w1.heap.size + 1 := by omega
  have k2cb : w.heap.size + 1 + 1 < w1.heap.size + 1 := by omega
  have k2d : w.heap.size + 1 + 1 < w1.heap.size := by omega
  have k3a : w.heap.size + 1 + 1 + 1 ≤ w1.heap.size := by omega
  have k3ab : w.heap.size + 1 + 1 + 1 ≤ w1.heap.size + 1 := by omega
  have k3cb : w.heap.size + 1 + 1 + 1 < w1.heap.size + 1 := by omega
  have k3d : w.heap.size + 1 + 1 + 1 < w1.heap.size := by omega
  have k4a : w.heap.size + 1 + 1 + 1 + 1 ≤ w1.heap.size := by omega
  have k4ab : w.heap.size + 1 + 1 + 1 + 1 ≤ w1.heap.size + 1 := by omega
  have k4cb : w.heap.size + 1 + 1 + 1 + 1 < w1.heap.size + 1 := by omega
  have ga : w1.cell? ⟨w.heap.size, 1 + a, none⟩ = some (.int .i64 (r a)) := (blk_cell FIVE.out.b0 _).trans (core_reg ⟨(k : Int), r⟩ a HA.out)
  have q0 : (0 : Int) ≤ (a : Int) := by omega
  have q1 : (a : Int) < 4 := by have := HA.out; omega
  clear hb a0 a1 a2 hb0 hbc1 hbc2 hbc3 hba0 hba1 hba2 hba3
  have ha4 := HA.out
  have hcase : a = 0 ∨ a = 1 ∨ a = 2 ∨ a = 3 := by omega
  clear ha4 q0 q1
  rcases hcase with rfl | rfl | rfl | rfl
  · have g4_1' : w1.cell? ⟨w.heap.size + 1 + 1 + 1 + 1, 1, none⟩ = some (.int .i64 0) := g4_1
    clear g4_1
    go_wp2_with fail
    go_region
    (try simp only [Exit.then, Exit.inBlock])
    go_wp2_with fail
    have hfin : ∀ (W : World) (ts : Array Value), ts.getD 10 undef = .pointer (some ⟨w.heap.size + 1, 0, none⟩) → ts.getD 11 undef = M → ts.getD 12 undef = .pointer (some ⟨w.heap.size + 1 + 1, 0, none⟩) → W.heap[w.heap.size + 1]? = some (.cells #[.int .i64 ((k : Int) + 1), .int .i64 (now), .int .i64 (r 1), .int .i64 (r 2), .int .i64 (r 3)] 29 (0, 0)) → W.heap[w.heap.size + 1 + 1]? = some (.cells #[.int .i64 (0), .int .i64 (-1), .bool false, .bool true, .int .i64 (now)] 34 (0, 0)) → (results Tryd.f13 ts).run Tryd.prog W = .ok (.tuple #[coreV ⟨(k : Int) + 1, upd r 0 now⟩, M, outV ⟨0, -1, false, true, now⟩]) W := fun W ts h10 h11 h12 hA hB => by
      rw [← h11]
      exact results_list (rs := [.cell 10 29, .tmp 11, .cell 12 34]) rfl (by simp) (.cell (w.heap.size + 1) 29 _ (0, 0) _ h10 hA Tryd.underlying29 rfl (by kernel_rfl) (.tmp (.cell (w.heap.size + 1 + 1) 34 _ (0, 0) _ h12 hB Tryd.underlying34 rfl (by kernel_rfl) .nil)))
    refine bodyPost_ret (hfin _ _ rfl rfl rfl ?_ ?_) rfl ⟨rfl, ?_⟩
    · repeat (first | (with_reducible refine blk_drewN ?_ _) | (with_reducible refine blk_drew ?_) | (with_reducible refine blk_alloc ?_ _))
      with_reducible refine put5_far (q := w.heap.size + 1 + 1) ?_ (by omega) _ _ _ _ _
      with_reducible refine put5_zC (q := w.heap.size + 1) ?_ _ _ _ _ _
      repeat (first | (with_reducible exact FIVE.out.b1) | (with_reducible refine blk_drewN ?_ _) | (with_reducible refine blk_drew ?_) | (with_reducible refine blk_alloc ?_ _) | (with_reducible refine blk_far ?_ (by (try simp only); omega) _))
    · repeat (first | (with_reducible refine blk_drewN ?_ _) | (with_reducible refine blk_drew ?_) | (with_reducible refine blk_alloc ?_ _))
      with_reducible refine put5_zO (q := w.heap.size + 1 + 1) ?_ _ _ _ _ _
      with_reducible refine put5_far (q := w.heap.size + 1) ?_ (by omega) _ _ _ _ _
      repeat (first | (with_reducible exact FIVE.out.b2) | (with_reducible refine blk_drewN ?_ _) | (with_reducible refine blk_drew ?_) | (with_reducible refine blk_alloc ?_ _) | (with_reducible refine blk_far ?_ (by (try simp only); omega) _))
    · repeat (first | (with_reducible exact HB1.out) | (with_reducible refine bdrewN ?_ _) | (with_reducible refine below_drew ?_) | (with_reducible refine balloc ?_ _) | (with_reducible refine Below.setCell ?_ (by (try simp only); omega) _))
  · have g4_1' : w1.cell? ⟨w.heap.size + 1 + 1 + 1 + 1, 1, none⟩ = some (.int .i64 1) := g4_1
    clear g4_1
    go_wp2_with fail
    go_region
    (try simp only [Exit.then, Exit.inBlock])
    go_wp2_with fail
    have hfin : ∀ (W : World) (ts : Array Value), ts.getD 10 undef = .pointer (some ⟨w.heap.size + 1, 0, none⟩) → ts.getD 11 undef = M → ts.getD 12 undef = .pointer (some ⟨w.heap.size + 1 + 1, 0, none⟩) → W.heap[w.heap.size + 1]? = some (.cells #[.int .i64 ((k : Int) + 1), .int .i64 (r 0), .int .i64 (now), .int .i64 (r 2), .int .i64 (r 3)] 29 (0, 0)) → W.heap[w.heap.size + 1 + 1]? = some (.cells #[.int .i64 (0), .int .i64 (-1), .bool false, .bool true, .int .i64 (now)] 34 (0, 0)) → (results Tryd.f13 ts).run Tryd.prog W = .ok (.tuple #[coreV ⟨(k : Int) + 1, upd r 1 now⟩, M, outV ⟨0, -1, false, true, now⟩]) W := fun W ts h10 h11 h12 hA hB => by
      rw [← h11]
      exact results_list (rs := [.cell 10 29, .tmp 11, .cell 12 34]) rfl (by simp) (.cell (w.heap.size + 1) 29 _ (0, 0) _ h10 hA Tryd.underlying29 rfl (by kernel_rfl) (.tmp (.cell (w.heap.size + 1 + 1) 34 _ (0, 0) _ h12 hB Tryd.underlying34 rfl (by kernel_rfl) .nil)))
    refine bodyPost_ret (hfin _ _ rfl rfl rfl ?_ ?_) rfl ⟨rfl, ?_⟩
    · repeat (first | (with_reducible refine blk_drewN ?_ _) | (with_reducible refine blk_drew ?_) | (with_reducible refine blk_alloc ?_ _))
      with_reducible refine put5_far (q := w.heap.size + 1 + 1) ?_ (by omega) _ _ _ _ _
      with_reducible refine put5_zC (q := w.heap.size + 1) ?_ _ _ _ _ _
      repeat (first | (with_reducible exact FIVE.out.b1) | (with_reducible refine blk_drewN ?_ _) | (with_reducible refine blk_drew ?_) | (with_reducible refine blk_alloc ?_ _) | (with_reducible refine blk_far ?_ (by (try simp only); omega) _))
    · repeat (first | (with_reducible refine blk_drewN ?_ _) | (with_reducible refine blk_drew ?_) | (with_reducible refine blk_alloc ?_ _))
      with_reducible refine put5_zO (q := w.heap.size + 1 + 1) ?_ _ _ _ _ _
      with_reducible refine put5_far (q := w.heap.size + 1) ?_ (by omega) _ _ _ _ _
      repeat (first | (with_reducible exact FIVE.out.b2) | (with_reducible refine blk_drewN ?_ _) | (with_reducible refine blk_drew ?_) | (with_reducible refine blk_alloc ?_ _) | (with_reducible refine blk_far ?_ (by (try simp only); omega) _))
    · repeat (first | (with_reducible exact HB1.out) | (with_reducible refine bdrewN ?_ _) | (with_reducible refine below_drew ?_) | (with_reducible refine balloc ?_ _) | (with_reducible refine Below.setCell ?_ (by (try simp only); omega) _))
  · have g4_1' : w1.cell? ⟨w.heap.size + 1 + 1 + 1 + 1, 1, none⟩ = some (.int .i64 2) := g4_1
    clear g4_1
    go_wp2_with fail
    go_region
    (try simp only [Exit.then, Exit.inBlock])
    go_wp2_with fail
    have hfin : ∀ (W : World) (ts : Array Value), ts.getD 10 undef = .pointer (some ⟨w.heap.size + 1, 0, none⟩) → ts.getD 11 undef = M → ts.getD 12 undef = .pointer (some ⟨w.heap.size + 1 + 1, 0, none⟩) → W.heap[w.heap.size + 1]? = some (.cells #[.int .i64 ((k : Int) + 1), .int .i64 (r 0), .int .i64 (r 1), .int .i64 (now), .int .i64 (r 3)] 29 (0, 0)) → W.heap[w.heap.size + 1 + 1]? = some (.cells #[.int .i64 (0), .int .i64 (-1), .bool false, .bool true, .int .i64 (now)] 34 (0, 0)) → (results Tryd.f13 ts).run Tryd.prog W = .ok (.tuple #[coreV ⟨(k : Int) + 1, upd r 2 now⟩, M, outV ⟨0, -1, false, true, now⟩]) W := fun W ts h10 h11 h12 hA hB => by
      rw [← h11]
      exact results_list (rs := [.cell 10 29, .tmp 11, .cell 12 34]) rfl (by simp) (.cell (w.heap.size + 1) 29 _ (0, 0) _ h10 hA Tryd.underlying29 rfl (by kernel_rfl) (.tmp (.cell (w.heap.size + 1 + 1) 34 _ (0, 0) _ h12 hB Tryd.underlying34 rfl (by kernel_rfl) .nil)))
    refine bodyPost_ret (hfin _ _ rfl rfl rfl ?_ ?_) rfl ⟨rfl, ?_⟩
    · repeat (first | (with_reducible refine blk_drewN ?_ _) | (with_reducible refine blk_drew ?_) | (with_reducible refine blk_alloc ?_ _))
      with_reducible refine put5_far (q := w.heap.size + 1 + 1) ?_ (by omega) _ _ _ _ _
      with_reducible refine put5_zC (q := w.heap.size + 1) ?_ _ _ _ _ _
      repeat (first | (with_reducible exact FIVE.out.b1) | (with_reducible refine blk_drewN ?_ _) | (with_reducible refine blk_drew ?_) | (with_reducible refine blk_alloc ?_ _) | (with_reducible refine blk_far ?_ (by (try simp only); omega) _))
    · repeat (first | (with_reducible refine blk_drewN ?_ _) | (with_reducible refine blk_drew ?_) | (with_reducible refine blk_alloc ?_ _))
      with_reducible refine put5_zO (q := w.heap.size + 1 + 1) ?_ _ _ _ _ _
      with_reducible refine put5_far (q := w.heap.size + 1) ?_ (by omega) _ _ _ _ _
      repeat (first | (with_reducible exact FIVE.out.b2) | (with_reducible refine blk_drewN ?_ _) | (with_reducible refine blk_drew ?_) | (with_reducible refine blk_alloc ?_ _) | (with_reducible refine blk_far ?_ (by (try simp only); omega) _))
    · repeat (first | (with_reducible exact HB1.out) | (with_reducible refine bdrewN ?_ _) | (with_reducible refine below_drew ?_) | (with_reducible refine balloc ?_ _) | (with_reducible refine Below.setCell ?_ (by (try simp only); omega) _))
  · have g4_1' : w1.cell? ⟨w.heap.size + 1 + 1 + 1 + 1, 1, none⟩ = some (.int .i64 3) := g4_1
    clear g4_1
    go_wp2_with fail
    go_region
    (try simp only [Exit.then, Exit.inBlock])
    go_wp2_with fail
    have hfin : ∀ (W : World) (ts : Array Value), ts.getD 10 undef = .pointer (some ⟨w.heap.size + 1, 0, none⟩) → ts.getD 11 undef = M → ts.getD 12 undef = .pointer (some ⟨w.heap.size + 1 + 1, 0, none⟩) → W.heap[w.heap.size + 1]? = some (.cells #[.int .i64 ((k : Int) + 1), .int .i64 (r 0), .int .i64 (r 1), .int .i64 (r 2), .int .i64 (now)] 29 (0, 0)) → W.heap[w.heap.size + 1 + 1]? = some (.cells #[.int .i64 (0), .int .i64 (-1), .bool false, .bool true, .int .i64 (now)] 34 (0, 0)) → (results Tryd.f13 ts).run Tryd.prog W = .ok (.tuple #[coreV ⟨(k : Int) + 1, upd r 3 now⟩, M, outV ⟨0, -1, false, true, now⟩]) W := fun W ts h10 h11 h12 hA hB => by
      rw [← h11]
      exact results_list (rs := [.cell 10 29, .tmp 11, .cell 12 34]) rfl (by simp) (.cell (w.heap.size + 1) 29 _ (0, 0) _ h10 hA Tryd.underlying29 rfl (by kernel_rfl) (.tmp (.cell (w.heap.size + 1 + 1) 34 _ (0, 0) _ h12 hB Tryd.underlying34 rfl (by kernel_rfl) .nil)))
    refine bodyPost_ret (hfin _ _ rfl rfl rfl ?_ ?_) rfl ⟨rfl, ?_⟩
    · repeat (first | (with_reducible refine blk_drewN ?_ _) | (with_reducible refine blk_drew ?_) | (with_reducible refine blk_alloc ?_ _))
      with_reducible refine put5_far (q := w.heap.size + 1 + 1) ?_ (by omega) _ _ _ _ _
      with_reducible refine put5_zC (q := w.heap.size + 1) ?_ _ _ _ _ _
      repeat (first | (with_reducible exact FIVE.out.b1) | (with_reducible refine blk_drewN ?_ _) | (with_reducible refine blk_drew ?_) | (with_reducible refine blk_alloc ?_ _) | (with_reducible refine blk_far ?_ (by (try simp only); omega) _))
    · repeat (first | (with_reducible refine blk_drewN ?_ _) | (with_reducible refine blk_drew ?_) | (with_reducible refine blk_alloc ?_ _))
      with_reducible refine put5_zO (q := w.heap.size + 1 + 1) ?_ _ _ _ _ _
      with_reducible refine put5_far (q := w.heap.size + 1) ?_ (by omega) _ _ _ _ _
      repeat (first | (with_reducible exact FIVE.out.b2) | (with_reducible refine blk_drewN ?_ _) | (with_reducible refine blk_drew ?_) | (with_reducible refine blk_alloc ?_ _) | (with_reducible refine blk_far ?_ (by (try simp only); omega) _))
    · repeat (first | (with_reducible exact HB1.out) | (with_reducible refine bdrewN ?_ _) | (with_reducible refine below_drew ?_) | (with_reducible refine balloc ?_ _) | (with_reducible refine Below.setCell ?_ (by (try simp only); omega) _))


end Go.Proofs.YtlphgnfjemaliaaDoor.RefStep

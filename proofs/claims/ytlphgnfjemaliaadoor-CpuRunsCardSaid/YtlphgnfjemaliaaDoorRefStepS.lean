/-
  quarterdeckref05.Step walked: what it answers, way by way (a word stored).
  Conditions: the arguments lie in memory as told; the callees' contracts are handed in.
-/
import Derived.Test.YtlphgnfjemaliaaDoorRefStep
import Derived.BigRegion
namespace Go.Proofs.YtlphgnfjemaliaaDoor.RefStep
set_option maxRecDepth 100000
set_option linter.unusedVariables false
set_option linter.unusedSimpArgs false
open Go.RowKit Go.Proofs.YtlphgnfjemaliaaDoorW.PrintWords Go.Proofs.YtlphgnfjemaliaaDoor.Mem Go.Proofs.YtlphgnfjemaliaaDoor.CpuA Go.Proofs.YtlphgnfjemaliaaDoor.CpuB Go.Proofs.YtlphgnfjemaliaaDoor.CpuC Go.Proofs.YtlphgnfjemaliaaDoor.CpuS Go.Proofs.YtlphgnfjemaliaaDoor.CpuL Go.Proofs.YtlphgnfjemaliaaDoor.PureC

set_option maxHeartbeats 4000000 in
theorem ref_store (cc : Core) (A : Option Addr) (c : Nat) (code : List (Int × Int × Int)) (M L : Value) (now : Int) (w : World) (hc : CodeAt w A code) (h0 : 0 ≤ cc.pc) (h1 : cc.pc < code.length) (op : Int) (a : Nat) (b : Nat)
    (hi : code.getD cc.pc.toNat zI = (op, (a : Int), (b : Int))) (hm : Instr.mayB op a b = true) (ha : a < 4) (ho : op = 9) (hb4 : b < 4) (mm : List Int) (hSt : ∀ W, Below w.heap.size w W → Calls Tryd.prog 26 #[M, L, .int .i64 (cc.r b), .int .i64 (cc.r a)] W fun e w' => ∃ v, e = .returned (.tuple #[v, .int .i64 0]) ∧ (Kd.int .i64).R 3 w' W.heap.size (fun _ => True) v mm ∧ Below W.heap.size W w') :
    Calls Tryd.prog 13 #[.slice A code.length c, coreV cc, M, L, .int .i64 now] w fun e w' => ∃ v, e = .returned (.tuple #[coreV ⟨cc.pc + 1, cc.r⟩, v, outV out0]) ∧ (Kd.int .i64).R 3 w' w.heap.size (fun _ => True) v mm ∧ Below w.heap.size w w' := by
  subst ho
  have hM : ∀ W, Calls Tryd.prog 23 #[.agg #[.int .i64 9, .int .i64 a, .int .i64 b]] W fun e w' => e = .returned (.bool true) ∧ Below W.heap.size W w' := fun W => by
    obtain ⟨k, hk⟩ := (refmay_ev 9 a b).rounds
    rw [hm] at hk
    exact Pr.quarterdeckref04_May.calls k _ _ _ _ W hk
  obtain ⟨k, hk⟩ : ∃ k : Nat, cc.pc = (k : Int) := ⟨cc.pc.toNat, by omega⟩
  obtain ⟨pc, r⟩ := cc
  simp only at hk h0 h1 hi
  subst hk
  rw [Int.toNat_natCast] at hi
  obtain ⟨ad, rfl, hcell⟩ := hc.2 (by omega)
  have hkl : k < code.length := by omega
  have hk64 := hc.1
  obtain ⟨a0, a1, a2⟩ := hcell k (code.getD k zI) (by rw [List.getD_eq_getElem?_getD, List.getElem?_eq_getElem hkl]; rfl)
  rw [hi] at a0 a1 a2
  have hb0 := World.block_lt_of_cell? w _ a0
  have hbc1 : (ad.add (k * 3)).block < w.heap.size + 1 := by omega
  have hbc2 : (ad.add (k * 3)).block < w.heap.size + 1 + 1 := by omega
  have hbc3 : (ad.add (k * 3)).block < w.heap.size + 1 + 1 + 1 := by omega
  have hba0 : (ad.add (k * 3)).block ≤ w.heap.size := by omega
  have hba1 : (ad.add (k * 3)).block ≤ w.heap.size + 1 := by omega
  have hba2 : (ad.add (k * 3)).block ≤ w.heap.size + 1 + 1 := by omega
  have hba3 : (ad.add (k * 3)).block ≤ w.heap.size + 1 + 1 + 1 := by omega
  have HM := Lib.hid hM
  have d1 : decide ((k : Int) < 0) = false := decide_eq_false (by omega)
  have d2 : decide ((code.length : Int) ≤ (k : Int)) = false := decide_eq_false (by omega)
  have d3 : decide (code.length ≤ k) = false := decide_eq_false (by omega)
  have HA := Lib.hid ha
  simp only at a0 a1 a2
  simp only at hSt
  have HST := Lib.hid hSt
  have HBB := Lib.hid hb4
  clear hSt hb4
  clear hc hM hcell hi hm ha
  unfold coreV Core.cells
  go_enter Tryd.func13, Tryd.ntmps13
  go_wp2_with fail
  refine (HM.out _).mono ?_
  rintro e w1 ⟨rfl, hb⟩
  have FIVE := Lib.hid ((five_start w ⟨(k : Int), r⟩ 9 a b).below hb)
  have HB1 := Lib.hid (btrans (balloc (balloc (balloc (balloc (balloc (Below.refl _ _) _) _) _) _) _) hb)
  have hsz := HB1.out.size
  have g0_0 : w1.cell? ⟨w.heap.size, 0, none⟩ = some (.int .i64 ((k : Int))) := (blk_cell FIVE.out.b0 0).trans rfl
  have g0_1 : w1.cell? ⟨w.heap.size, 1, none⟩ = some (.int .i64 (r 0)) := (blk_cell FIVE.out.b0 1).trans rfl
  have g0_2 : w1.cell? ⟨w.heap.size, 2, none⟩ = some (.int .i64 (r 1)) := (blk_cell FIVE.out.b0 2).trans rfl
  have g0_3 : w1.cell? ⟨w.heap.size, 3, none⟩ = some (.int .i64 (r 2)) := (blk_cell FIVE.out.b0 3).trans rfl
  have g0_4 : w1.cell? ⟨w.heap.size, 4, none⟩ = some (.int .i64 (r 3)) := (blk_cell FIVE.out.b0 4).trans rfl
  have l0 := blk_lt FIVE.out.b0
  have g1_0 : w1.cell? ⟨w.heap.size + 1, 0, none⟩ = some (.int .i64 0) := (blk_cell FIVE.out.b1 0).trans rfl
  have g1_1 : w1.cell? ⟨w.heap.size + 1, 1, none⟩ = some (.int .i64 0) := (blk_cell FIVE.out.b1 1).trans rfl
  have g1_2 : w1.cell? ⟨w.heap.size + 1, 2, none⟩ = some (.int .i64 0) := (blk_cell FIVE.out.b1 2).trans rfl
  have g1_3 : w1.cell? ⟨w.heap.size + 1, 3, none⟩ = some (.int .i64 0) := (blk_cell FIVE.out.b1 3).trans rfl
  have g1_4 : w1.cell? ⟨w.heap.size + 1, 4, none⟩ = some (.int .i64 0) := (blk_cell FIVE.out.b1 4).trans rfl
  have z1_0 := blk_frozen FIVE.out.b1 0
  have z1_1 := blk_frozen FIVE.out.b1 1
  have z1_2 := blk_frozen FIVE.out.b1 2
  have z1_3 := blk_frozen FIVE.out.b1 3
  have z1_4 := blk_frozen FIVE.out.b1 4
  have l1 := blk_lt FIVE.out.b1
  have g2_0 : w1.cell? ⟨w.heap.size + 1 + 1, 0, none⟩ = some (.int .i64 0) := (blk_cell FIVE.out.b2 0).trans rfl
  have g2_1 : w1.cell? ⟨w.heap.size + 1 + 1, 1, none⟩ = some (.int .i64 0) := (blk_cell FIVE.out.b2 1).trans rfl
  have g2_2 : w1.cell? ⟨w.heap.size + 1 + 1, 2, none⟩ = some (.bool false) := (blk_cell FIVE.out.b2 2).trans rfl
  have g2_3 : w1.cell? ⟨w.heap.size + 1 + 1, 3, none⟩ = some (.bool false) := (blk_cell FIVE.out.b2 3).trans rfl
  have g2_4 : w1.cell? ⟨w.heap.size + 1 + 1, 4, none⟩ = some (.int .i64 0) := (blk_cell FIVE.out.b2 4).trans rfl
  have z2_0 := blk_frozen FIVE.out.b2 0
  have z2_1 := blk_frozen FIVE.out.b2 1
  have z2_2 := blk_frozen FIVE.out.b2 2
  have z2_3 := blk_frozen FIVE.out.b2 3
  have z2_4 := blk_frozen FIVE.out.b2 4
  have l2 := blk_lt FIVE.out.b2
  have g3_0 : w1.cell? ⟨w.heap.size + 1 + 1 + 1, 0, none⟩ = some (.int .i64 0) := (blk_cell FIVE.out.b3 0).trans rfl
  have g3_1 : w1.cell? ⟨w.heap.size + 1 + 1 + 1, 1, none⟩ = some (.int .i64 (-1)) := (blk_cell FIVE.out.b3 1).trans rfl
  have g3_2 : w1.cell? ⟨w.heap.size + 1 + 1 + 1, 2, none⟩ = some (.bool false) := (blk_cell FIVE.out.b3 2).trans rfl
  have g3_3 : w1.cell? ⟨w.heap.size + 1 + 1 + 1, 3, none⟩ = some (.bool false) := (blk_cell FIVE.out.b3 3).trans rfl
  have g3_4 : w1.cell? ⟨w.heap.size + 1 + 1 + 1, 4, none⟩ = some (.int .i64 0) := (blk_cell FIVE.out.b3 4).trans rfl
  have z3_0 := blk_frozen FIVE.out.b3 0
  have z3_1 := blk_frozen FIVE.out.b3 1
  have z3_2 := blk_frozen FIVE.out.b3 2
  have z3_3 := blk_frozen FIVE.out.b3 3
  have z3_4 := blk_frozen FIVE.out.b3 4
  have l3 := blk_lt FIVE.out.b3
  have g4_0 : w1.cell? ⟨w.heap.size + 1 + 1 + 1 + 1, 0, none⟩ = some (.int .i64 (9)) := (blk_cell FIVE.out.b4 0).trans rfl
  have g4_1 : w1.cell? ⟨w.heap.size + 1 + 1 + 1 + 1, 1, none⟩ = some (.int .i64 (a)) := (blk_cell FIVE.out.b4 1).trans rfl
  have g4_2 : w1.cell? ⟨w.heap.size + 1 + 1 + 1 + 1, 2, none⟩ = some (.int .i64 (b)) := (blk_cell FIVE.out.b4 2).trans rfl
  have l4 := blk_lt FIVE.out.b4
  have k0a : w.heap.size ≤ w1.heap.size := by omega
  have k0ab : w.heap.size ≤ w1.heap.size + 1 := by omega
  have k0cb : w.heap.size < w1.heap.size + 1 := by omega
  have k0d : w.heap.size < w1.heap.size := by omega
  have k1a : w.heap.size + 1 ≤ w1.heap.size := by omega
  have k1ab : w.heap.size + 1 ≤ w1.heap.size + 1 := by omega
  have k1cb : w.heap.size + 1 < w1.heap.size + 1 := by omega
  have k1d : w.heap.size + 1 < w1.heap.size := by omega
  have k2a : w.heap.size + 1 + 1 ≤ w1.heap.size := by omega
  have k2ab : w.heap.size + 1 + 1 ≤ w1.heap.size + 1 := by omega
  have k2cb : w.heap.size + 1 + 1 < w1.heap.size + 1 := by omega
  have k2d : w.heap.size + 1 + 1 < w1.heap.size := by omega
  have k3a : w.heap.size + 1 + 1 + 1 ≤ w1.heap.size := by omega
  have k3ab : w.heap.size + 1 + 1 + 1 ≤ w1.heap.size + 1 := by omega
  have k3cb : w.heap.size + 1 + 1 + 1 < w1.heap.size + 1 := by omega
  have k3d : w.heap.size + 1 + 1 + 1 < w1.heap.size := by omega
  have k4a : w.heap.size + 1 + 1 + 1 + 1 ≤ w1.heap.size := by omega
  have k4ab : w.heap.size + 1 + 1 + 1 + 1 ≤ w1.heap.size + 1 := by omega
  have k4cb : w.heap.size + 1 + 1 + 1 + 1 < w1.heap.size + 1 := by omega
  have ga : w1.cell? ⟨w.heap.size, 1 + a, none⟩ = some (.int .i64 (r a)) := (blk_cell FIVE.out.b0 _).trans (core_reg ⟨(k : Int), r⟩ a HA.out)
  have q0 : (0 : Int) ≤ (a : Int) := by omega
  have q1 : (a : Int) < 4 := by have := HA.out; omega
  clear hb a0 a1 a2 hb0 hbc1 hbc2 hbc3 hba0 hba1 hba2 hba3
  have gb : w1.cell? ⟨w.heap.size, 1 + b, none⟩ = some (.int .i64 (r b)) := (blk_cell FIVE.out.b0 _).trans (core_reg ⟨(k : Int), r⟩ b HBB.out)
  have p0 : (0 : Int) ≤ (b : Int) := by omega
  have p1 : (b : Int) < 4 := by have := HBB.out; omega
  go_wp2_with fail
  go_region_with ((go_at_call 26; refine (HST.out _ (by first | exact bdrewN (balloc HB1.out _) _ | exact balloc HB1.out _)).mono ?_; rintro e w2 ⟨v, rfl, hrr, hb2⟩; obtain ⟨hcc, hff⟩ := bcell2 hb2; obtain ⟨V1, V2, rfl, _, _⟩ := Kd.R_reads hrr))
  all_goals (
    have FIVE2 := Lib.hid ((Five.below FIVE.out (by first | exact bdrewN (balloc (Below.refl _ _) (.cells #[.int .i64 ((k : Int) + 1), .int .i64 (r 0), .int .i64 (r 1), .int .i64 (r 2), .int .i64 (r 3)] 29)) _ | exact balloc (Below.refl _ _) (.cells #[.int .i64 ((k : Int) + 1), .int .i64 (r 0), .int .i64 (r 1), .int .i64 (r 2), .int .i64 (r 3)] 29))).below hb2)
    have DB2 := Lib.hid (blk_below (by first | exact blk_drewN (blk_new w1 (.cells #[.int .i64 ((k : Int) + 1), .int .i64 (r 0), .int .i64 (r 1), .int .i64 (r 2), .int .i64 (r 3)] 29)) _ | exact blk_new w1 (.cells #[.int .i64 ((k : Int) + 1), .int .i64 (r 0), .int .i64 (r 1), .int .i64 (r 2), .int .i64 (r 3)] 29)) hb2)
    have HB2 := Lib.hid (btrans (by first | exact bdrewN (balloc HB1.out (.cells #[.int .i64 ((k : Int) + 1), .int .i64 (r 0), .int .i64 (r 1), .int .i64 (r 2), .int .i64 (r 3)] 29)) _ | exact balloc HB1.out (.cells #[.int .i64 ((k : Int) + 1), .int .i64 (r 0), .int .i64 (r 1), .int .i64 (r 2), .int .i64 (r 3)] 29)) hb2)
    have HRR := Lib.hid hrr
    have hbs : w1.heap.size + 1 ≤ ((w1.alloc (.cells #[.int .i64 ((k : Int) + 1), .int .i64 (r 0), .int .i64 (r 1), .int .i64 (r 2), .int .i64 (r 3)] 29))).heap.size := by rw [alloc_size]; exact Nat.le_refl _
    clear hcc hff hb2 hrr ga gb
    have hs1 := hsz
    have hl4 := blk_lt FIVE.out.b4
    clear g0_0 g0_1 g0_2 g0_3 g0_4 g1_0 g1_1 g1_2 g1_3 g1_4 g2_0 g2_1 g2_2 g2_3 g2_4 g3_0 g3_1 g3_2 g3_3 g3_4 g4_0 g4_1 g4_2 z1_0 z1_1 z1_2 z1_3 z1_4 z2_0 z2_1 z2_2 z2_3 z2_4 z3_0 z3_1 z3_2 z3_3 z3_4 l0 l1 l2 l3 l4 k0a k0ab k0cb k0d k1a k1ab k1cb k1d k2a k2ab k2cb k2d k3a k3ab k3cb k3d k4a k4ab k4cb
    have g0_0 : w2.cell? ⟨w.heap.size, 0, none⟩ = some (.int .i64 ((k : Int))) := (blk_cell FIVE2.out.b0 0).trans rfl
    have g0_1 : w2.cell? ⟨w.heap.size, 1, none⟩ = some (.int .i64 (r 0)) := (blk_cell FIVE2.out.b0 1).trans rfl
    have g0_2 : w2.cell? ⟨w.heap.size, 2, none⟩ = some (.int .i64 (r 1)) := (blk_cell FIVE2.out.b0 2).trans rfl
    have g0_3 : w2.cell? ⟨w.heap.size, 3, none⟩ = some (.int .i64 (r 2)) := (blk_cell FIVE2.out.b0 3).trans rfl
    have g0_4 : w2.cell? ⟨w.heap.size, 4, none⟩ = some (.int .i64 (r 3)) := (blk_cell FIVE2.out.b0 4).trans rfl
    have l0 := blk_lt FIVE2.out.b0
    have g1_0 : w2.cell? ⟨w.heap.size + 1, 0, none⟩ = some (.int .i64 0) := (blk_cell FIVE2.out.b1 0).trans rfl
    have g1_1 : w2.cell? ⟨w.heap.size + 1, 1, none⟩ = some (.int .i64 0) := (blk_cell FIVE2.out.b1 1).trans rfl
    have g1_2 : w2.cell? ⟨w.heap.size + 1, 2, none⟩ = some (.int .i64 0) := (blk_cell FIVE2.out.b1 2).trans rfl
    have g1_3 : w2.cell? ⟨w.heap.size + 1, 3, none⟩ = some (.int .i64 0) := (blk_cell FIVE2.out.b1 3).trans rfl
    have g1_4 : w2.cell? ⟨w.heap.size + 1, 4, none⟩ = some (.int .i64 0) := (blk_cell FIVE2.out.b1 4).trans rfl
    have z1_0 := blk_frozen FIVE2.out.b1 0
    have z1_1 := blk_frozen FIVE2.out.b1 1
    have z1_2 := blk_frozen FIVE2.out.b1 2
    have z1_3 := blk_frozen FIVE2.out.b1 3
    have z1_4 := blk_frozen FIVE2.out.b1 4
    have l1 := blk_lt FIVE2.out.b1
    have g2_0 : w2.cell? ⟨w.heap.size + 1 + 1, 0, none⟩ = some (.int .i64 0) := (blk_cell FIVE2.out.b2 0).trans rfl
    have g2_1 : w2.cell? ⟨w.heap.size + 1 + 1, 1, none⟩ = some (.int .i64 0) := (blk_cell FIVE2.out.b2 1).trans rfl
    have g2_2 : w2.cell? ⟨w.heap.size + 1 + 1, 2, none⟩ = some (.bool false) := (blk_cell FIVE2.out.b2 2).trans rfl
    have g2_3 : w2.cell? ⟨w.heap.size + 1 + 1, 3, none⟩ = some (.bool false) := (blk_cell FIVE2.out.b2 3).trans rfl
    have g2_4 : w2.cell? ⟨w.heap.size + 1 + 1, 4, none⟩ = some (.int .i64 0) := (blk_cell FIVE2.out.b2 4).trans rfl
    have z2_0 := blk_frozen FIVE2.out.b2 0
    have z2_1 := blk_frozen FIVE2.out.b2 1
    have z2_2 := blk_frozen FIVE2.out.b2 2
    have z2_3 := blk_frozen FIVE2.out.b2 3
    have z2_4 := blk_frozen FIVE2.out.b2 4
    have l2 := blk_lt FIVE2.out.b2
    have g3_0 : w2.cell? ⟨w.heap.size + 1 + 1 + 1, 0, none⟩ = some (.int .i64 0) := (blk_cell FIVE2.out.b3 0).trans rfl
    have g3_1 : w2.cell? ⟨w.heap.size + 1 + 1 + 1, 1, none⟩ = some (.int .i64 (-1)) := (blk_cell FIVE2.out.b3 1).trans rfl
    have g3_2 : w2.cell? ⟨w.heap.size + 1 + 1 + 1, 2, none⟩ = some (.bool false) := (blk_cell FIVE2.out.b3 2).trans rfl
    have g3_3 : w2.cell? ⟨w.heap.size + 1 + 1 + 1, 3, none⟩ = some (.bool false) := (blk_cell FIVE2.out.b3 3).trans rfl
    have g3_4 : w2.cell? ⟨w.heap.size + 1 + 1 + 1, 4, none⟩ = some (.int .i64 0) := (blk_cell FIVE2.out.b3 4).trans rfl
    have z3_0 := blk_frozen FIVE2.out.b3 0
    have z3_1 := blk_frozen FIVE2.out.b3 1
    have z3_2 := blk_frozen FIVE2.out.b3 2
    have z3_3 := blk_frozen FIVE2.out.b3 3
    have z3_4 := blk_frozen FIVE2.out.b3 4
    have l3 := blk_lt FIVE2.out.b3
    have g4_0 : w2.cell? ⟨w.heap.size + 1 + 1 + 1 + 1, 0, none⟩ = some (.int .i64 (9)) := (blk_cell FIVE2.out.b4 0).trans rfl
    have g4_1 : w2.cell? ⟨w.heap.size + 1 + 1 + 1 + 1, 1, none⟩ = some (.int .i64 (a)) := (blk_cell FIVE2.out.b4 1).trans rfl
    have g4_2 : w2.cell? ⟨w.heap.size + 1 + 1 + 1 + 1, 2, none⟩ = some (.int .i64 (b)) := (blk_cell FIVE2.out.b4 2).trans rfl
    have l4 := blk_lt FIVE2.out.b4
    have k0a : w.heap.size ≤ w2.heap.size := by omega
    have k0ab : w.heap.size ≤ w2.heap.size + 1 := by omega
    have k0cb : w.heap.size < w2.heap.size + 1 := by omega
    have k0d : w.heap.size < w2.heap.size := by omega
    have k1a : w.heap.size + 1 ≤ w2.heap.size := by omega
    have k1ab : w.heap.size + 1 ≤ w2.heap.size + 1 := by omega
    have k1cb : w.heap.size + 1 < w2.heap.size + 1 := by omega
    have k1d : w.heap.size + 1 < w2.heap.size := by omega
    have k2a : w.heap.size + 1 + 1 ≤ w2.heap.size := by omega
    have k2ab : w.heap.size + 1 + 1 ≤ w2.heap.size + 1 := by omega
    have k2cb : w.heap.size + 1 + 1 < w2.heap.size + 1 := by omega
    have k2d : w.heap.size + 1 + 1 < w2.heap.size := by omega
    have k3a : w.heap.size + 1 + 1 + 1 ≤ w2.heap.size := by omega
    have k3ab : w.heap.size + 1 + 1 + 1 ≤ w2.heap.size + 1 := by omega
    have k3cb : w.heap.size + 1 + 1 + 1 < w2.heap.size + 1 := by omega
    have k3d : w.heap.size + 1 + 1 + 1 < w2.heap.size := by omega
    have k4a : w.heap.size + 1 + 1 + 1 + 1 ≤ w2.heap.size := by omega
    have k4ab : w.heap.size + 1 + 1 + 1 + 1 ≤ w2.heap.size + 1 := by omega
    have k4cb : w.heap.size + 1 + 1 + 1 + 1 < w2.heap.size + 1 := by omega
    have gd_0 : w2.cell? ⟨w1.heap.size, 0, none⟩ = some (.int .i64 ((k : Int) + 1)) := (blk_cell DB2.out 0).trans rfl
    have gd_1 : w2.cell? ⟨w1.heap.size, 1, none⟩ = some (.int .i64 (r 0)) := (blk_cell DB2.out 1).trans rfl
    have gd_2 : w2.cell? ⟨w1.heap.size, 2, none⟩ = some (.int .i64 (r 1)) := (blk_cell DB2.out 2).trans rfl
    have gd_3 : w2.cell? ⟨w1.heap.size, 3, none⟩ = some (.int .i64 (r 2)) := (blk_cell DB2.out 3).trans rfl
    have gd_4 : w2.cell? ⟨w1.heap.size, 4, none⟩ = some (.int .i64 (r 3)) := (blk_cell DB2.out 4).trans rfl
    have zd_0 := blk_frozen DB2.out 0
    have zd_1 := blk_frozen DB2.out 1
    have zd_2 := blk_frozen DB2.out 2
    have zd_3 := blk_frozen DB2.out 3
    have zd_4 := blk_frozen DB2.out 4
    have ld := blk_lt DB2.out
    have lda : w1.heap.size ≤ w2.heap.size := by omega
    have ldb : w1.heap.size ≤ w2.heap.size + 1 := by omega
    have ldc : w1.heap.size < w2.heap.size + 1 := by omega
    have e0d : ¬ w.heap.size = w1.heap.size := by omega
    have e0e : ¬ w1.heap.size = w.heap.size := by omega
    have e1d : ¬ w.heap.size + 1 = w1.heap.size := by omega
    have e1e : ¬ w1.heap.size = w.heap.size + 1 := by omega
    have e2d : ¬ w.heap.size + 1 + 1 = w1.heap.size := by omega
    have e2e : ¬ w1.heap.size = w.heap.size + 1 + 1 := by omega
    have e3d : ¬ w.heap.size + 1 + 1 + 1 = w1.heap.size := by omega
    have e3e : ¬ w1.heap.size = w.heap.size + 1 + 1 + 1 := by omega
    have e4d : ¬ w.heap.size + 1 + 1 + 1 + 1 = w1.heap.size := by omega
    have e4e : ¬ w1.heap.size = w.heap.size + 1 + 1 + 1 + 1 := by omega
    go_wp2_with fail
    refine (rwrong_zero _).mono ?_
    rintro e w3 ⟨rfl, nn, rfl⟩
    go_wp2_with fail
    go_region
    (try simp only [Exit.then, Exit.inBlock])
    go_wp2_with fail
    have hfin : ∀ (W : World) (ts : Array Value), ts.getD 10 undef = .pointer (some ⟨w.heap.size + 1, 0, none⟩) → ts.getD 11 undef = (.slice V1 mm.length V2) → ts.getD 12 undef = .pointer (some ⟨w.heap.size + 1 + 1, 0, none⟩) → W.heap[w.heap.size + 1]? = some (.cells #[.int .i64 ((k : Int) + 1), .int .i64 (r 0), .int .i64 (r 1), .int .i64 (r 2), .int .i64 (r 3)] 29 (0, 0)) → W.heap[w.heap.size + 1 + 1]? = some (.cells #[.int .i64 (0), .int .i64 (-1), .bool false, .bool false, .int .i64 (0)] 34 (0, 0)) → (results Tryd.f13 ts).run Tryd.prog W = .ok (.tuple #[coreV ⟨(k : Int) + 1, r⟩, (.slice V1 mm.length V2), outV out0]) W := fun W ts h10 h11 h12 hA hB => by
      rw [← h11]
      exact results_list (rs := [.cell 10 29, .tmp 11, .cell 12 34]) rfl (by simp) (.cell (w.heap.size + 1) 29 _ (0, 0) _ h10 hA Tryd.underlying29 rfl (by kernel_rfl) (.tmp (.cell (w.heap.size + 1 + 1) 34 _ (0, 0) _ h12 hB Tryd.underlying34 rfl (by kernel_rfl) .nil)))
    refine bodyPost_ret (hfin _ _ rfl rfl rfl ?_ ?_) rfl ⟨_, rfl, ?_, ?_⟩
    · repeat (first | (with_reducible refine blk_drewN ?_ _) | (with_reducible refine blk_drew ?_) | (with_reducible refine blk_alloc ?_ _))
      with_reducible refine put5_far (q := w.heap.size + 1 + 1) ?_ (by omega) _ _ _ _ _
      with_reducible refine put5_zC (q := w.heap.size + 1) ?_ _ _ _ _ _
      repeat (first | (with_reducible exact FIVE2.out.b1) | (with_reducible refine blk_drewN ?_ _) | (with_reducible refine blk_drew ?_) | (with_reducible refine blk_alloc ?_ _) | (with_reducible refine blk_far ?_ (by (try simp only); omega) _))
    · repeat (first | (with_reducible refine blk_drewN ?_ _) | (with_reducible refine blk_drew ?_) | (with_reducible refine blk_alloc ?_ _))
      with_reducible refine put5_zO (q := w.heap.size + 1 + 1) ?_ _ _ _ _ _
      with_reducible refine put5_far (q := w.heap.size + 1) ?_ (by omega) _ _ _ _ _
      repeat (first | (with_reducible exact FIVE2.out.b2) | (with_reducible refine blk_drewN ?_ _) | (with_reducible refine blk_drew ?_) | (with_reducible refine blk_alloc ?_ _) | (with_reducible refine blk_far ?_ (by (try simp only); omega) _))
    · refine Kd.R_mono (Kd.R_lower (Kd.R_step (Kd.R_bound HRR.out) (fun q hq _ => ?_)) ?_) (fun _ _ => trivial)
      · have hq1 : w1.heap.size + 1 ≤ q := Nat.le_trans hbs hq.2.1
        have hs9 := hsz
        have hl9 := blk_lt FIVE.out.b4
        repeat (first | (with_reducible rfl) | (with_reducible refine (h_drew _ _).trans ?_) | (with_reducible refine (h_drewN _ _ _).trans ?_) | (with_reducible refine (Below.heap_setCell _ _ _ _ (by (try simp only); omega)).trans ?_))
      · have hs9 := hsz
        exact Nat.le_trans (Nat.le_succ_of_le hs9) hbs
    · repeat (first | (with_reducible exact HB2.out) | (with_reducible refine bdrewN ?_ _) | (with_reducible refine below_drew ?_) | (with_reducible refine balloc ?_ _) | (with_reducible refine Below.setCell ?_ (by (try simp only); omega) _)))


set_option maxHeartbeats 4000000 in
theorem ref_store_bad (cc : Core) (A : Option Addr) (c : Nat) (code : List (Int × Int × Int)) (M L : Value) (now : Int) (w : World) (hc : CodeAt w A code) (h0 : 0 ≤ cc.pc) (h1 : cc.pc < code.length) (op : Int) (a : Nat) (b : Nat)
    (hi : code.getD cc.pc.toNat zI = (op, (a : Int), (b : Int))) (hm : Instr.mayB op a b = true) (ha : a < 4) (ho : op = 9) (hb4 : b < 4) (mm : List Int) (er : Int) (her : ¬ er = 0) (hSt : ∀ W, Below w.heap.size w W → Calls Tryd.prog 26 #[M, L, .int .i64 (cc.r b), .int .i64 (cc.r a)] W fun e w' => ∃ v, e = .returned (.tuple #[v, .int .i64 er]) ∧ (Kd.int .i64).R 3 w' W.heap.size (fun _ => True) v mm ∧ Below W.heap.size W w') :
    Calls Tryd.prog 13 #[.slice A code.length c, coreV cc, M, L, .int .i64 now] w fun e w' => e = .returned (.tuple #[coreV cc, M, outV ⟨5, -1, false, false, 0⟩]) ∧ Below w.heap.size w w' := by
  subst ho
  have hM : ∀ W, Calls Tryd.prog 23 #[.agg #[.int .i64 9, .int .i64 a, .int .i64 b]] W fun e w' => e = .returned (.bool true) ∧ Below W.heap.size W w' := fun W => by
    obtain ⟨k, hk⟩ := (refmay_ev 9 a b).rounds
    rw [hm] at hk
    exact Pr.quarterdeckref04_May.calls k _ _ _ _ W hk
  obtain ⟨k, hk⟩ : ∃ k : Nat, cc.pc = (k : Int) := ⟨cc.pc.toNat, by omega⟩
  obtain ⟨pc, r⟩ := cc
  simp only at hk h0 h1 hi
  subst hk
  rw [Int.toNat_natCast] at hi
  obtain ⟨ad, rfl, hcell⟩ := hc.2 (by omega)
  have hkl : k < code.length := by omega
  have hk64 := hc.1
  obtain ⟨a0, a1, a2⟩ := hcell k (code.getD k zI) (by rw [List.getD_eq_getElem?_getD, List.getElem?_eq_getElem hkl]; rfl)
  rw [hi] at a0 a1 a2
  have hb0 := World.block_lt_of_cell? w _ a0
  have hbc1 : (ad.add (k * 3)).block < w.heap.size + 1 := by omega
  have hbc2 : (ad.add (k * 3)).block < w.heap.size + 1 + 1 := by omega
  have hbc3 : (ad.add (k * 3)).block < w.heap.size + 1 + 1 + 1 := by omega
  have hba0 : (ad.add (k * 3)).block ≤ w.heap.size := by omega
  have hba1 : (ad.add (k * 3)).block ≤ w.heap.size + 1 := by omega
  have hba2 : (ad.add (k * 3)).block ≤ w.heap.size + 1 + 1 := by omega
  have hba3 : (ad.add (k * 3)).block ≤ w.heap.size + 1 + 1 + 1 := by omega
  have HM := Lib.hid hM
  have d1 : decide ((k : Int) < 0) = false := decide_eq_false (by omega)
  have d2 : decide ((code.length : Int) ≤ (k : Int)) = false := decide_eq_false (by omega)
  have d3 : decide (code.length ≤ k) = false := decide_eq_false (by omega)
  have HA := Lib.hid ha
  simp only at a0 a1 a2
  simp only at hSt
  have HST := Lib.hid hSt
  have HBB := Lib.hid hb4
  clear hSt hb4
  clear hc hM hcell hi hm ha
  unfold coreV Core.cells
  go_enter Tryd.func13, Tryd.ntmps13
  go_wp2_with fail
  refine (HM.out _).mono ?_
  rintro e w1 ⟨rfl, hb⟩
  have FIVE := Lib.hid ((five_start w ⟨(k : Int), r⟩ 9 a b).below hb)
  have HB1 := Lib.hid (btrans (balloc (balloc (balloc (balloc (balloc (Below.refl _ _) _) _) _) _) _) hb)
  have hsz := HB1.out.size
  have g0_0 : w1.cell? ⟨w.heap.size, 0, none⟩ = some (.int .i64 ((k : Int))) := (blk_cell FIVE.out.b0 0).trans rfl
  have g0_1 : w1.cell? ⟨w.heap.size, 1, none⟩ = some (.int .i64 (r 0)) := (blk_cell FIVE.out.b0 1).trans rfl
  have g0_2 : w1.cell? ⟨w.heap.size, 2, none⟩ = some (.int .i64 (r 1)) := (blk_cell FIVE.out.b0 2).trans rfl
  have g0_3 : w1.cell? ⟨w.heap.size, 3, none⟩ = some (.int .i64 (r 2)) := (blk_cell FIVE.out.b0 3).trans rfl
  have g0_4 : w1.cell? ⟨w.heap.size, 4, none⟩ = some (.int .i64 (r 3)) := (blk_cell FIVE.out.b0 4).trans rfl
  have l0 := blk_lt FIVE.out.b0
  have g1_0 : w1.cell? ⟨w.heap.size + 1, 0, none⟩ = some (.int .i64 0) := (blk_cell FIVE.out.b1 0).trans rfl
  have g1_1 : w1.cell? ⟨w.heap.size + 1, 1, none⟩ = some (.int .i64 0) := (blk_cell FIVE.out.b1 1).trans rfl
  have g1_2 : w1.cell? ⟨w.heap.size + 1, 2, none⟩ = some (.int .i64 0) := (blk_cell FIVE.out.b1 2).trans rfl
  have g1_3 : w1.cell? ⟨w.heap.size + 1, 3, none⟩ = some (.int .i64 0) := (blk_cell FIVE.out.b1 3).trans rfl
  have g1_4 : w1.cell? ⟨w.heap.size + 1, 4, none⟩ = some (.int .i64 0) := (blk_cell FIVE.out.b1 4).trans rfl
  have z1_0 := blk_frozen FIVE.out.b1 0
  have z1_1 := blk_frozen FIVE.out.b1 1
  have z1_2 := blk_frozen FIVE.out.b1 2
  have z1_3 := blk_frozen FIVE.out.b1 3
  have z1_4 := blk_frozen FIVE.out.b1 4
  have l1 := blk_lt FIVE.out.b1
  have g2_0 : w1.cell? ⟨w.heap.size + 1 + 1, 0, none⟩ = some (.int .i64 0) := (blk_cell FIVE.out.b2 0).trans rfl
  have g2_1 : w1.cell? ⟨w.heap.size + 1 + 1, 1, none⟩ = some (.int .i64 0) := (blk_cell FIVE.out.b2 1).trans rfl
  have g2_2 : w1.cell? ⟨w.heap.size + 1 + 1, 2, none⟩ = some (.bool false) := (blk_cell FIVE.out.b2 2).trans rfl
  have g2_3 : w1.cell? ⟨w.heap.size + 1 + 1, 3, none⟩ = some (.bool false) := (blk_cell FIVE.out.b2 3).trans rfl
  have g2_4 : w1.cell? ⟨w.heap.size + 1 + 1, 4, none⟩ = some (.int .i64 0) := (blk_cell FIVE.out.b2 4).trans rfl
  have z2_0 := blk_frozen FIVE.out.b2 0
  have z2_1 := blk_frozen FIVE.out.b2 1
  have z2_2 := blk_frozen FIVE.out.b2 2
  have z2_3 := blk_frozen FIVE.out.b2 3
  have z2_4 := blk_frozen FIVE.out.b2 4
  have l2 := blk_lt FIVE.out.b2
  have g3_0 : w1.cell? ⟨w.heap.size + 1 + 1 + 1, 0, none⟩ = some (.int .i64 0) := (blk_cell FIVE.out.b3 0).trans rfl
  have g3_1 : w1.cell? ⟨w.heap.size + 1 + 1 + 1, 1, none⟩ = some (.int .i64 (-1)) := (blk_cell FIVE.out.b3 1).trans rfl
  have g3_2 : w1.cell? ⟨w.heap.size + 1 + 1 + 1, 2, none⟩ = some (.bool false) := (blk_cell FIVE.out.b3 2).trans rfl
  have g3_3 : w1.cell? ⟨w.heap.size + 1 + 1 + 1, 3, none⟩ = some (.bool false) := (blk_cell FIVE.out.b3 3).trans rfl
  have g3_4 : w1.cell? ⟨w.heap.size + 1 + 1 + 1, 4, none⟩ = some (.int .i64 0) := (blk_cell FIVE.out.b3 4).trans rfl
  have z3_0 := blk_frozen FIVE.out.b3 0
  have z3_1 := blk_frozen FIVE.out.b3 1
  have z3_2 := blk_frozen FIVE.out.b3 2
  have z3_3 := blk_frozen FIVE.out.b3 3
  have z3_4 := blk_frozen FIVE.out.b3 4
  have l3 := blk_lt FIVE.out.b3
  have g4_0 : w1.cell? ⟨w.heap.size + 1 + 1 + 1 + 1, 0, none⟩ = some (.int .i64 (9)) := (blk_cell FIVE.out.b4 0).trans rfl
  have g4_1 : w1.cell? ⟨w.heap.size + 1 + 1 + 1 + 1, 1, none⟩ = some (.int .i64 (a)) := (blk_cell FIVE.out.b4 1).trans rfl
  have g4_2 : w1.cell? ⟨w.heap.size + 1 + 1 + 1 + 1, 2, none⟩ = some (.int .i64 (b)) := (blk_cell FIVE.out.b4 2).trans rfl
  have l4 := blk_lt FIVE.out.b4
  have k0a : w.heap.size ≤ w1.heap.size := by omega
  have k0ab : w.heap.size ≤ w1.heap.size + 1 := by omega
  have k0cb : w.heap.size < w1.heap.size + 1 := by omega
  have k0d : w.heap.size < w1.heap.size := by omega
  have k1a : w.heap.size + 1 ≤ w1.heap.size := by omega
  have k1ab : w.heap.size + 1 ≤ w1.heap.size + 1 := by omega
  have k1cb : w.heap.size + 1 < w1.heap.size + 1 := by omega
  have k1d : w.heap.size + 1 < w1.heap.size := by omega
  have k2a : w.heap.size + 1 + 1 ≤ w1.heap.size := by omega
  have k2ab : w.heap.size + 1 + 1 ≤ w1.heap.size + 1 := by omega
  have k2cb : w.heap.size + 1 + 1 < w1.heap.size + 1 := by omega
  have k2d : w.heap.size + 1 + 1 < w1.heap.size := by omega
  have k3a : w.heap.size + 1 + 1 + 1 ≤ w1.heap.size := by omega
  have k3ab : w.heap.size + 1 + 1 + 1 ≤ w1.heap.size + 1 := by omega
  have k3cb : w.heap.size + 1 + 1 + 1 < w1.heap.size + 1 := by omega
  have k3d : w.heap.size + 1 + 1 + 1 < w1.heap.size := by omega
  have k4a : w.heap.size + 1 + 1 + 1 + 1 ≤ w1.heap.size := by omega
  have k4ab : w.heap.size + 1 + 1 + 1 + 1 ≤ w1.heap.size + 1 := by omega
  have k4cb : w.heap.size + 1 + 1 + 1 + 1 < w1.heap.size + 1 := by omega
  have ga : w1.cell? ⟨w.heap.size, 1 + a, none⟩ = some (.int .i64 (r a)) := (blk_cell FIVE.out.b0 _).trans (core_reg ⟨(k : Int), r⟩ a HA.out)
  have q0 : (0 : Int) ≤ (a : Int) := by omega
  have q1 : (a : Int) < 4 := by have := HA.out; omega
  clear hb a0 a1 a2 hb0 hbc1 hbc2 hbc3 hba0 hba1 hba2 hba3
  have gb : w1.cell? ⟨w.heap.size, 1 + b, none⟩ = some (.int .i64 (r b)) := (blk_cell FIVE.out.b0 _).trans (core_reg ⟨(k : Int), r⟩ b HBB.out)
  have p0 : (0 : Int) ≤ (b : Int) := by omega
  have p1 : (b : Int) < 4 := by have := HBB.out; omega
  go_wp2_with fail
  go_region_with ((go_at_call 26; refine (HST.out _ (by first | exact bdrewN (balloc HB1.out _) _ | exact balloc HB1.out _)).mono ?_; rintro e w2 ⟨v, rfl, hrr, hb2⟩; obtain ⟨hcc, hff⟩ := bcell2 hb2; obtain ⟨V1, V2, rfl, _, _⟩ := Kd.R_reads hrr))
  all_goals (
    have FIVE2 := Lib.hid ((Five.below FIVE.out (by first | exact bdrewN (balloc (Below.refl _ _) (.cells #[.int .i64 ((k : Int) + 1), .int .i64 (r 0), .int .i64 (r 1), .int .i64 (r 2), .int .i64 (r 3)] 29)) _ | exact balloc (Below.refl _ _) (.cells #[.int .i64 ((k : Int) + 1), .int .i64 (r 0), .int .i64 (r 1), .int .i64 (r 2), .int .i64 (r 3)] 29))).below hb2)
    have DB2 := Lib.hid (blk_below (by first | exact blk_drewN (blk_new w1 (.cells #[.int .i64 ((k : Int) + 1), .int .i64 (r 0), .int .i64 (r 1), .int .i64 (r 2), .int .i64 (r 3)] 29)) _ | exact blk_new w1 (.cells #[.int .i64 ((k : Int) + 1), .int .i64 (r 0), .int .i64 (r 1), .int .i64 (r 2), .int .i64 (r 3)] 29)) hb2)
    have HB2 := Lib.hid (btrans (by first | exact bdrewN (balloc HB1.out (.cells #[.int .i64 ((k : Int) + 1), .int .i64 (r 0), .int .i64 (r 1), .int .i64 (r 2), .int .i64 (r 3)] 29)) _ | exact balloc HB1.out (.cells #[.int .i64 ((k : Int) + 1), .int .i64 (r 0), .int .i64 (r 1), .int .i64 (r 2), .int .i64 (r 3)] 29)) hb2)
    have HRR := Lib.hid hrr
    have hbs : w1.heap.size + 1 ≤ ((w1.alloc (.cells #[.int .i64 ((k : Int) + 1), .int .i64 (r 0), .int .i64 (r 1), .int .i64 (r 2), .int .i64 (r 3)] 29))).heap.size := by rw [alloc_size]; exact Nat.le_refl _
    clear hcc hff hb2 hrr ga gb
    have hs1 := hsz
    have hl4 := blk_lt FIVE.out.b4
    clear g0_0 g0_1 g0_2 g0_3 g0_4 g1_0 g1_1 g1_2 g1_3 g1_4 g2_0 g2_1 g2_2 g2_3 g2_4 g3_0 g3_1 g3_2 g3_3 g3_4 g4_0 g4_1 g4_2 z1_0 z1_1 z1_2 z1_3 z1_4 z2_0 z2_1 z2_2 z2_3 z2_4 z3_0 z3_1 z3_2 z3_3 z3_4 l0 l1 l2 l3 l4 k0a k0ab k0cb k0d k1a k1ab k1cb k1d k2a k2ab k2cb k2d k3a k3ab k3cb k3d k4a k4ab k4cb
    have g0_0 : w2.cell? ⟨w.heap.size, 0, none⟩ = some (.int .i64 ((k : Int))) := (blk_cell FIVE2.out.b0 0).trans rfl
    have g0_1 : w2.cell? ⟨w.heap.size, 1, none⟩ = some (.int .i64 (r 0)) := (blk_cell FIVE2.out.b0 1).trans rfl
    have g0_2 : w2.cell? ⟨w.heap.size, 2, none⟩ = some (.int .i64 (r 1)) := (blk_cell FIVE2.out.b0 2).trans rfl
    have g0_3 : w2.cell? ⟨w.heap.size, 3, none⟩ = some (.int .i64 (r 2)) := (blk_cell FIVE2.out.b0 3).trans rfl
    have g0_4 : w2.cell? ⟨w.heap.size, 4, none⟩ = some (.int .i64 (r 3)) := (blk_cell FIVE2.out.b0 4).trans rfl
    have l0 := blk_lt FIVE2.out.b0
    have g1_0 : w2.cell? ⟨w.heap.size + 1, 0, none⟩ = some (.int .i64 0) := (blk_cell FIVE2.out.b1 0).trans rfl
    have g1_1 : w2.cell? ⟨w.heap.size + 1, 1, none⟩ = some (.int .i64 0) := (blk_cell FIVE2.out.b1 1).trans rfl
    have g1_2 : w2.cell? ⟨w.heap.size + 1, 2, none⟩ = some (.int .i64 0) := (blk_cell FIVE2.out.b1 2).trans rfl
    have g1_3 : w2.cell? ⟨w.heap.size + 1, 3, none⟩ = some (.int .i64 0) := (blk_cell FIVE2.out.b1 3).trans rfl
    have g1_4 : w2.cell? ⟨w.heap.size + 1, 4, none⟩ = some (.int .i64 0) := (blk_cell FIVE2.out.b1 4).trans rfl
    have z1_0 := blk_frozen FIVE2.out.b1 0
    have z1_1 := blk_frozen FIVE2.out.b1 1
    have z1_2 := blk_frozen FIVE2.out.b1 2
    have z1_3 := blk_frozen FIVE2.out.b1 3
    have z1_4 := blk_frozen FIVE2.out.b1 4
    have l1 := blk_lt FIVE2.out.b1
    have g2_0 : w2.cell? ⟨w.heap.size + 1 + 1, 0, none⟩ = some (.int .i64 0) := (blk_cell FIVE2.out.b2 0).trans rfl
    have g2_1 : w2.cell? ⟨w.heap.size + 1 + 1, 1, none⟩ = some (.int .i64 0) := (blk_cell FIVE2.out.b2 1).trans rfl
    have g2_2 : w2.cell? ⟨w.heap.size + 1 + 1, 2, none⟩ = some (.bool false) := (blk_cell FIVE2.out.b2 2).trans rfl
    have g2_3 : w2.cell? ⟨w.heap.size + 1 + 1, 3, none⟩ = some (.bool false) := (blk_cell FIVE2.out.b2 3).trans rfl
    have g2_4 : w2.cell? ⟨w.heap.size + 1 + 1, 4, none⟩ = some (.int .i64 0) := (blk_cell FIVE2.out.b2 4).trans rfl
    have z2_0 := blk_frozen FIVE2.out.b2 0
    have z2_1 := blk_frozen FIVE2.out.b2 1
    have z2_2 := blk_frozen FIVE2.out.b2 2
    have z2_3 := blk_frozen FIVE2.out.b2 3
    have z2_4 := blk_frozen FIVE2.out.b2 4
    have l2 := blk_lt FIVE2.out.b2
    have g3_0 : w2.cell? ⟨w.heap.size + 1 + 1 + 1, 0, none⟩ = some (.int .i64 0) := (blk_cell FIVE2.out.b3 0).trans rfl
    have g3_1 : w2.cell? ⟨w.heap.size + 1 + 1 + 1, 1, none⟩ = some (.int .i64 (-1)) := (blk_cell FIVE2.out.b3 1).trans rfl
    have g3_2 : w2.cell? ⟨w.heap.size + 1 + 1 + 1, 2, none⟩ = some (.bool false) := (blk_cell FIVE2.out.b3 2).trans rfl
    have g3_3 : w2.cell? ⟨w.heap.size + 1 + 1 + 1, 3, none⟩ = some (.bool false) := (blk_cell FIVE2.out.b3 3).trans rfl
    have g3_4 : w2.cell? ⟨w.heap.size + 1 + 1 + 1, 4, none⟩ = some (.int .i64 0) := (blk_cell FIVE2.out.b3 4).trans rfl
    have z3_0 := blk_frozen FIVE2.out.b3 0
    have z3_1 := blk_frozen FIVE2.out.b3 1
    have z3_2 := blk_frozen FIVE2.out.b3 2
    have z3_3 := blk_frozen FIVE2.out.b3 3
    have z3_4 := blk_frozen FIVE2.out.b3 4
    have l3 := blk_lt FIVE2.out.b3
    have g4_0 : w2.cell? ⟨w.heap.size + 1 + 1 + 1 + 1, 0, none⟩ = some (.int .i64 (9)) := (blk_cell FIVE2.out.b4 0).trans rfl
    have g4_1 : w2.cell? ⟨w.heap.size + 1 + 1 + 1 + 1, 1, none⟩ = some (.int .i64 (a)) := (blk_cell FIVE2.out.b4 1).trans rfl
    have g4_2 : w2.cell? ⟨w.heap.size + 1 + 1 + 1 + 1, 2, none⟩ = some (.int .i64 (b)) := (blk_cell FIVE2.out.b4 2).trans rfl
    have l4 := blk_lt FIVE2.out.b4
    have k0a : w.heap.size ≤ w2.heap.size := by omega
    have k0ab : w.heap.size ≤ w2.heap.size + 1 := by omega
    have k0cb : w.heap.size < w2.heap.size + 1 := by omega
    have k0d : w.heap.size < w2.heap.size := by omega
    have k1a : w.heap.size + 1 ≤ w2.heap.size := by omega
    have k1ab : w.heap.size + 1 ≤ w2.heap.size + 1 := by omega
    have k1cb : w.heap.size + 1 < w2.heap.size + 1 := by omega
    have k1d : w.heap.size + 1 < w2.heap.size := by omega
    have k2a : w.heap.size + 1 + 1 ≤ w2.heap.size := by omega
    have k2ab : w.heap.size + 1 + 1 ≤ w2.heap.size + 1 := by omega
    have k2cb : w.heap.size + 1 + 1 < w2.heap.size + 1 := by omega
    have k2d : w.heap.size + 1 + 1 < w2.heap.size := by omega
    have k3a : w.heap.size + 1 + 1 + 1 ≤ w2.heap.size := by omega
    have k3ab : w.heap.size + 1 + 1 + 1 ≤ w2.heap.size + 1 := by omega
    have k3cb : w.heap.size + 1 + 1 + 1 < w2.heap.size + 1 := by omega
    have k3d : w.heap.size + 1 + 1 + 1 < w2.heap.size := by omega
    have k4a : w.heap.size + 1 + 1 + 1 + 1 ≤ w2.heap.size := by omega
    have k4ab : w.heap.size + 1 + 1 + 1 + 1 ≤ w2.heap.size + 1 := by omega
    have k4cb : w.heap.size + 1 + 1 + 1 + 1 < w2.heap.size + 1 := by omega
    have gd_0 : w2.cell? ⟨w1.heap.size, 0, none⟩ = some (.int .i64 ((k : Int) + 1)) := (blk_cell DB2.out 0).trans rfl
    have gd_1 : w2.cell? ⟨w1.heap.size, 1, none⟩ = some (.int .i64 (r 0)) := (blk_cell DB2.out 1).trans rfl
    have gd_2 : w2.cell? ⟨w1.heap.size, 2, none⟩ = some (.int .i64 (r 1)) := (blk_cell DB2.out 2).trans rfl
    have gd_3 : w2.cell? ⟨w1.heap.size, 3, none⟩ = some (.int .i64 (r 2)) := (blk_cell DB2.out 3).trans rfl
    have gd_4 : w2.cell? ⟨w1.heap.size, 4, none⟩ = some (.int .i64 (r 3)) := (blk_cell DB2.out 4).trans rfl
    have zd_0 := blk_frozen DB2.out 0
    have zd_1 := blk_frozen DB2.out 1
    have zd_2 := blk_frozen DB2.out 2
    have zd_3 := blk_frozen DB2.out 3
    have zd_4 := blk_frozen DB2.out 4
    have ld := blk_lt DB2.out
    have lda : w1.heap.size ≤ w2.heap.size := by omega
    have ldb : w1.heap.size ≤ w2.heap.size + 1 := by omega
    have ldc : w1.heap.size < w2.heap.size + 1 := by omega
    have e0d : ¬ w.heap.size = w1.heap.size := by omega
    have e0e : ¬ w1.heap.size = w.heap.size := by omega
    have e1d : ¬ w.heap.size + 1 = w1.heap.size := by omega
    have e1e : ¬ w1.heap.size = w.heap.size + 1 := by omega
    have e2d : ¬ w.heap.size + 1 + 1 = w1.heap.size := by omega
    have e2e : ¬ w1.heap.size = w.heap.size + 1 + 1 := by omega
    have e3d : ¬ w.heap.size + 1 + 1 + 1 = w1.heap.size := by omega
    have e3e : ¬ w1.heap.size = w.heap.size + 1 + 1 + 1 := by omega
    have e4d : ¬ w.heap.size + 1 + 1 + 1 + 1 = w1.heap.size := by omega
    have e4e : ¬ w1.heap.size = w.heap.size + 1 + 1 + 1 + 1 := by omega
    go_wp2_with fail
    refine (rwrong_non er her _).mono ?_
    rintro e w3 ⟨rfl, nn, rfl⟩
    have her1 : (er == 0) = false := by simp [her]
    go_wp2_with fail
    go_region
    (try simp only [Exit.then, Exit.inBlock])
    go_wp2_with fail
    have hfin : ∀ (W : World) (ts : Array Value), ts.getD 10 undef = .pointer (some ⟨w.heap.size + 1, 0, none⟩) → ts.getD 11 undef = M → ts.getD 12 undef = .pointer (some ⟨w.heap.size + 1 + 1, 0, none⟩) → W.heap[w.heap.size + 1]? = some (.cells #[.int .i64 ((k : Int)), .int .i64 (r 0), .int .i64 (r 1), .int .i64 (r 2), .int .i64 (r 3)] 29 (0, 0)) → W.heap[w.heap.size + 1 + 1]? = some (.cells #[.int .i64 (5), .int .i64 (-1), .bool false, .bool false, .int .i64 (0)] 34 (0, 0)) → (results Tryd.f13 ts).run Tryd.prog W = .ok (.tuple #[coreV ⟨(k : Int), r⟩, M, outV ⟨5, -1, false, false, 0⟩]) W := fun W ts h10 h11 h12 hA hB => by
      rw [← h11]
      exact results_list (rs := [.cell 10 29, .tmp 11, .cell 12 34]) rfl (by simp) (.cell (w.heap.size + 1) 29 _ (0, 0) _ h10 hA Tryd.underlying29 rfl (by kernel_rfl) (.tmp (.cell (w.heap.size + 1 + 1) 34 _ (0, 0) _ h12 hB Tryd.underlying34 rfl (by kernel_rfl) .nil)))
    refine bodyPost_ret (hfin _ _ rfl rfl rfl ?_ ?_) rfl ⟨rfl, ?_⟩
    · repeat (first | (with_reducible refine blk_drewN ?_ _) | (with_reducible refine blk_drew ?_) | (with_reducible refine blk_alloc ?_ _))
      with_reducible refine put5_far (q := w.heap.size + 1 + 1) ?_ (by omega) _ _ _ _ _
      with_reducible refine put5_zC (q := w.heap.size + 1) ?_ _ _ _ _ _
      repeat (first | (with_reducible exact FIVE2.out.b1) | (with_reducible refine blk_drewN ?_ _) | (with_reducible refine blk_drew ?_) | (with_reducible refine blk_alloc ?_ _) | (with_reducible refine blk_far ?_ (by (try simp only); omega) _))
    · repeat (first | (with_reducible refine blk_drewN ?_ _) | (with_reducible refine blk_drew ?_) | (with_reducible refine blk_alloc ?_ _))
      with_reducible refine put5_zO (q := w.heap.size + 1 + 1) ?_ _ _ _ _ _
      with_reducible refine put5_far (q := w.heap.size + 1) ?_ (by omega) _ _ _ _ _
      repeat (first | (with_reducible exact FIVE2.out.b2) | (with_reducible refine blk_drewN ?_ _) | (with_reducible refine blk_drew ?_) | (with_reducible refine blk_alloc ?_ _) | (with_reducible refine blk_far ?_ (by (try simp only); omega) _))
    · repeat (first | (with_reducible exact HB2.out) | (with_reducible refine bdrewN ?_ _) | (with_reducible refine below_drew ?_) | (with_reducible refine balloc ?_ _) | (with_reducible refine Below.setCell ?_ (by (try simp only); omega) _)))


end Go.Proofs.YtlphgnfjemaliaaDoor.RefStep

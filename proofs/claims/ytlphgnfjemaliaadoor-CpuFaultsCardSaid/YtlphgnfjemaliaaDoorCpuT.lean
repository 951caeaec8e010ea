/-
  The law function CpuSteps, walked: it answers true. Conditions: the tables hold what the program's text lays; the arguments lie in memory as told; the registers are of 64 bits.
-/
import Derived.Test.YtlphgnfjemaliaaDoorRefAny
import Derived.Test.YtlphgnfjemaliaaDoorCpuJ
namespace Go.Proofs.YtlphgnfjemaliaaDoor.CpuT
set_option maxRecDepth 100000
set_option linter.unusedVariables false
set_option linter.unusedSimpArgs false
open Go.RowKit Go.Proofs.YtlphgnfjemaliaaDoorW.PrintWords Go.Proofs.YtlphgnfjemaliaaDoor.Mem Go.Proofs.YtlphgnfjemaliaaDoor.CpuA Go.Proofs.YtlphgnfjemaliaaDoor.CpuB Go.Proofs.YtlphgnfjemaliaaDoor.CpuC Go.Proofs.YtlphgnfjemaliaaDoor.CpuS Go.Proofs.YtlphgnfjemaliaaDoor.CpuL Go.Proofs.YtlphgnfjemaliaaDoor.CpuJ Go.Proofs.YtlphgnfjemaliaaDoor.PureC Go.Proofs.YtlphgnfjemaliaaDoor.RefAny Go.Proofs.YtlphgnfjemaliaaDoor.Instr

theorem stepM_len (code : List (Int × Int × Int)) (cc : Core) (m : List Int) (xs : List Rg) (now : Int) : (stepM code cc m xs now).length = m.length := by
  unfold stepM
  by_cases hf : stepF code cc m xs now = 0
  · rw [if_pos hf]
    unfold stepF at hf
    by_cases hok : okAt cc.pc code = true
    · rw [if_pos hok] at hf; exact memOf_len _ _ _ _ _ _ hf
    · rw [if_neg hok] at hf; omega
  · rw [if_neg hf]
theorem few_facts {m : List Int} {l : List PureC.S} (h : fewB m l = true) : m.length ≤ 200 ∧ l.length ≤ 20 ∧ ∀ x ∈ l, x.f1 ≤ 200 ∧ x.f0 < 1000 := by
  unfold fewB at h
  simp only [Bool.and_eq_true, decide_eq_true_eq, List.all_eq_true] at h
  exact ⟨h.1.1, h.1.2, h.2⟩
theorem few_any (M : Option Addr) (cm : Nat) (m : List Int) (A' : Option Addr) (c' : Nat) (l : List PureC.S) (W : World) (hr : (Kd.int .i64).C W M m.length m) (hcm : m.length ≤ cm) (hl : Kd.C Pr.k25 W A' l.length l) (hcl : l.length ≤ c') :
    Calls Tryd.prog 15 #[.slice M m.length cm, .slice A' l.length c'] W fun e w' => e = .returned (.bool (fewB m l)) ∧ ∃ n, w' = W.drewN n := by
  obtain ⟨k, hk⟩ := (few_ev m l).rounds
  exact (Pr.quarterdecklaw03_Few.calls k M cm m A' c' l _ W hr hcm hl hcl hk).mono fun e w' ⟨h, ⟨n, h2⟩⟩ => ⟨h, n, h2⟩

set_option maxHeartbeats 4000000 in
theorem steps_any (cc : Core) (A : Option Addr) (c : Nat) (code : List (Int × Int × Int)) (M : Option Addr) (cm : Nat) (m : List Int) (A' : Option Addr) (c' : Nat) (l : List PureC.S) (now : Int) (w : World)
    (hc : CodeAt w A code) (hG : Glob w) (hr : (Kd.int .i64).C w M m.length m) (hcm : m.length ≤ cm) (hl : Kd.C Pr.k25 w A' l.length l) (hcl : l.length ≤ c') (h64 : ∀ i, i < 4 → In64 (cc.r i)) :
    Calls Tryd.prog 5 #[.slice A code.length c, coreV cc, .slice M m.length cm, .slice A' l.length c', .int .i64 now] w fun e w' => e = .returned (.bool true) ∧ Below w.heap.size w w' := by
  have hA : ∀ o, _ := fun o => awake_any (w.alloc o) (hG.alloc o)
  have HA := Lib.hid hA
  have hF : ∀ W, Below w.heap.size w W → _ := fun W hb => few_any M cm m A' c' l W (Kd.C_below hr hb) hcm (Kd.C_below hl hb) hcl
  unfold coreV Core.cells
  clear hA
  cases hfw : fewB m l
  · rw [hfw] at hF
    have HF := Lib.hid hF
    clear hF hfw hc hG hr hl h64
    go_enter Tryd.func5, Tryd.ntmps5
    go_wp2_with fail
    refine (HA.out _).mono ?_
    rintro e w1 ⟨rfl, hb⟩
    have HB1 := Lib.hid (btrans (balloc (Below.refl _ _) _) hb)
    clear hb
    go_wp2_with fail
    refine (HF.out _ HB1.out).mono ?_
    rintro e w2 ⟨rfl, n, rfl⟩
    go_wp2_with fail
    go_ret
    exact ⟨rfl, bdrewN HB1.out _⟩
  · rw [hfw] at hF
    have HF := Lib.hid hF
    by_cases h200 : code.length ≤ 200
    · obtain ⟨q1, q2, q3⟩ := few_facts hfw
      have hS : ∀ W, Below w.heap.size w W → _ := fun W hb => step_any cc A c code W (hc.below hb) (hG.below hb) M cm m A' c' (l.map rg_) now (Kd.C_below hr hb) (by omega) ((regs_at hl).below hb)
      have hS2 : ∀ W, Below w.heap.size w W → _ := fun W hb => ref_any cc A c code W M cm m A' c' l now (hc.below hb) (Kd.C_below hr hb) hcm (by omega) (Kd.C_below hl hb) hcl (by omega) q3 h64
      rw [List.length_map] at hS
      have hM : (stepM code cc m (l.map rg_) now).length ≤ 1000000 := by rw [stepM_len]; omega
      have d1 : decide ((code.length : Int) > 200) = false := decide_eq_false (by omega)
      have d2 : decide (200 < (code.length : Int)) = false := decide_eq_false (by omega)
      have d3 : decide (200 < code.length) = false := decide_eq_false (by omega)
      generalize stepC code cc m (l.map rg_) now = X at *
      generalize stepO code cc m (l.map rg_) now = O at *
      generalize stepM code cc m (l.map rg_) now = m' at *
      unfold coreV outV Core.cells Outc.cells at hS hS2
      have hSame : ∀ A0 A1 c0 c1 W, (Kd.int .i64).C W A0 m'.length m' → m'.length ≤ c0 → (Kd.int .i64).C W A1 m'.length m' → m'.length ≤ c1 → _ := fun A0 A1 c0 c1 W h0 h1 h2 h3 => same_any A0 A1 c0 c1 m' hM W h0 h1 h2 h3
      have heq : ∀ W, _ := fun W => eq_regs 9997 (X.r 0) (X.r 1) (X.r 2) (X.r 3) W
      simp only [Nat.reduceAdd] at heq
      have HS := Lib.hid hS
      have HS2 := Lib.hid hS2
      have HSAME := Lib.hid hSame
      clear hF hfw hc hG hr hl h64 h200 q1 q2 q3 hS hS2 hM hSame
      go_enter Tryd.func5, Tryd.ntmps5
      go_wp2_with fail
      refine (HA.out _).mono ?_
      rintro e w1 ⟨rfl, hb⟩
      have B0_ := Lib.hid (Below.refl w.heap.size w)
      have K1_c := Lib.hid (blk_below (blk_new w (.cells #[.int .i64 cc.pc, .int .i64 (cc.r 0), .int .i64 (cc.r 1), .int .i64 (cc.r 2), .int .i64 (cc.r 3)] 29)) hb)
      have B1_ := Lib.hid (btrans (balloc B0_.out (.cells #[.int .i64 cc.pc, .int .i64 (cc.r 0), .int .i64 (cc.r 1), .int .i64 (cc.r 2), .int .i64 (cc.r 3)] 29)) hb)
      have l1_c := blk_lt K1_c.out
      have q1_c_1 : w.heap.size ≤ w1.heap.size := by omega
      have q1_c_2 : w.heap.size ≤ w1.heap.size + 1 := by omega
      have q1_c_3 : w.heap.size < w1.heap.size + 1 := by omega
      have c1_c_0 : w1.cell? ⟨w.heap.size, 0, none⟩ = some (.int .i64 cc.pc) := (blk_cell K1_c.out 0).trans rfl
      have c1_c_1 : w1.cell? ⟨w.heap.size, 1, none⟩ = some (.int .i64 (cc.r 0)) := (blk_cell K1_c.out 1).trans rfl
      have c1_c_2 : w1.cell? ⟨w.heap.size, 2, none⟩ = some (.int .i64 (cc.r 1)) := (blk_cell K1_c.out 2).trans rfl
      have c1_c_3 : w1.cell? ⟨w.heap.size, 3, none⟩ = some (.int .i64 (cc.r 2)) := (blk_cell K1_c.out 3).trans rfl
      have c1_c_4 : w1.cell? ⟨w.heap.size, 4, none⟩ = some (.int .i64 (cc.r 3)) := (blk_cell K1_c.out 4).trans rfl
      clear hb
      go_wp2_with fail
      refine (HF.out _ B1_.out).mono ?_
      rintro e w2 ⟨rfl, n, rfl⟩
      go_wp2_with fail
      refine (HS.out _ (bdrewN B1_.out _)).mono ?_
      rintro e w3 ⟨v, rfl, hv, hb⟩
      have hb' : Below w1.heap.size w1 w3 := ⟨hb.os, hb.tape, hb.output, hb.size, hb.block⟩
      have K2_c := Lib.hid (blk_below K1_c.out hb')
      have B2_ := Lib.hid (btrans B1_.out hb')
      have l2_c := blk_lt K2_c.out
      have q2_c_1 : w.heap.size ≤ w3.heap.size := by omega
      have q2_c_2 : w.heap.size ≤ w3.heap.size + 1 := by omega
      have q2_c_3 : w.heap.size < w3.heap.size + 1 := by omega
      have c2_c_0 : w3.cell? ⟨w.heap.size, 0, none⟩ = some (.int .i64 cc.pc) := (blk_cell K2_c.out 0).trans rfl
      have c2_c_1 : w3.cell? ⟨w.heap.size, 1, none⟩ = some (.int .i64 (cc.r 0)) := (blk_cell K2_c.out 1).trans rfl
      have c2_c_2 : w3.cell? ⟨w.heap.size, 2, none⟩ = some (.int .i64 (cc.r 1)) := (blk_cell K2_c.out 2).trans rfl
      have c2_c_3 : w3.cell? ⟨w.heap.size, 3, none⟩ = some (.int .i64 (cc.r 2)) := (blk_cell K2_c.out 3).trans rfl
      have c2_c_4 : w3.cell? ⟨w.heap.size, 4, none⟩ = some (.int .i64 (cc.r 3)) := (blk_cell K2_c.out 4).trans rfl
      obtain ⟨A1, k1, rfl, hk1, hC1⟩ := Kd.R_reads hv
      have HC1 := Lib.hid hC1
      have HK1 := Lib.hid hk1
      clear hv hb hb' hC1 hk1 l1_c q1_c_1 q1_c_2 q1_c_3 c1_c_0 c1_c_1 c1_c_2 c1_c_3 c1_c_4
      go_wp2_with fail
      have hl := (balloc (balloc B2_.out (.cells #[.int .i64 X.pc, .int .i64 (X.r 0), .int .i64 (X.r 1), .int .i64 (X.r 2), .int .i64 (X.r 3)] 29)) (.cells #[.int .i64 O.fl, .int .i64 O.ca, .bool O.ha, .bool O.re, .int .i64 O.va] 34))
      refine (HS2.out _ hl).mono ?_
      rintro e w4 ⟨v, rfl, ⟨A2, k2, rfl, hk2, hC2⟩, hb⟩
      have HC1' := Lib.hid (Kd.C_below (Kd.C_below HC1.out (balloc (balloc (Below.refl w3.heap.size w3) (.cells #[.int .i64 X.pc, .int .i64 (X.r 0), .int .i64 (X.r 1), .int .i64 (X.r 2), .int .i64 (X.r 3)] 29)) (.cells #[.int .i64 O.fl, .int .i64 O.ca, .bool O.ha, .bool O.re, .int .i64 O.va] 34))) hb)
      have K3_a := Lib.hid (blk_below (two_new1 w3 (.cells #[.int .i64 X.pc, .int .i64 (X.r 0), .int .i64 (X.r 1), .int .i64 (X.r 2), .int .i64 (X.r 3)] 29) (.cells #[.int .i64 O.fl, .int .i64 O.ca, .bool O.ha, .bool O.re, .int .i64 O.va] 34)) hb)
      have K3_o := Lib.hid (blk_below (two_new2 w3 (.cells #[.int .i64 X.pc, .int .i64 (X.r 0), .int .i64 (X.r 1), .int .i64 (X.r 2), .int .i64 (X.r 3)] 29) (.cells #[.int .i64 O.fl, .int .i64 O.ca, .bool O.ha, .bool O.re, .int .i64 O.va] 34)) hb)
      have B3_ := Lib.hid (btrans (balloc (balloc B2_.out (.cells #[.int .i64 X.pc, .int .i64 (X.r 0), .int .i64 (X.r 1), .int .i64 (X.r 2), .int .i64 (X.r 3)] 29)) (.cells #[.int .i64 O.fl, .int .i64 O.ca, .bool O.ha, .bool O.re, .int .i64 O.va] 34)) hb)
      have l3_a := blk_lt K3_a.out
      have q3_a_1 : w3.heap.size ≤ w4.heap.size := by omega
      have q3_a_2 : w3.heap.size ≤ w4.heap.size + 1 := by omega
      have q3_a_3 : w3.heap.size < w4.heap.size + 1 := by omega
      have c3_a_0 : w4.cell? ⟨w3.heap.size, 0, none⟩ = some (.int .i64 X.pc) := (blk_cell K3_a.out 0).trans rfl
      have c3_a_1 : w4.cell? ⟨w3.heap.size, 1, none⟩ = some (.int .i64 (X.r 0)) := (blk_cell K3_a.out 1).trans rfl
      have c3_a_2 : w4.cell? ⟨w3.heap.size, 2, none⟩ = some (.int .i64 (X.r 1)) := (blk_cell K3_a.out 2).trans rfl
      have c3_a_3 : w4.cell? ⟨w3.heap.size, 3, none⟩ = some (.int .i64 (X.r 2)) := (blk_cell K3_a.out 3).trans rfl
      have c3_a_4 : w4.cell? ⟨w3.heap.size, 4, none⟩ = some (.int .i64 (X.r 3)) := (blk_cell K3_a.out 4).trans rfl
      have l3_o := blk_lt K3_o.out
      have q3_o_5 : w3.heap.size + 1 ≤ w4.heap.size := by omega
      have q3_o_6 : w3.heap.size + 1 ≤ w4.heap.size + 1 := by omega
      have q3_o_7 : w3.heap.size + 1 < w4.heap.size + 1 := by omega
      have q3_o_8 : w3.heap.size < w4.heap.size := by omega
      have q3_o_9 : w3.heap.size ≤ w4.heap.size := by omega
      have q3_o_10 : w3.heap.size ≤ w4.heap.size + 1 := by omega
      have q3_o_11 : w3.heap.size < w4.heap.size + 1 := by omega
      have c3_o_0 : w4.cell? ⟨w3.heap.size + 1, 0, none⟩ = some (.int .i64 O.fl) := (blk_cell K3_o.out 0).trans rfl
      have c3_o_1 : w4.cell? ⟨w3.heap.size + 1, 1, none⟩ = some (.int .i64 O.ca) := (blk_cell K3_o.out 1).trans rfl
      have c3_o_2 : w4.cell? ⟨w3.heap.size + 1, 2, none⟩ = some (.bool O.ha) := (blk_cell K3_o.out 2).trans rfl
      have c3_o_3 : w4.cell? ⟨w3.heap.size + 1, 3, none⟩ = some (.bool O.re) := (blk_cell K3_o.out 3).trans rfl
      have c3_o_4 : w4.cell? ⟨w3.heap.size + 1, 4, none⟩ = some (.int .i64 O.va) := (blk_cell K3_o.out 4).trans rfl
      have HC2 := Lib.hid hC2
      have HK2 := Lib.hid hk2
      clear hl hb hk2 hC2 HC1 l2_c q2_c_1 q2_c_2 q2_c_3 c2_c_0 c2_c_1 c2_c_2 c2_c_3 c2_c_4
      go_wp2_with fail
      have hE := (balloc (balloc (Below.refl w4.heap.size w4) (.cells #[.int .i64 X.pc, .int .i64 (X.r 0), .int .i64 (X.r 1), .int .i64 (X.r 2), .int .i64 (X.r 3)] 29)) (.cells #[.int .i64 O.fl, .int .i64 O.ca, .bool O.ha, .bool O.re, .int .i64 O.va] 34))
      refine (HSAME.out A1 A2 k1 k2 _ (Kd.C_below HC1'.out hE) HK1.out (Kd.C_below HC2.out hE) HK2.out).mono ?_
      have HFin := Lib.hid (balloc (balloc B3_.out (.cells #[.int .i64 X.pc, .int .i64 (X.r 0), .int .i64 (X.r 1), .int .i64 (X.r 2), .int .i64 (X.r 3)] 29)) (.cells #[.int .i64 O.fl, .int .i64 O.ca, .bool O.ha, .bool O.re, .int .i64 O.va] 34))
      clear hE
      rintro e w5 ⟨rfl, n5, rfl⟩
      go_wp2_with fail
      go_ret
      exact ⟨rfl, bdrewN HFin.out _⟩
    · have d1 : decide ((code.length : Int) > 200) = true := decide_eq_true (by omega)
      have d2 : decide (200 < (code.length : Int)) = true := decide_eq_true (by omega)
      have d3 : decide (200 < code.length) = true := decide_eq_true (by omega)
      clear hF hfw hc hG hr hl h64 h200
      go_enter Tryd.func5, Tryd.ntmps5
      go_wp2_with fail
      refine (HA.out _).mono ?_
      rintro e w1 ⟨rfl, hb⟩
      have HB1 := Lib.hid (btrans (balloc (Below.refl _ _) _) hb)
      clear hb
      go_wp2_with fail
      refine (HF.out _ HB1.out).mono ?_
      rintro e w2 ⟨rfl, n, rfl⟩
      go_wp2_with fail
      go_ret
      exact ⟨rfl, bdrewN HB1.out _⟩
end Go.Proofs.YtlphgnfjemaliaaDoor.CpuT

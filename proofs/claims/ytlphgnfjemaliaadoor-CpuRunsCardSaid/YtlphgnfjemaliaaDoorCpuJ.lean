/-
  The law function CpuJumps, walked: it answers true. Conditions: the tables hold what the program's text lays; the words lie in memory as told.
-/
import Derived.Test.YtlphgnfjemaliaaDoorCpuL
import Derived.Test.YtlphgnfjemaliaaDoorPr5
namespace Go.Proofs.YtlphgnfjemaliaaDoor.CpuJ
set_option maxRecDepth 100000
set_option linter.unusedVariables false
open Go.RowKit Go.Proofs.YtlphgnfjemaliaaDoorW.PrintWords Go.Proofs.YtlphgnfjemaliaaDoor.Mem Go.Proofs.YtlphgnfjemaliaaDoor.CpuA Go.Proofs.YtlphgnfjemaliaaDoor.CpuB Go.Proofs.YtlphgnfjemaliaaDoor.CpuC Go.Proofs.YtlphgnfjemaliaaDoor.CpuS Go.Proofs.YtlphgnfjemaliaaDoor.CpuL Go.Proofs.YtlphgnfjemaliaaDoor.Instr

theorem same_l0 (m : List Int) (hm : m.length ≤ 1000000) (d : Nat) : ∀ i : Nat, i + d = m.length → Ev (fun k => Pr.quarterdeckref01_Same.l0 k m m i) true := by
  induction d with
  | zero =>
    intro i hd
    refine Ev.step (f := fun _ => some true) (fun k => ?_) (Ev.now _)
    simp only [Pr.quarterdeckref01_Same.l0]; rw [if_neg (by omega)]
  | succ d ih =>
    intro i hd
    refine Ev.step (f := fun k => Pr.quarterdeckref01_Same.l0 k m m ((i + 1 : Nat) : Int)) (fun k => ?_) (ih (i + 1) (by omega))
    simp only [Pr.quarterdeckref01_Same.l0]
    rw [if_pos (by omega), if_pos (by omega), if_pos (by omega), if_pos trivial, show wrap64 ((i : Int) + 1) = (i : Int) + 1 by unfold wrap64; omega]
    rfl
/-- quarterdeckref01.Same of equal words. -/
theorem same_any (A0 A1 : Option Addr) (c0 c1 : Nat) (m : List Int) (hm : m.length ≤ 1000000) (w : World) (h0 : (Kd.int .i64).C w A0 m.length m) (hc0 : m.length ≤ c0) (h1 : (Kd.int .i64).C w A1 m.length m) (hc1 : m.length ≤ c1) :
    Calls Tryd.prog 14 #[.slice A0 m.length c0, .slice A1 m.length c1] w fun e w' => e = .returned (.bool true) ∧ ∃ n, w' = w.drewN n := by
  obtain ⟨k, hk⟩ := (show Ev (fun k => Pr.quarterdeckref01_Same.f k m m) true by
    unfold Pr.quarterdeckref01_Same.f
    simp only [if_true]
    exact same_l0 m hm m.length 0 (by omega)).rounds
  exact (Pr.quarterdeckref01_Same.calls k A0 c0 m A1 c1 m true w h0 hc0 h1 hc1 hk).mono fun e w' ⟨h, ⟨n, h2⟩⟩ => ⟨h, n, h2⟩

theorem may_place (op : Int) (ho : op = 10 ∨ op = 11) (a : Int) (h0 : 0 ≤ a) (h1 : a ≤ 63) : Instr.mayB op 0 a = true := by
  rcases ho with rfl | rfl <;> (simp [Instr.mayB, fitsB, kindN, kindsT, boundsT]; omega)
theorem may_number (n : Int) (h0 : 0 ≤ n) (h1 : n < 26) : Instr.mayB 19 0 n = true := by
  simp [Instr.mayB, fitsB, kindN, kindsT, boundsT]; omega

theorem sJ (x a n now : Int) (m : List Int) (hm : Instr.mayB 10 0 a = true) :
    coreV (stepC [(10, 0, a)] ⟨0, regs4 x 0 0 0⟩ m [] now) = .agg #[.int .i64 a, .int .i64 x, .int .i64 0, .int .i64 0, .int .i64 0] ∧
    outV (stepO [(10, 0, a)] ⟨0, regs4 x 0 0 0⟩ m [] now) = .agg #[.int .i64 0, .int .i64 (-1), .bool false, .bool false, .int .i64 0] ∧ stepM [(10, 0, a)] ⟨0, regs4 x 0 0 0⟩ m [] now = m := by
  have hok : okAt 0 ([(10, 0, a)] : List (Int × Int × Int)) = true := by
    show (true && true && Instr.mayB 10 0 a) = true
    rw [hm]; rfl
  have hF : stepF [(10, 0, a)] ⟨0, regs4 x 0 0 0⟩ m [] now = 0 := by unfold stepF; rw [if_pos hok]; rfl
  refine ⟨?_, ?_, ?_⟩
  · unfold stepC; rw [if_pos hF]; rfl
  · unfold stepO; rw [if_pos hF]; rfl
  · unfold stepM; rw [if_pos hF]; rfl

theorem sZ (x a n now : Int) (m : List Int) (hm : Instr.mayB 11 0 a = true) :
    coreV (stepC [(11, 0, a)] ⟨0, regs4 x 0 0 0⟩ m [] now) = .agg #[.int .i64 (if x = 0 then a else 1), .int .i64 x, .int .i64 0, .int .i64 0, .int .i64 0] ∧
    outV (stepO [(11, 0, a)] ⟨0, regs4 x 0 0 0⟩ m [] now) = .agg #[.int .i64 0, .int .i64 (-1), .bool false, .bool false, .int .i64 0] ∧ stepM [(11, 0, a)] ⟨0, regs4 x 0 0 0⟩ m [] now = m := by
  have hok : okAt 0 ([(11, 0, a)] : List (Int × Int × Int)) = true := by
    show (true && true && Instr.mayB 11 0 a) = true
    rw [hm]; rfl
  have hF : stepF [(11, 0, a)] ⟨0, regs4 x 0 0 0⟩ m [] now = 0 := by unfold stepF; rw [if_pos hok]; rfl
  refine ⟨?_, ?_, ?_⟩
  · unfold stepC; rw [if_pos hF]
    by_cases hx : x = 0
    · rw [if_pos hx]; show coreV (coreOf (if x = 0 then _ else _)) = _; rw [if_pos hx]; rfl
    · rw [if_neg hx]; show coreV (coreOf (if x = 0 then _ else _)) = _; rw [if_neg hx]; rfl
  · unfold stepO; rw [if_pos hF]
    show outV (outOf (if x = 0 then _ else _)) = _
    split <;> rfl
  · unfold stepM; rw [if_pos hF]; rfl

theorem sC (x a n now : Int) (m : List Int)  :
    coreV (stepC [(18, 2, 0)] ⟨0, regs4 x 0 0 0⟩ m [] now) = .agg #[.int .i64 1, .int .i64 x, .int .i64 0, .int .i64 now, .int .i64 0] ∧
    outV (stepO [(18, 2, 0)] ⟨0, regs4 x 0 0 0⟩ m [] now) = .agg #[.int .i64 0, .int .i64 (-1), .bool false, .bool true, .int .i64 now] ∧ stepM [(18, 2, 0)] ⟨0, regs4 x 0 0 0⟩ m [] now = m := by
  have hok : okAt 0 ([(18, 2, 0)] : List (Int × Int × Int)) = true := by
    show (true && true && Instr.mayB 18 2 0) = true
    rfl
  have hF : stepF [(18, 2, 0)] ⟨0, regs4 x 0 0 0⟩ m [] now = 0 := by unfold stepF; rw [if_pos hok]; rfl
  refine ⟨?_, ?_, ?_⟩
  · unfold stepC; rw [if_pos hF]; rfl
  · unfold stepO; rw [if_pos hF]; rfl
  · unfold stepM; rw [if_pos hF]; rfl

theorem sN (x a n now : Int) (m : List Int) (hm : Instr.mayB 19 0 n = true) :
    coreV (stepC [(19, 0, n)] ⟨0, regs4 x 0 0 0⟩ m [] now) = .agg #[.int .i64 1, .int .i64 x, .int .i64 0, .int .i64 0, .int .i64 0] ∧
    outV (stepO [(19, 0, n)] ⟨0, regs4 x 0 0 0⟩ m [] now) = .agg #[.int .i64 0, .int .i64 n, .bool false, .bool false, .int .i64 0] ∧ stepM [(19, 0, n)] ⟨0, regs4 x 0 0 0⟩ m [] now = m := by
  have hok : okAt 0 ([(19, 0, n)] : List (Int × Int × Int)) = true := by
    show (true && true && Instr.mayB 19 0 n) = true
    rw [hm]; rfl
  have hF : stepF [(19, 0, n)] ⟨0, regs4 x 0 0 0⟩ m [] now = 0 := by unfold stepF; rw [if_pos hok]; rfl
  refine ⟨?_, ?_, ?_⟩
  · unfold stepC; rw [if_pos hF]; rfl
  · unfold stepO; rw [if_pos hF]; rfl
  · unfold stepM; rw [if_pos hF]; rfl

set_option maxHeartbeats 4000000 in
theorem jumps_any (a x now n : Int) (M : Option Addr) (cm : Nat) (m : List Int) (w : World) (hG : Glob w) (hr : (Kd.int .i64).C w M m.length m) (hcm : m.length ≤ cm) :
    Calls Tryd.prog 9 #[.int .i64 a, .int .i64 x, .int .i64 now, .int .i64 n, .slice M m.length cm] w fun e w' => e = .returned (.bool true) ∧ Below w.heap.size w w' := by
  have hA := awake_any w hG
  have HA := Lib.hid hA
  have HG := Lib.hid hG
  have HR := Lib.hid hr
  have HCM := Lib.hid hcm
  clear hA hG hr hcm
  by_cases hin : 0 ≤ a ∧ a ≤ 63 ∧ 0 ≤ n ∧ n < 26 ∧ m.length ≤ 64
  · obtain ⟨i0, i1, i2, i3, i4⟩ := hin
    have d1 : decide (a < 0) = false := decide_eq_false (by omega)
    have d2 : decide (63 < a) = false := decide_eq_false (by omega)
    have d3 : decide (n < 0) = false := decide_eq_false (by omega)
    have d4 : decide (26 ≤ n) = false := decide_eq_false (by omega)
    have d5 : decide (64 < (m.length : Int)) = false := decide_eq_false (by omega)
    have d6 : decide (64 < m.length) = false := decide_eq_false (by omega)
    have hl6 : m.length ≤ 1000000 := by omega
    have HL6 := Lib.hid hl6
    have hSame : ∀ A0 c0 W, (Kd.int .i64).C W A0 m.length m → m.length ≤ c0 → (Kd.int .i64).C W M m.length m → _ := fun A0 c0 W h0 h1 h2 => same_any A0 M c0 cm m hl6 W h0 h1 h2 HCM.out
    have HSAME := Lib.hid hSame
    have hMJ := may_place 10 (.inl rfl) a i0 i1
    have hMZ := may_place 11 (.inr rfl) a i0 i1
    have hMN := may_number n i2 i3

    have hJ : ∀ W B, CodeAt W (some ⟨B, 0, none⟩) [(10, 0, a)] → Glob W → (Kd.int .i64).C W M m.length m → _ := fun W B hc hg hr => step_any ⟨0, regs4 x 0 0 0⟩ (some ⟨B, 0, none⟩) 1 [(10, 0, a)] W hc hg M cm m none 0 [] now hr hl6 (regsAt_nil W)
    rw [(sJ x a n now m hMJ).1, (sJ x a n now m hMJ).2.1, (sJ x a n now m hMJ).2.2, show coreV ⟨0, regs4 x 0 0 0⟩ = .agg #[.int .i64 0, .int .i64 x, .int .i64 0, .int .i64 0, .int .i64 0] from rfl] at hJ
    simp only [List.length_cons, List.length_nil, Nat.zero_add] at hJ
    have HJ := Lib.hid hJ
    have hZ : ∀ W B, CodeAt W (some ⟨B, 0, none⟩) [(11, 0, a)] → Glob W → (Kd.int .i64).C W M m.length m → _ := fun W B hc hg hr => step_any ⟨0, regs4 x 0 0 0⟩ (some ⟨B, 0, none⟩) 1 [(11, 0, a)] W hc hg M cm m none 0 [] now hr hl6 (regsAt_nil W)
    rw [(sZ x a n now m hMZ).1, (sZ x a n now m hMZ).2.1, (sZ x a n now m hMZ).2.2, show coreV ⟨0, regs4 x 0 0 0⟩ = .agg #[.int .i64 0, .int .i64 x, .int .i64 0, .int .i64 0, .int .i64 0] from rfl] at hZ
    simp only [List.length_cons, List.length_nil, Nat.zero_add] at hZ
    have HZ := Lib.hid hZ
    have hC : ∀ W B, CodeAt W (some ⟨B, 0, none⟩) [(18, 2, 0)] → Glob W → (Kd.int .i64).C W M m.length m → _ := fun W B hc hg hr => step_any ⟨0, regs4 x 0 0 0⟩ (some ⟨B, 0, none⟩) 1 [(18, 2, 0)] W hc hg M cm m none 0 [] now hr hl6 (regsAt_nil W)
    rw [(sC x a n now m ).1, (sC x a n now m ).2.1, (sC x a n now m ).2.2, show coreV ⟨0, regs4 x 0 0 0⟩ = .agg #[.int .i64 0, .int .i64 x, .int .i64 0, .int .i64 0, .int .i64 0] from rfl] at hC
    simp only [List.length_cons, List.length_nil, Nat.zero_add] at hC
    have HC := Lib.hid hC
    have hN : ∀ W B, CodeAt W (some ⟨B, 0, none⟩) [(19, 0, n)] → Glob W → (Kd.int .i64).C W M m.length m → _ := fun W B hc hg hr => step_any ⟨0, regs4 x 0 0 0⟩ (some ⟨B, 0, none⟩) 1 [(19, 0, n)] W hc hg M cm m none 0 [] now hr hl6 (regsAt_nil W)
    rw [(sN x a n now m hMN).1, (sN x a n now m hMN).2.1, (sN x a n now m hMN).2.2, show coreV ⟨0, regs4 x 0 0 0⟩ = .agg #[.int .i64 0, .int .i64 x, .int .i64 0, .int .i64 0, .int .i64 0] from rfl] at hN
    simp only [List.length_cons, List.length_nil, Nat.zero_add] at hN
    have HN := Lib.hid hN
    generalize hpz : (if x = 0 then a else 1) = pz at *
    have heq : ∀ W, _ := fun W => eq_regs 9998 x 0 0 0 W
    simp only [Nat.reduceAdd] at heq
    have HPZ := Lib.hid hpz
    clear hJ hZ hC hN i0 i1 i2 i3 i4 hl6 hSame hMJ hMZ hMN hpz
    go_enter Tryd.func9, Tryd.ntmps9
    go_wp2_with fail
    refine HA.out.mono ?_
    rintro e w1 ⟨rfl, hb⟩
    have HB1 := Lib.hid hb
    clear hb
    go_wp2_with fail
    have hl := (balloc (balloc HB1.out (.cells #[.int .i64 0, .int .i64 x, .int .i64 0, .int .i64 0, .int .i64 0] 29)) (.cells #[.int .i64 10, .int .i64 0, .int .i64 a] 31))
    with_reducible refine (HJ.out _ _ (codeAt_blk (two_new2 w1 (.cells #[.int .i64 0, .int .i64 x, .int .i64 0, .int .i64 0, .int .i64 0] 29) (.cells #[.int .i64 10, .int .i64 0, .int .i64 a] 31)) [(10, 0, a)] rfl (by simp)) (HG.out.below hl) (Kd.C_below HR.out hl)).mono ?_
    rintro e w2 ⟨u0, rfl, hr2, hb2⟩
    have hrl0 := hr2
    have K1_c := Lib.hid (blk_below (two_new1 w1 (.cells #[.int .i64 0, .int .i64 x, .int .i64 0, .int .i64 0, .int .i64 0] 29) (.cells #[.int .i64 10, .int .i64 0, .int .i64 a] 31)) hb2)
    have B1_ := Lib.hid (btrans (balloc (balloc HB1.out (.cells #[.int .i64 0, .int .i64 x, .int .i64 0, .int .i64 0, .int .i64 0] 29)) (.cells #[.int .i64 10, .int .i64 0, .int .i64 a] 31)) hb2)
    have l1_c := blk_lt K1_c.out
    have q1_c_1 : w1.heap.size ≤ w2.heap.size := by omega
    have q1_c_2 : w1.heap.size ≤ w2.heap.size + 1 := by omega
    have q1_c_3 : w1.heap.size < w2.heap.size + 1 := by omega
    have c1_c_0 : w2.cell? ⟨w1.heap.size, 0, none⟩ = some (.int .i64 0) := (blk_cell K1_c.out 0).trans rfl
    have c1_c_1 : w2.cell? ⟨w1.heap.size, 1, none⟩ = some (.int .i64 x) := (blk_cell K1_c.out 1).trans rfl
    have c1_c_2 : w2.cell? ⟨w1.heap.size, 2, none⟩ = some (.int .i64 0) := (blk_cell K1_c.out 2).trans rfl
    have c1_c_3 : w2.cell? ⟨w1.heap.size, 3, none⟩ = some (.int .i64 0) := (blk_cell K1_c.out 3).trans rfl
    have c1_c_4 : w2.cell? ⟨w1.heap.size, 4, none⟩ = some (.int .i64 0) := (blk_cell K1_c.out 4).trans rfl
    obtain ⟨A0, k0, rfl, hk0, hC0⟩ := Kd.R_reads hr2
    have HC0 := Lib.hid hC0
    have HK0 := Lib.hid hk0
    clear hl hr2 hb2 hrl0 hC0 hk0 
    go_wp2_with fail
    have hl := (balloc (balloc (balloc B1_.out (.cells #[.int .i64 a, .int .i64 x, .int .i64 0, .int .i64 0, .int .i64 0] 29)) (.cells #[.int .i64 0, .int .i64 (-1), .bool false, .bool false, .int .i64 0] 34)) (.cells #[.int .i64 11, .int .i64 0, .int .i64 a] 31))
    with_reducible refine (HZ.out _ _ (codeAt_blk (three_new3 w2 (.cells #[.int .i64 a, .int .i64 x, .int .i64 0, .int .i64 0, .int .i64 0] 29) (.cells #[.int .i64 0, .int .i64 (-1), .bool false, .bool false, .int .i64 0] 34) (.cells #[.int .i64 11, .int .i64 0, .int .i64 a] 31)) [(11, 0, a)] rfl (by simp)) (HG.out.below hl) (Kd.C_below HR.out hl)).mono ?_
    rintro e w3 ⟨u1, rfl, hr2, hb2⟩
    have hrl1 := hr2
    have K2_c := Lib.hid (blk_below (blk_alloc (blk_alloc (blk_alloc K1_c.out (.cells #[.int .i64 a, .int .i64 x, .int .i64 0, .int .i64 0, .int .i64 0] 29)) (.cells #[.int .i64 0, .int .i64 (-1), .bool false, .bool false, .int .i64 0] 34)) (.cells #[.int .i64 11, .int .i64 0, .int .i64 a] 31)) hb2)
    have K2_d0 := Lib.hid (blk_below (three_new1 w2 (.cells #[.int .i64 a, .int .i64 x, .int .i64 0, .int .i64 0, .int .i64 0] 29) (.cells #[.int .i64 0, .int .i64 (-1), .bool false, .bool false, .int .i64 0] 34) (.cells #[.int .i64 11, .int .i64 0, .int .i64 a] 31)) hb2)
    have K2_o0 := Lib.hid (blk_below (three_new2 w2 (.cells #[.int .i64 a, .int .i64 x, .int .i64 0, .int .i64 0, .int .i64 0] 29) (.cells #[.int .i64 0, .int .i64 (-1), .bool false, .bool false, .int .i64 0] 34) (.cells #[.int .i64 11, .int .i64 0, .int .i64 a] 31)) hb2)
    have B2_ := Lib.hid (btrans (balloc (balloc (balloc B1_.out (.cells #[.int .i64 a, .int .i64 x, .int .i64 0, .int .i64 0, .int .i64 0] 29)) (.cells #[.int .i64 0, .int .i64 (-1), .bool false, .bool false, .int .i64 0] 34)) (.cells #[.int .i64 11, .int .i64 0, .int .i64 a] 31)) hb2)
    have l2_c := blk_lt K2_c.out
    have q2_c_1 : w1.heap.size ≤ w3.heap.size := by omega
    have q2_c_2 : w1.heap.size ≤ w3.heap.size + 1 := by omega
    have q2_c_3 : w1.heap.size < w3.heap.size + 1 := by omega
    have c2_c_0 : w3.cell? ⟨w1.heap.size, 0, none⟩ = some (.int .i64 0) := (blk_cell K2_c.out 0).trans rfl
    have c2_c_1 : w3.cell? ⟨w1.heap.size, 1, none⟩ = some (.int .i64 x) := (blk_cell K2_c.out 1).trans rfl
    have c2_c_2 : w3.cell? ⟨w1.heap.size, 2, none⟩ = some (.int .i64 0) := (blk_cell K2_c.out 2).trans rfl
    have c2_c_3 : w3.cell? ⟨w1.heap.size, 3, none⟩ = some (.int .i64 0) := (blk_cell K2_c.out 3).trans rfl
    have c2_c_4 : w3.cell? ⟨w1.heap.size, 4, none⟩ = some (.int .i64 0) := (blk_cell K2_c.out 4).trans rfl
    have l2_d0 := blk_lt K2_d0.out
    have q2_d0_5 : w2.heap.size ≤ w3.heap.size := by omega
    have q2_d0_6 : w2.heap.size ≤ w3.heap.size + 1 := by omega
    have q2_d0_7 : w2.heap.size < w3.heap.size + 1 := by omega
    have c2_d0_0 : w3.cell? ⟨w2.heap.size, 0, none⟩ = some (.int .i64 a) := (blk_cell K2_d0.out 0).trans rfl
    have c2_d0_1 : w3.cell? ⟨w2.heap.size, 1, none⟩ = some (.int .i64 x) := (blk_cell K2_d0.out 1).trans rfl
    have c2_d0_2 : w3.cell? ⟨w2.heap.size, 2, none⟩ = some (.int .i64 0) := (blk_cell K2_d0.out 2).trans rfl
    have c2_d0_3 : w3.cell? ⟨w2.heap.size, 3, none⟩ = some (.int .i64 0) := (blk_cell K2_d0.out 3).trans rfl
    have c2_d0_4 : w3.cell? ⟨w2.heap.size, 4, none⟩ = some (.int .i64 0) := (blk_cell K2_d0.out 4).trans rfl
    have l2_o0 := blk_lt K2_o0.out
    have q2_o0_9 : w2.heap.size + 1 ≤ w3.heap.size := by omega
    have q2_o0_10 : w2.heap.size + 1 ≤ w3.heap.size + 1 := by omega
    have q2_o0_11 : w2.heap.size + 1 < w3.heap.size + 1 := by omega
    have q2_o0_12 : w2.heap.size < w3.heap.size := by omega
    have q2_o0_13 : w2.heap.size ≤ w3.heap.size := by omega
    have q2_o0_14 : w2.heap.size ≤ w3.heap.size + 1 := by omega
    have q2_o0_15 : w2.heap.size < w3.heap.size + 1 := by omega
    have c2_o0_0 : w3.cell? ⟨w2.heap.size + 1, 0, none⟩ = some (.int .i64 0) := (blk_cell K2_o0.out 0).trans rfl
    have c2_o0_1 : w3.cell? ⟨w2.heap.size + 1, 1, none⟩ = some (.int .i64 (-1)) := (blk_cell K2_o0.out 1).trans rfl
    have c2_o0_2 : w3.cell? ⟨w2.heap.size + 1, 2, none⟩ = some (.bool false) := (blk_cell K2_o0.out 2).trans rfl
    have c2_o0_3 : w3.cell? ⟨w2.heap.size + 1, 3, none⟩ = some (.bool false) := (blk_cell K2_o0.out 3).trans rfl
    have c2_o0_4 : w3.cell? ⟨w2.heap.size + 1, 4, none⟩ = some (.int .i64 0) := (blk_cell K2_o0.out 4).trans rfl
    obtain ⟨A1, k1, rfl, hk1, hC1⟩ := Kd.R_reads hr2
    have HC1 := Lib.hid hC1
    have HK1 := Lib.hid hk1
    have HC0' := Lib.hid (Kd.C_below (Kd.C_below HC0.out (balloc (balloc (balloc (Below.refl _ _) _) _) _)) hb2)
    clear HC0
    have HC0 := HC0'
    clear HC0'
    clear hl hr2 hb2 hrl1 hC1 hk1 l1_c q1_c_1 q1_c_2 q1_c_3 c1_c_0 c1_c_1 c1_c_2 c1_c_3 c1_c_4
    go_wp2_with fail
    have hl := (balloc (balloc (balloc B2_.out (.cells #[.int .i64 pz, .int .i64 x, .int .i64 0, .int .i64 0, .int .i64 0] 29)) (.cells #[.int .i64 0, .int .i64 (-1), .bool false, .bool false, .int .i64 0] 34)) (.cells #[.int .i64 18, .int .i64 2, .int .i64 0] 31))
    with_reducible refine (HC.out _ _ (codeAt_blk (three_new3 w3 (.cells #[.int .i64 pz, .int .i64 x, .int .i64 0, .int .i64 0, .int .i64 0] 29) (.cells #[.int .i64 0, .int .i64 (-1), .bool false, .bool false, .int .i64 0] 34) (.cells #[.int .i64 18, .int .i64 2, .int .i64 0] 31)) [(18, 2, 0)] rfl (by simp)) (HG.out.below hl) (Kd.C_below HR.out hl)).mono ?_
    rintro e w4 ⟨u2, rfl, hr2, hb2⟩
    have hrl2 := hr2
    have K3_c := Lib.hid (blk_below (blk_alloc (blk_alloc (blk_alloc K2_c.out (.cells #[.int .i64 pz, .int .i64 x, .int .i64 0, .int .i64 0, .int .i64 0] 29)) (.cells #[.int .i64 0, .int .i64 (-1), .bool false, .bool false, .int .i64 0] 34)) (.cells #[.int .i64 18, .int .i64 2, .int .i64 0] 31)) hb2)
    have K3_d0 := Lib.hid (blk_below (blk_alloc (blk_alloc (blk_alloc K2_d0.out (.cells #[.int .i64 pz, .int .i64 x, .int .i64 0, .int .i64 0, .int .i64 0] 29)) (.cells #[.int .i64 0, .int .i64 (-1), .bool false, .bool false, .int .i64 0] 34)) (.cells #[.int .i64 18, .int .i64 2, .int .i64 0] 31)) hb2)
    have K3_o0 := Lib.hid (blk_below (blk_alloc (blk_alloc (blk_alloc K2_o0.out (.cells #[.int .i64 pz, .int .i64 x, .int .i64 0, .int .i64 0, .int .i64 0] 29)) (.cells #[.int .i64 0, .int .i64 (-1), .bool false, .bool false, .int .i64 0] 34)) (.cells #[.int .i64 18, .int .i64 2, .int .i64 0] 31)) hb2)
    have K3_d1 := Lib.hid (blk_below (three_new1 w3 (.cells #[.int .i64 pz, .int .i64 x, .int .i64 0, .int .i64 0, .int .i64 0] 29) (.cells #[.int .i64 0, .int .i64 (-1), .bool false, .bool false, .int .i64 0] 34) (.cells #[.int .i64 18, .int .i64 2, .int .i64 0] 31)) hb2)
    have K3_o1 := Lib.hid (blk_below (three_new2 w3 (.cells #[.int .i64 pz, .int .i64 x, .int .i64 0, .int .i64 0, .int .i64 0] 29) (.cells #[.int .i64 0, .int .i64 (-1), .bool false, .bool false, .int .i64 0] 34) (.cells #[.int .i64 18, .int .i64 2, .int .i64 0] 31)) hb2)
    have B3_ := Lib.hid (btrans (balloc (balloc (balloc B2_.out (.cells #[.int .i64 pz, .int .i64 x, .int .i64 0, .int .i64 0, .int .i64 0] 29)) (.cells #[.int .i64 0, .int .i64 (-1), .bool false, .bool false, .int .i64 0] 34)) (.cells #[.int .i64 18, .int .i64 2, .int .i64 0] 31)) hb2)
    have l3_c := blk_lt K3_c.out
    have q3_c_1 : w1.heap.size ≤ w4.heap.size := by omega
    have q3_c_2 : w1.heap.size ≤ w4.heap.size + 1 := by omega
    have q3_c_3 : w1.heap.size < w4.heap.size + 1 := by omega
    have c3_c_0 : w4.cell? ⟨w1.heap.size, 0, none⟩ = some (.int .i64 0) := (blk_cell K3_c.out 0).trans rfl
    have c3_c_1 : w4.cell? ⟨w1.heap.size, 1, none⟩ = some (.int .i64 x) := (blk_cell K3_c.out 1).trans rfl
    have c3_c_2 : w4.cell? ⟨w1.heap.size, 2, none⟩ = some (.int .i64 0) := (blk_cell K3_c.out 2).trans rfl
    have c3_c_3 : w4.cell? ⟨w1.heap.size, 3, none⟩ = some (.int .i64 0) := (blk_cell K3_c.out 3).trans rfl
    have c3_c_4 : w4.cell? ⟨w1.heap.size, 4, none⟩ = some (.int .i64 0) := (blk_cell K3_c.out 4).trans rfl
    have l3_d0 := blk_lt K3_d0.out
    have q3_d0_5 : w2.heap.size ≤ w4.heap.size := by omega
    have q3_d0_6 : w2.heap.size ≤ w4.heap.size + 1 := by omega
    have q3_d0_7 : w2.heap.size < w4.heap.size + 1 := by omega
    have c3_d0_0 : w4.cell? ⟨w2.heap.size, 0, none⟩ = some (.int .i64 a) := (blk_cell K3_d0.out 0).trans rfl
    have c3_d0_1 : w4.cell? ⟨w2.heap.size, 1, none⟩ = some (.int .i64 x) := (blk_cell K3_d0.out 1).trans rfl
    have c3_d0_2 : w4.cell? ⟨w2.heap.size, 2, none⟩ = some (.int .i64 0) := (blk_cell K3_d0.out 2).trans rfl
    have c3_d0_3 : w4.cell? ⟨w2.heap.size, 3, none⟩ = some (.int .i64 0) := (blk_cell K3_d0.out 3).trans rfl
    have c3_d0_4 : w4.cell? ⟨w2.heap.size, 4, none⟩ = some (.int .i64 0) := (blk_cell K3_d0.out 4).trans rfl
    have l3_o0 := blk_lt K3_o0.out
    have q3_o0_9 : w2.heap.size + 1 ≤ w4.heap.size := by omega
    have q3_o0_10 : w2.heap.size + 1 ≤ w4.heap.size + 1 := by omega
    have q3_o0_11 : w2.heap.size + 1 < w4.heap.size + 1 := by omega
    have q3_o0_12 : w2.heap.size < w4.heap.size := by omega
    have q3_o0_13 : w2.heap.size ≤ w4.heap.size := by omega
    have q3_o0_14 : w2.heap.size ≤ w4.heap.size + 1 := by omega
    have q3_o0_15 : w2.heap.size < w4.heap.size + 1 := by omega
    have c3_o0_0 : w4.cell? ⟨w2.heap.size + 1, 0, none⟩ = some (.int .i64 0) := (blk_cell K3_o0.out 0).trans rfl
    have c3_o0_1 : w4.cell? ⟨w2.heap.size + 1, 1, none⟩ = some (.int .i64 (-1)) := (blk_cell K3_o0.out 1).trans rfl
    have c3_o0_2 : w4.cell? ⟨w2.heap.size + 1, 2, none⟩ = some (.bool false) := (blk_cell K3_o0.out 2).trans rfl
    have c3_o0_3 : w4.cell? ⟨w2.heap.size + 1, 3, none⟩ = some (.bool false) := (blk_cell K3_o0.out 3).trans rfl
    have c3_o0_4 : w4.cell? ⟨w2.heap.size + 1, 4, none⟩ = some (.int .i64 0) := (blk_cell K3_o0.out 4).trans rfl
    have l3_d1 := blk_lt K3_d1.out
    have q3_d1_17 : w3.heap.size ≤ w4.heap.size := by omega
    have q3_d1_18 : w3.heap.size ≤ w4.heap.size + 1 := by omega
    have q3_d1_19 : w3.heap.size < w4.heap.size + 1 := by omega
    have c3_d1_0 : w4.cell? ⟨w3.heap.size, 0, none⟩ = some (.int .i64 pz) := (blk_cell K3_d1.out 0).trans rfl
    have c3_d1_1 : w4.cell? ⟨w3.heap.size, 1, none⟩ = some (.int .i64 x) := (blk_cell K3_d1.out 1).trans rfl
    have c3_d1_2 : w4.cell? ⟨w3.heap.size, 2, none⟩ = some (.int .i64 0) := (blk_cell K3_d1.out 2).trans rfl
    have c3_d1_3 : w4.cell? ⟨w3.heap.size, 3, none⟩ = some (.int .i64 0) := (blk_cell K3_d1.out 3).trans rfl
    have c3_d1_4 : w4.cell? ⟨w3.heap.size, 4, none⟩ = some (.int .i64 0) := (blk_cell K3_d1.out 4).trans rfl
    have l3_o1 := blk_lt K3_o1.out
    have q3_o1_21 : w3.heap.size + 1 ≤ w4.heap.size := by omega
    have q3_o1_22 : w3.heap.size + 1 ≤ w4.heap.size + 1 := by omega
    have q3_o1_23 : w3.heap.size + 1 < w4.heap.size + 1 := by omega
    have q3_o1_24 : w3.heap.size < w4.heap.size := by omega
    have q3_o1_25 : w3.heap.size ≤ w4.heap.size := by omega
    have q3_o1_26 : w3.heap.size ≤ w4.heap.size + 1 := by omega
    have q3_o1_27 : w3.heap.size < w4.heap.size + 1 := by omega
    have c3_o1_0 : w4.cell? ⟨w3.heap.size + 1, 0, none⟩ = some (.int .i64 0) := (blk_cell K3_o1.out 0).trans rfl
    have c3_o1_1 : w4.cell? ⟨w3.heap.size + 1, 1, none⟩ = some (.int .i64 (-1)) := (blk_cell K3_o1.out 1).trans rfl
    have c3_o1_2 : w4.cell? ⟨w3.heap.size + 1, 2, none⟩ = some (.bool false) := (blk_cell K3_o1.out 2).trans rfl
    have c3_o1_3 : w4.cell? ⟨w3.heap.size + 1, 3, none⟩ = some (.bool false) := (blk_cell K3_o1.out 3).trans rfl
    have c3_o1_4 : w4.cell? ⟨w3.heap.size + 1, 4, none⟩ = some (.int .i64 0) := (blk_cell K3_o1.out 4).trans rfl
    obtain ⟨A2, k2, rfl, hk2, hC2⟩ := Kd.R_reads hr2
    have HC2 := Lib.hid hC2
    have HK2 := Lib.hid hk2
    have HC0' := Lib.hid (Kd.C_below (Kd.C_below HC0.out (balloc (balloc (balloc (Below.refl _ _) _) _) _)) hb2)
    clear HC0
    have HC0 := HC0'
    clear HC0'
    have HC1' := Lib.hid (Kd.C_below (Kd.C_below HC1.out (balloc (balloc (balloc (Below.refl _ _) _) _) _)) hb2)
    clear HC1
    have HC1 := HC1'
    clear HC1'
    clear hl hr2 hb2 hrl2 hC2 hk2 l2_c q2_c_1 q2_c_2 q2_c_3 l2_d0 q2_d0_5 q2_d0_6 q2_d0_7 l2_o0 q2_o0_9 q2_o0_10 q2_o0_11 q2_o0_12 q2_o0_13 q2_o0_14 q2_o0_15 c2_c_0 c2_c_1 c2_c_2 c2_c_3 c2_c_4 c2_d0_0 c2_d0_1 c2_d0_2 c2_d0_3 c2_d0_4 c2_o0_0 c2_o0_1 c2_o0_2 c2_o0_3 c2_o0_4
    go_wp2_with fail
    have hl := (balloc (balloc (balloc B3_.out (.cells #[.int .i64 1, .int .i64 x, .int .i64 0, .int .i64 now, .int .i64 0] 29)) (.cells #[.int .i64 0, .int .i64 (-1), .bool false, .bool true, .int .i64 now] 34)) (.cells #[.int .i64 19, .int .i64 0, .int .i64 n] 31))
    with_reducible refine (HN.out _ _ (codeAt_blk (three_new3 w4 (.cells #[.int .i64 1, .int .i64 x, .int .i64 0, .int .i64 now, .int .i64 0] 29) (.cells #[.int .i64 0, .int .i64 (-1), .bool false, .bool true, .int .i64 now] 34) (.cells #[.int .i64 19, .int .i64 0, .int .i64 n] 31)) [(19, 0, n)] rfl (by simp)) (HG.out.below hl) (Kd.C_below HR.out hl)).mono ?_
    rintro e w5 ⟨u3, rfl, hr2, hb2⟩
    have hrl3 := hr2
    have K4_c := Lib.hid (blk_below (blk_alloc (blk_alloc (blk_alloc K3_c.out (.cells #[.int .i64 1, .int .i64 x, .int .i64 0, .int .i64 now, .int .i64 0] 29)) (.cells #[.int .i64 0, .int .i64 (-1), .bool false, .bool true, .int .i64 now] 34)) (.cells #[.int .i64 19, .int .i64 0, .int .i64 n] 31)) hb2)
    have K4_d0 := Lib.hid (blk_below (blk_alloc (blk_alloc (blk_alloc K3_d0.out (.cells #[.int .i64 1, .int .i64 x, .int .i64 0, .int .i64 now, .int .i64 0] 29)) (.cells #[.int .i64 0, .int .i64 (-1), .bool false, .bool true, .int .i64 now] 34)) (.cells #[.int .i64 19, .int .i64 0, .int .i64 n] 31)) hb2)
    have K4_o0 := Lib.hid (blk_below (blk_alloc (blk_alloc (blk_alloc K3_o0.out (.cells #[.int .i64 1, .int .i64 x, .int .i64 0, .int .i64 now, .int .i64 0] 29)) (.cells #[.int .i64 0, .int .i64 (-1), .bool false, .bool true, .int .i64 now] 34)) (.cells #[.int .i64 19, .int .i64 0, .int .i64 n] 31)) hb2)
    have K4_d1 := Lib.hid (blk_below (blk_alloc (blk_alloc (blk_alloc K3_d1.out (.cells #[.int .i64 1, .int .i64 x, .int .i64 0, .int .i64 now, .int .i64 0] 29)) (.cells #[.int .i64 0, .int .i64 (-1), .bool false, .bool true, .int .i64 now] 34)) (.cells #[.int .i64 19, .int .i64 0, .int .i64 n] 31)) hb2)
    have K4_o1 := Lib.hid (blk_below (blk_alloc (blk_alloc (blk_alloc K3_o1.out (.cells #[.int .i64 1, .int .i64 x, .int .i64 0, .int .i64 now, .int .i64 0] 29)) (.cells #[.int .i64 0, .int .i64 (-1), .bool false, .bool true, .int .i64 now] 34)) (.cells #[.int .i64 19, .int .i64 0, .int .i64 n] 31)) hb2)
    have K4_d2 := Lib.hid (blk_below (three_new1 w4 (.cells #[.int .i64 1, .int .i64 x, .int .i64 0, .int .i64 now, .int .i64 0] 29) (.cells #[.int .i64 0, .int .i64 (-1), .bool false, .bool true, .int .i64 now] 34) (.cells #[.int .i64 19, .int .i64 0, .int .i64 n] 31)) hb2)
    have K4_o2 := Lib.hid (blk_below (three_new2 w4 (.cells #[.int .i64 1, .int .i64 x, .int .i64 0, .int .i64 now, .int .i64 0] 29) (.cells #[.int .i64 0, .int .i64 (-1), .bool false, .bool true, .int .i64 now] 34) (.cells #[.int .i64 19, .int .i64 0, .int .i64 n] 31)) hb2)
    have B4_ := Lib.hid (btrans (balloc (balloc (balloc B3_.out (.cells #[.int .i64 1, .int .i64 x, .int .i64 0, .int .i64 now, .int .i64 0] 29)) (.cells #[.int .i64 0, .int .i64 (-1), .bool false, .bool true, .int .i64 now] 34)) (.cells #[.int .i64 19, .int .i64 0, .int .i64 n] 31)) hb2)
    have l4_c := blk_lt K4_c.out
    have q4_c_1 : w1.heap.size ≤ w5.heap.size := by omega
    have q4_c_2 : w1.heap.size ≤ w5.heap.size + 1 := by omega
    have q4_c_3 : w1.heap.size < w5.heap.size + 1 := by omega
    have c4_c_0 : w5.cell? ⟨w1.heap.size, 0, none⟩ = some (.int .i64 0) := (blk_cell K4_c.out 0).trans rfl
    have c4_c_1 : w5.cell? ⟨w1.heap.size, 1, none⟩ = some (.int .i64 x) := (blk_cell K4_c.out 1).trans rfl
    have c4_c_2 : w5.cell? ⟨w1.heap.size, 2, none⟩ = some (.int .i64 0) := (blk_cell K4_c.out 2).trans rfl
    have c4_c_3 : w5.cell? ⟨w1.heap.size, 3, none⟩ = some (.int .i64 0) := (blk_cell K4_c.out 3).trans rfl
    have c4_c_4 : w5.cell? ⟨w1.heap.size, 4, none⟩ = some (.int .i64 0) := (blk_cell K4_c.out 4).trans rfl
    have l4_d0 := blk_lt K4_d0.out
    have q4_d0_5 : w2.heap.size ≤ w5.heap.size := by omega
    have q4_d0_6 : w2.heap.size ≤ w5.heap.size + 1 := by omega
    have q4_d0_7 : w2.heap.size < w5.heap.size + 1 := by omega
    have c4_d0_0 : w5.cell? ⟨w2.heap.size, 0, none⟩ = some (.int .i64 a) := (blk_cell K4_d0.out 0).trans rfl
    have c4_d0_1 : w5.cell? ⟨w2.heap.size, 1, none⟩ = some (.int .i64 x) := (blk_cell K4_d0.out 1).trans rfl
    have c4_d0_2 : w5.cell? ⟨w2.heap.size, 2, none⟩ = some (.int .i64 0) := (blk_cell K4_d0.out 2).trans rfl
    have c4_d0_3 : w5.cell? ⟨w2.heap.size, 3, none⟩ = some (.int .i64 0) := (blk_cell K4_d0.out 3).trans rfl
    have c4_d0_4 : w5.cell? ⟨w2.heap.size, 4, none⟩ = some (.int .i64 0) := (blk_cell K4_d0.out 4).trans rfl
    have l4_o0 := blk_lt K4_o0.out
    have q4_o0_9 : w2.heap.size + 1 ≤ w5.heap.size := by omega
    have q4_o0_10 : w2.heap.size + 1 ≤ w5.heap.size + 1 := by omega
    have q4_o0_11 : w2.heap.size + 1 < w5.heap.size + 1 := by omega
    have q4_o0_12 : w2.heap.size < w5.heap.size := by omega
    have q4_o0_13 : w2.heap.size ≤ w5.heap.size := by omega
    have q4_o0_14 : w2.heap.size ≤ w5.heap.size + 1 := by omega
    have q4_o0_15 : w2.heap.size < w5.heap.size + 1 := by omega
    have c4_o0_0 : w5.cell? ⟨w2.heap.size + 1, 0, none⟩ = some (.int .i64 0) := (blk_cell K4_o0.out 0).trans rfl
    have c4_o0_1 : w5.cell? ⟨w2.heap.size + 1, 1, none⟩ = some (.int .i64 (-1)) := (blk_cell K4_o0.out 1).trans rfl
    have c4_o0_2 : w5.cell? ⟨w2.heap.size + 1, 2, none⟩ = some (.bool false) := (blk_cell K4_o0.out 2).trans rfl
    have c4_o0_3 : w5.cell? ⟨w2.heap.size + 1, 3, none⟩ = some (.bool false) := (blk_cell K4_o0.out 3).trans rfl
    have c4_o0_4 : w5.cell? ⟨w2.heap.size + 1, 4, none⟩ = some (.int .i64 0) := (blk_cell K4_o0.out 4).trans rfl
    have l4_d1 := blk_lt K4_d1.out
    have q4_d1_17 : w3.heap.size ≤ w5.heap.size := by omega
    have q4_d1_18 : w3.heap.size ≤ w5.heap.size + 1 := by omega
    have q4_d1_19 : w3.heap.size < w5.heap.size + 1 := by omega
    have c4_d1_0 : w5.cell? ⟨w3.heap.size, 0, none⟩ = some (.int .i64 pz) := (blk_cell K4_d1.out 0).trans rfl
    have c4_d1_1 : w5.cell? ⟨w3.heap.size, 1, none⟩ = some (.int .i64 x) := (blk_cell K4_d1.out 1).trans rfl
    have c4_d1_2 : w5.cell? ⟨w3.heap.size, 2, none⟩ = some (.int .i64 0) := (blk_cell K4_d1.out 2).trans rfl
    have c4_d1_3 : w5.cell? ⟨w3.heap.size, 3, none⟩ = some (.int .i64 0) := (blk_cell K4_d1.out 3).trans rfl
    have c4_d1_4 : w5.cell? ⟨w3.heap.size, 4, none⟩ = some (.int .i64 0) := (blk_cell K4_d1.out 4).trans rfl
    have l4_o1 := blk_lt K4_o1.out
    have q4_o1_21 : w3.heap.size + 1 ≤ w5.heap.size := by omega
    have q4_o1_22 : w3.heap.size + 1 ≤ w5.heap.size + 1 := by omega
    have q4_o1_23 : w3.heap.size + 1 < w5.heap.size + 1 := by omega
    have q4_o1_24 : w3.heap.size < w5.heap.size := by omega
    have q4_o1_25 : w3.heap.size ≤ w5.heap.size := by omega
    have q4_o1_26 : w3.heap.size ≤ w5.heap.size + 1 := by omega
    have q4_o1_27 : w3.heap.size < w5.heap.size + 1 := by omega
    have c4_o1_0 : w5.cell? ⟨w3.heap.size + 1, 0, none⟩ = some (.int .i64 0) := (blk_cell K4_o1.out 0).trans rfl
    have c4_o1_1 : w5.cell? ⟨w3.heap.size + 1, 1, none⟩ = some (.int .i64 (-1)) := (blk_cell K4_o1.out 1).trans rfl
    have c4_o1_2 : w5.cell? ⟨w3.heap.size + 1, 2, none⟩ = some (.bool false) := (blk_cell K4_o1.out 2).trans rfl
    have c4_o1_3 : w5.cell? ⟨w3.heap.size + 1, 3, none⟩ = some (.bool false) := (blk_cell K4_o1.out 3).trans rfl
    have c4_o1_4 : w5.cell? ⟨w3.heap.size + 1, 4, none⟩ = some (.int .i64 0) := (blk_cell K4_o1.out 4).trans rfl
    have l4_d2 := blk_lt K4_d2.out
    have q4_d2_29 : w4.heap.size ≤ w5.heap.size := by omega
    have q4_d2_30 : w4.heap.size ≤ w5.heap.size + 1 := by omega
    have q4_d2_31 : w4.heap.size < w5.heap.size + 1 := by omega
    have c4_d2_0 : w5.cell? ⟨w4.heap.size, 0, none⟩ = some (.int .i64 1) := (blk_cell K4_d2.out 0).trans rfl
    have c4_d2_1 : w5.cell? ⟨w4.heap.size, 1, none⟩ = some (.int .i64 x) := (blk_cell K4_d2.out 1).trans rfl
    have c4_d2_2 : w5.cell? ⟨w4.heap.size, 2, none⟩ = some (.int .i64 0) := (blk_cell K4_d2.out 2).trans rfl
    have c4_d2_3 : w5.cell? ⟨w4.heap.size, 3, none⟩ = some (.int .i64 now) := (blk_cell K4_d2.out 3).trans rfl
    have c4_d2_4 : w5.cell? ⟨w4.heap.size, 4, none⟩ = some (.int .i64 0) := (blk_cell K4_d2.out 4).trans rfl
    have l4_o2 := blk_lt K4_o2.out
    have q4_o2_33 : w4.heap.size + 1 ≤ w5.heap.size := by omega
    have q4_o2_34 : w4.heap.size + 1 ≤ w5.heap.size + 1 := by omega
    have q4_o2_35 : w4.heap.size + 1 < w5.heap.size + 1 := by omega
    have q4_o2_36 : w4.heap.size < w5.heap.size := by omega
    have q4_o2_37 : w4.heap.size ≤ w5.heap.size := by omega
    have q4_o2_38 : w4.heap.size ≤ w5.heap.size + 1 := by omega
    have q4_o2_39 : w4.heap.size < w5.heap.size + 1 := by omega
    have c4_o2_0 : w5.cell? ⟨w4.heap.size + 1, 0, none⟩ = some (.int .i64 0) := (blk_cell K4_o2.out 0).trans rfl
    have c4_o2_1 : w5.cell? ⟨w4.heap.size + 1, 1, none⟩ = some (.int .i64 (-1)) := (blk_cell K4_o2.out 1).trans rfl
    have c4_o2_2 : w5.cell? ⟨w4.heap.size + 1, 2, none⟩ = some (.bool false) := (blk_cell K4_o2.out 2).trans rfl
    have c4_o2_3 : w5.cell? ⟨w4.heap.size + 1, 3, none⟩ = some (.bool true) := (blk_cell K4_o2.out 3).trans rfl
    have c4_o2_4 : w5.cell? ⟨w4.heap.size + 1, 4, none⟩ = some (.int .i64 now) := (blk_cell K4_o2.out 4).trans rfl
    obtain ⟨A3, k3, rfl, hk3, hC3⟩ := Kd.R_reads hr2
    have HC3 := Lib.hid hC3
    have HK3 := Lib.hid hk3
    have HC0' := Lib.hid (Kd.C_below (Kd.C_below HC0.out (balloc (balloc (balloc (Below.refl _ _) _) _) _)) hb2)
    clear HC0
    have HC0 := HC0'
    clear HC0'
    have HC1' := Lib.hid (Kd.C_below (Kd.C_below HC1.out (balloc (balloc (balloc (Below.refl _ _) _) _) _)) hb2)
    clear HC1
    have HC1 := HC1'
    clear HC1'
    have HC2' := Lib.hid (Kd.C_below (Kd.C_below HC2.out (balloc (balloc (balloc (Below.refl _ _) _) _) _)) hb2)
    clear HC2
    have HC2 := HC2'
    clear HC2'
    clear hl hr2 hb2 hrl3 hC3 hk3 l3_c q3_c_1 q3_c_2 q3_c_3 l3_d0 q3_d0_5 q3_d0_6 q3_d0_7 l3_o0 q3_o0_9 q3_o0_10 q3_o0_11 q3_o0_12 q3_o0_13 q3_o0_14 q3_o0_15 l3_d1 q3_d1_17 q3_d1_18 q3_d1_19 l3_o1 q3_o1_21 q3_o1_22 q3_o1_23 q3_o1_24 q3_o1_25 q3_o1_26 q3_o1_27 c3_c_0 c3_c_1 c3_c_2 c3_c_3 c3_c_4 c3_d0_0 c3_d0_1 c3_d0_2 c3_d0_3 c3_d0_4 c3_o0_0 c3_o0_1 c3_o0_2 c3_o0_3 c3_o0_4 c3_d1_0 c3_d1_1 c3_d1_2 c3_d1_3 c3_d1_4 c3_o1_0 c3_o1_1 c3_o1_2 c3_o1_3 c3_o1_4
    go_wp2_with fail
    have hE := (balloc (balloc (Below.refl w5.heap.size w5) (.cells #[.int .i64 1, .int .i64 x, .int .i64 0, .int .i64 0, .int .i64 0] 29)) (.cells #[.int .i64 0, .int .i64 n, .bool false, .bool false, .int .i64 0] 34))
    have HE := Lib.hid hE
    have HF := Lib.hid (balloc (balloc B4_.out (.cells #[.int .i64 1, .int .i64 x, .int .i64 0, .int .i64 0, .int .i64 0] 29)) (.cells #[.int .i64 0, .int .i64 n, .bool false, .bool false, .int .i64 0] 34))
    clear hE
    refine (HSAME.out A0 k0 _ (Kd.C_below HC0.out HE.out) HK0.out (Kd.C_below HR.out HF.out)).mono ?_
    rintro e v0 ⟨rfl, n0, rfl⟩
    go_wp2_with fail
    refine (HSAME.out A1 k1 _ (Kd.C_below HC1.out (bdrewN HE.out _)) HK1.out (Kd.C_below HR.out (bdrewN HF.out _))).mono ?_
    rintro e v1 ⟨rfl, n1, rfl⟩
    go_wp2_with fail
    refine (HSAME.out A2 k2 _ (Kd.C_below HC2.out (bdrewN HE.out _)) HK2.out (Kd.C_below HR.out (bdrewN HF.out _))).mono ?_
    rintro e v2 ⟨rfl, n2, rfl⟩
    go_wp2_with fail
    refine (HSAME.out A3 k3 _ (Kd.C_below HC3.out (bdrewN HE.out _)) HK3.out (Kd.C_below HR.out (bdrewN HF.out _))).mono ?_
    rintro e v3 ⟨rfl, n3, rfl⟩
    by_cases hx : x = 0
    · have hx1 : (x == 0) = true := by simp [hx]
      have hpz := HPZ.out
      rw [if_pos hx] at hpz
      subst hpz
      clear hx HPZ
      go_wp2_with fail
      go_ret
      exact ⟨rfl, bdrewN HF.out _⟩
    · have hx1 : (x == 0) = false := by simp [hx]
      have hpz := HPZ.out
      rw [if_neg hx] at hpz
      subst hpz
      clear hx HPZ
      go_wp2_with fail
      go_ret
      exact ⟨rfl, bdrewN HF.out _⟩
  · by_cases h_d1 : a < 0
    · have d1 : decide (a < 0) = true := decide_eq_true h_d1
      clear h_d1
      clear hin HR HCM
      go_enter Tryd.func9, Tryd.ntmps9
      go_wp2_with fail
      refine HA.out.mono ?_
      rintro e w1 ⟨rfl, hb⟩
      have HB1 := Lib.hid hb
      clear hb
      go_wp2_with fail
      go_ret
      exact ⟨rfl, HB1.out⟩
    ·
      by_cases h_d2 : 63 < a
      · have d1 : decide (a < 0) = false := decide_eq_false h_d1
        have d2 : decide (63 < a) = true := decide_eq_true h_d2
        clear h_d1 h_d2
        clear hin HR HCM
        go_enter Tryd.func9, Tryd.ntmps9
        go_wp2_with fail
        refine HA.out.mono ?_
        rintro e w1 ⟨rfl, hb⟩
        have HB1 := Lib.hid hb
        clear hb
        go_wp2_with fail
        go_ret
        exact ⟨rfl, HB1.out⟩
      ·
        by_cases h_d3 : n < 0
        · have d1 : decide (a < 0) = false := decide_eq_false h_d1
          have d2 : decide (63 < a) = false := decide_eq_false h_d2
          have d3 : decide (n < 0) = true := decide_eq_true h_d3
          clear h_d1 h_d2 h_d3
          clear hin HR HCM
          go_enter Tryd.func9, Tryd.ntmps9
          go_wp2_with fail
          refine HA.out.mono ?_
          rintro e w1 ⟨rfl, hb⟩
          have HB1 := Lib.hid hb
          clear hb
          go_wp2_with fail
          go_ret
          exact ⟨rfl, HB1.out⟩
        ·
          by_cases h_d4 : 26 ≤ n
          · have d1 : decide (a < 0) = false := decide_eq_false h_d1
            have d2 : decide (63 < a) = false := decide_eq_false h_d2
            have d3 : decide (n < 0) = false := decide_eq_false h_d3
            have d4 : decide (26 ≤ n) = true := decide_eq_true h_d4
            clear h_d1 h_d2 h_d3 h_d4
            clear hin HR HCM
            go_enter Tryd.func9, Tryd.ntmps9
            go_wp2_with fail
            refine HA.out.mono ?_
            rintro e w1 ⟨rfl, hb⟩
            have HB1 := Lib.hid hb
            clear hb
            go_wp2_with fail
            go_ret
            exact ⟨rfl, HB1.out⟩
          ·
            have d1 : decide (a < 0) = false := decide_eq_false h_d1
            have d2 : decide (63 < a) = false := decide_eq_false h_d2
            have d3 : decide (n < 0) = false := decide_eq_false h_d3
            have d4 : decide (26 ≤ n) = false := decide_eq_false h_d4
            have d5 : decide (64 < (m.length : Int)) = true := decide_eq_true (by omega)
            have d6 : decide (64 < m.length) = true := decide_eq_true (by omega)
            clear h_d1 h_d2 h_d3 h_d4
            clear hin HR HCM
            go_enter Tryd.func9, Tryd.ntmps9
            go_wp2_with fail
            refine HA.out.mono ?_
            rintro e w1 ⟨rfl, hb⟩
            have HB1 := Lib.hid hb
            clear hb
            go_wp2_with fail
            go_ret
            exact ⟨rfl, HB1.out⟩
end Go.Proofs.YtlphgnfjemaliaaDoor.CpuJ

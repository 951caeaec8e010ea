/-
  The law function PortsTwice, walked: it answers true. Conditions: the messages lie in memory as told.
-/
import Derived.Test.YtfeifmjihdfadaaPortA
namespace Go.Proofs.Ytfeifmjihdfadaa.PortT
set_option maxRecDepth 100000
set_option linter.unusedVariables false
set_option linter.unusedSimpArgs false
open Go.RowKit Go.Proofs.YtfeifmjihdfadaaW.PrintWords Go.Proofs.YtfeifmjihdfadaaW.PrintMore Go.Proofs.Ytfeifmjihdfadaa.Port

theorem mov_again (m m' : List Int) (d : Int) : movN (m.drop (movN m m' d)) (m' ++ m.take (movN m m' d)) d = 0 := by
  unfold movN
  simp only [List.length_drop, List.length_append, List.length_take]
  omega
theorem mov_sum (m m' : List Int) (d : Int) : (m.drop (movN m m' d)).length + (m' ++ m.take (movN m m' d)).length = m.length + m'.length := by
  have : movN m m' d ≤ m.length := by unfold movN; omega
  simp only [List.length_drop, List.length_append, List.length_take]
  omega
theorem mov_end (m m' : List Int) (d : Int) (h : (m.drop (movN m m' d)).length ≠ 0) : d ≤ ((m' ++ m.take (movN m m' d)).length : Int) := by
  unfold movN at h ⊢
  simp only [List.length_drop, List.length_append, List.length_take] at h ⊢
  omega
theorem mov_le (m m' : List Int) (d : Int) (h : m.length ≤ 60) (h' : m'.length ≤ 60) : (m.drop (movN m m' d)).length ≤ 120 ∧ (m' ++ m.take (movN m m' d)).length ≤ 120 := by
  have := mov_sum m m' d
  omega

set_option maxHeartbeats 4000000 in
theorem twice_any (d lost d' lost' : Int) (A A' : Option Addr) (c c' : Nat) (m m' : List Int) (w : World) (hr : (Kd.int .i64).C w A m.length m) (hc : m.length ≤ c) (hn : A = none → c = 0)
    (hr' : (Kd.int .i64).C w A' m'.length m') (hc' : m'.length ≤ c') (hn' : A' = none → c' = 0) :
    Calls Try.prog 3 #[.agg #[.int .i64 d, .slice A m.length c, .int .i64 lost], .agg #[.int .i64 d', .slice A' m'.length c', .int .i64 lost']] w fun e w' => e = .returned (.bool true) ∧ Below w.heap.size w w' := by
  have HR := Lib.hid hr
  have HR' := Lib.hid hr'
  have HN := Lib.hid hn
  have HN' := Lib.hid hn'
  have HC := Lib.hid hc
  have HC' := Lib.hid hc'
  clear hr hr' hn hn' hc hc'
  go_enter Try.func3, Try.ntmps3
  go_wp2_with fail
  refine (awake_any _).mono ?_
  rintro e w0 ⟨rfl, hb⟩
  have K0_a := Lib.hid (blk_below (two_blk w (.cells #[.int .i64 d, .slice A m.length c, .int .i64 lost] 24) (.cells #[.int .i64 d', .slice A' m'.length c', .int .i64 lost'] 24)).1 hb)
  have K0_b := Lib.hid (blk_below (two_blk w (.cells #[.int .i64 d, .slice A m.length c, .int .i64 lost] 24) (.cells #[.int .i64 d', .slice A' m'.length c', .int .i64 lost'] 24)).2 hb)
  have B0 := Lib.hid (btrans (balloc (balloc (Below.refl w.heap.size w) (.cells #[.int .i64 d, .slice A m.length c, .int .i64 lost] 24)) (.cells #[.int .i64 d', .slice A' m'.length c', .int .i64 lost'] 24)) hb)
  clear hb
  obtain ⟨p0_a0, p1_a0, p2_a0, z0_a0, z1_a0, z2_a0, l_a0⟩ := qf K0_a.out
  obtain ⟨p0_b0, p1_b0, p2_b0, z0_b0, z1_b0, z2_b0, l_b0⟩ := qf K0_b.out
  by_cases hin : m.length ≤ 60 ∧ m'.length ≤ 60
  · obtain ⟨i0, i1⟩ := hin
    have HI0 := Lib.hid i0
    have HI1 := Lib.hid i1
    have j0 : (m.length : Int) ≤ 60 := by omega
    have j1 : (m'.length : Int) ≤ 60 := by omega
    have hM := fun W h h' => move_any d lost d' lost' A A' c c' m m' W h HC.out HN.out (by omega) h' HC'.out HN'.out (by omega)
    obtain ⟨L, hL⟩ : ∃ L, L = m.drop (movN m m' d') := ⟨_, rfl⟩
    obtain ⟨T, hT⟩ : ∃ T, T = m' ++ m.take (movN m m' d') := ⟨_, rfl⟩
    simp only [← hL, ← hT] at hM
    have h1 := mov_again m m' d'
    have h2 := mov_sum m m' d'
    have h3 := mov_end m m' d'
    have h4 := mov_le m m' d' i0 i1
    rw [← hL, ← hT] at h1 h2 h3 h4
    have hM2 := fun v v' k k' W h hc hn h' hc' hn' => move_any d lost d' lost' v v' k k' L T W h hc hn (by omega) h' hc' hn' (by omega)
    rw [h1] at hM2
    simp only [List.drop_zero, List.take_zero, List.append_nil] at hM2
    have HM := Lib.hid hM
    have HM2 := Lib.hid hM2
    have H2 := Lib.hid h2
    have H3 := Lib.hid h3
    have H4 := Lib.hid h4
    clear hM hM2 h1 h2 h3 h4 hL hT i0 i1
    go_wp2_with fail
    refine (HM.out _ (Kd.C_below HR.out B0.out) (Kd.C_below HR'.out B0.out)).mono ?_
    rintro e w1 ⟨v, v', rfl, r1_0, r1_1, hb⟩
    have T1_0 := Lib.hid (Rd.lt r1_0)
    have q0 := r1_0
    obtain ⟨A1_0, c1_0, rfl, g0, g1, g2, g3⟩ := q0
    have C1_0 : Hid (L.length ≤ c1_0 ∧ (A1_0 = none → c1_0 = 0)) := Lib.hid ⟨g0, g1⟩
    clear g0 g1 g2 g3
    have T1_1 := Lib.hid (Rd.lt r1_1)
    have q1 := r1_1
    obtain ⟨A1_1, c1_1, rfl, g0, g1, g2, g3⟩ := q1
    have C1_1 : Hid (T.length ≤ c1_1 ∧ (A1_1 = none → c1_1 = 0)) := Lib.hid ⟨g0, g1⟩
    clear g0 g1 g2 g3
    have K1_a := Lib.hid (blk_alloc (blk_alloc (blk_below K0_a.out hb) (.cells #[.int .i64 d, .slice A1_0 L.length c1_0, .int .i64 lost] 24)) (.cells #[.int .i64 d', .slice A1_1 T.length c1_1, .int .i64 lost'] 24))
    have K1_b := Lib.hid (blk_alloc (blk_alloc (blk_below K0_b.out hb) (.cells #[.int .i64 d, .slice A1_0 L.length c1_0, .int .i64 lost] 24)) (.cells #[.int .i64 d', .slice A1_1 T.length c1_1, .int .i64 lost'] 24))
    have K1_x := Lib.hid (two_blk w1 (.cells #[.int .i64 d, .slice A1_0 L.length c1_0, .int .i64 lost] 24) (.cells #[.int .i64 d', .slice A1_1 T.length c1_1, .int .i64 lost'] 24)).1
    have K1_y := Lib.hid (two_blk w1 (.cells #[.int .i64 d, .slice A1_0 L.length c1_0, .int .i64 lost] 24) (.cells #[.int .i64 d', .slice A1_1 T.length c1_1, .int .i64 lost'] 24)).2
    have R1_x := Lib.hid (r1_0.below (balloc (balloc (Below.refl w1.heap.size w1) (.cells #[.int .i64 d, .slice A1_0 L.length c1_0, .int .i64 lost] 24)) (.cells #[.int .i64 d', .slice A1_1 T.length c1_1, .int .i64 lost'] 24)))
    have R1_y := Lib.hid (r1_1.below (balloc (balloc (Below.refl w1.heap.size w1) (.cells #[.int .i64 d, .slice A1_0 L.length c1_0, .int .i64 lost] 24)) (.cells #[.int .i64 d', .slice A1_1 T.length c1_1, .int .i64 lost'] 24)))
    have S1 := Lib.hid hb.size
    have B1 := Lib.hid (balloc (balloc (btrans B0.out hb) (.cells #[.int .i64 d, .slice A1_0 L.length c1_0, .int .i64 lost] 24)) (.cells #[.int .i64 d', .slice A1_1 T.length c1_1, .int .i64 lost'] 24))
    clear hb r1_0 r1_1
    clear p0_a0 p1_a0 p2_a0 z0_a0 z1_a0 z2_a0 l_a0 p0_b0 p1_b0 p2_b0 z0_b0 z1_b0 z2_b0 l_b0
    go_upto_region 5 with fail
    generalize World.alloc (World.alloc w1 (.cells #[.int .i64 d, .slice A1_0 L.length c1_0, .int .i64 lost] 24)) (.cells #[.int .i64 d', .slice A1_1 T.length c1_1, .int .i64 lost'] 24) = W1 at *
    obtain ⟨p0_a1, p1_a1, p2_a1, z0_a1, z1_a1, z2_a1, l_a1⟩ := qf K1_a.out
    obtain ⟨p0_b1, p1_b1, p2_b1, z0_b1, z1_b1, z2_b1, l_b1⟩ := qf K1_b.out
    obtain ⟨p0_x1, p1_x1, p2_x1, z0_x1, z1_x1, z2_x1, l_x1⟩ := qf K1_x.out
    obtain ⟨p0_y1, p1_y1, p2_y1, z0_y1, z1_y1, z2_y1, l_y1⟩ := qf K1_y.out
    go_wp2_with fail
    refine (HM2.out _ _ _ _ _ (Rd.C R1_x.out) C1_0.out.1 C1_0.out.2 (Rd.C R1_y.out) C1_1.out.1 C1_1.out.2).mono ?_
    rintro e w2 ⟨v, v', rfl, r2_0, r2_1, hb⟩
    have T2_0 := Lib.hid (Rd.lt r2_0)
    have q0 := r2_0
    obtain ⟨A2_0, c2_0, rfl, g0, g1, g2, g3⟩ := q0
    have C2_0 : Hid (L.length ≤ c2_0 ∧ (A2_0 = none → c2_0 = 0)) := Lib.hid ⟨g0, g1⟩
    clear g0 g1 g2 g3
    have T2_1 := Lib.hid (Rd.lt r2_1)
    have q1 := r2_1
    obtain ⟨A2_1, c2_1, rfl, g0, g1, g2, g3⟩ := q1
    have C2_1 : Hid (T.length ≤ c2_1 ∧ (A2_1 = none → c2_1 = 0)) := Lib.hid ⟨g0, g1⟩
    clear g0 g1 g2 g3
    have K2_a := Lib.hid (blk_alloc (blk_alloc (blk_below K1_a.out hb) (.cells #[.int .i64 d, .slice A2_0 L.length c2_0, .int .i64 lost] 24)) (.cells #[.int .i64 d', .slice A2_1 T.length c2_1, .int .i64 lost'] 24))
    have K2_b := Lib.hid (blk_alloc (blk_alloc (blk_below K1_b.out hb) (.cells #[.int .i64 d, .slice A2_0 L.length c2_0, .int .i64 lost] 24)) (.cells #[.int .i64 d', .slice A2_1 T.length c2_1, .int .i64 lost'] 24))
    have K2_x := Lib.hid (blk_alloc (blk_alloc (blk_below K1_x.out hb) (.cells #[.int .i64 d, .slice A2_0 L.length c2_0, .int .i64 lost] 24)) (.cells #[.int .i64 d', .slice A2_1 T.length c2_1, .int .i64 lost'] 24))
    have K2_y := Lib.hid (blk_alloc (blk_alloc (blk_below K1_y.out hb) (.cells #[.int .i64 d, .slice A2_0 L.length c2_0, .int .i64 lost] 24)) (.cells #[.int .i64 d', .slice A2_1 T.length c2_1, .int .i64 lost'] 24))
    have K2_z := Lib.hid (two_blk w2 (.cells #[.int .i64 d, .slice A2_0 L.length c2_0, .int .i64 lost] 24) (.cells #[.int .i64 d', .slice A2_1 T.length c2_1, .int .i64 lost'] 24)).1
    have K2_w := Lib.hid (two_blk w2 (.cells #[.int .i64 d, .slice A2_0 L.length c2_0, .int .i64 lost] 24) (.cells #[.int .i64 d', .slice A2_1 T.length c2_1, .int .i64 lost'] 24)).2
    have R2_x := Lib.hid ((R1_x.out.below hb).below (balloc (balloc (Below.refl w2.heap.size w2) (.cells #[.int .i64 d, .slice A2_0 L.length c2_0, .int .i64 lost] 24)) (.cells #[.int .i64 d', .slice A2_1 T.length c2_1, .int .i64 lost'] 24)))
    have R2_y := Lib.hid ((R1_y.out.below hb).below (balloc (balloc (Below.refl w2.heap.size w2) (.cells #[.int .i64 d, .slice A2_0 L.length c2_0, .int .i64 lost] 24)) (.cells #[.int .i64 d', .slice A2_1 T.length c2_1, .int .i64 lost'] 24)))
    have R2_z := Lib.hid (r2_0.below (balloc (balloc (Below.refl w2.heap.size w2) (.cells #[.int .i64 d, .slice A2_0 L.length c2_0, .int .i64 lost] 24)) (.cells #[.int .i64 d', .slice A2_1 T.length c2_1, .int .i64 lost'] 24)))
    have R2_w := Lib.hid (r2_1.below (balloc (balloc (Below.refl w2.heap.size w2) (.cells #[.int .i64 d, .slice A2_0 L.length c2_0, .int .i64 lost] 24)) (.cells #[.int .i64 d', .slice A2_1 T.length c2_1, .int .i64 lost'] 24)))
    have S2 := Lib.hid hb.size
    have B2 := Lib.hid (balloc (balloc (btrans B1.out hb) (.cells #[.int .i64 d, .slice A2_0 L.length c2_0, .int .i64 lost] 24)) (.cells #[.int .i64 d', .slice A2_1 T.length c2_1, .int .i64 lost'] 24))
    clear hb r2_0 r2_1
    clear p0_a1 p1_a1 p2_a1 z0_a1 z1_a1 z2_a1 l_a1 p0_b1 p1_b1 p2_b1 z0_b1 z1_b1 z2_b1 l_b1 p0_x1 p1_x1 p2_x1 z0_x1 z1_x1 z2_x1 l_x1 p0_y1 p1_y1 p2_y1 z0_y1 z1_y1 z2_y1 l_y1
    go_upto_region 6 with fail
    generalize World.alloc (World.alloc w2 (.cells #[.int .i64 d, .slice A2_0 L.length c2_0, .int .i64 lost] 24)) (.cells #[.int .i64 d', .slice A2_1 T.length c2_1, .int .i64 lost'] 24) = W2 at *
    obtain ⟨p0_a2, p1_a2, p2_a2, z0_a2, z1_a2, z2_a2, l_a2⟩ := qf K2_a.out
    obtain ⟨p0_b2, p1_b2, p2_b2, z0_b2, z1_b2, z2_b2, l_b2⟩ := qf K2_b.out
    obtain ⟨p0_x2, p1_x2, p2_x2, z0_x2, z1_x2, z2_x2, l_x2⟩ := qf K2_x.out
    obtain ⟨p0_y2, p1_y2, p2_y2, z0_y2, z1_y2, z2_y2, l_y2⟩ := qf K2_y.out
    obtain ⟨p0_z2, p1_z2, p2_z2, z0_z2, z1_z2, z2_z2, l_z2⟩ := qf K2_z.out
    obtain ⟨p0_w2, p1_w2, p2_w2, z0_w2, z1_w2, z2_w2, l_w2⟩ := qf K2_w.out
    go_wp2_with fail
    refine (same18_any d lost _ _ _ _ L _ (Rd.C R2_x.out) (Rd.C R2_z.out) (by have := H4.out; omega)).mono ?_
    rintro e w3 ⟨rfl, hb⟩
    have K3_a := Lib.hid (blk_below K2_a.out hb)
    have K3_b := Lib.hid (blk_below K2_b.out hb)
    have K3_x := Lib.hid (blk_below K2_x.out hb)
    have K3_y := Lib.hid (blk_below K2_y.out hb)
    have K3_z := Lib.hid (blk_below K2_z.out hb)
    have K3_w := Lib.hid (blk_below K2_w.out hb)
    have R3_x := Lib.hid (R2_x.out.below hb)
    have R3_y := Lib.hid (R2_y.out.below hb)
    have R3_z := Lib.hid (R2_z.out.below hb)
    have R3_w := Lib.hid (R2_w.out.below hb)
    have S3 := Lib.hid hb.size
    have B3 := Lib.hid (btrans B2.out hb)
    clear hb 
    clear p0_a2 p1_a2 p2_a2 z0_a2 z1_a2 z2_a2 l_a2 p0_b2 p1_b2 p2_b2 z0_b2 z1_b2 z2_b2 l_b2 p0_x2 p1_x2 p2_x2 z0_x2 z1_x2 z2_x2 l_x2 p0_y2 p1_y2 p2_y2 z0_y2 z1_y2 z2_y2 l_y2 p0_z2 p1_z2 p2_z2 z0_z2 z1_z2 z2_z2 l_z2 p0_w2 p1_w2 p2_w2 z0_w2 z1_w2 z2_w2 l_w2
    go_upto_region 7 with fail
    obtain ⟨p0_a3, p1_a3, p2_a3, z0_a3, z1_a3, z2_a3, l_a3⟩ := qf K3_a.out
    obtain ⟨p0_b3, p1_b3, p2_b3, z0_b3, z1_b3, z2_b3, l_b3⟩ := qf K3_b.out
    obtain ⟨p0_x3, p1_x3, p2_x3, z0_x3, z1_x3, z2_x3, l_x3⟩ := qf K3_x.out
    obtain ⟨p0_y3, p1_y3, p2_y3, z0_y3, z1_y3, z2_y3, l_y3⟩ := qf K3_y.out
    obtain ⟨p0_z3, p1_z3, p2_z3, z0_z3, z1_z3, z2_z3, l_z3⟩ := qf K3_z.out
    obtain ⟨p0_w3, p1_w3, p2_w3, z0_w3, z1_w3, z2_w3, l_w3⟩ := qf K3_w.out
    go_wp2_with fail
    refine (same18_any d' lost' _ _ _ _ T _ (Rd.C R3_y.out) (Rd.C R3_w.out) (by have := H4.out; omega)).mono ?_
    rintro e w4 ⟨rfl, hb⟩
    have K4_a := Lib.hid (blk_below K3_a.out hb)
    have K4_b := Lib.hid (blk_below K3_b.out hb)
    have K4_x := Lib.hid (blk_below K3_x.out hb)
    have K4_y := Lib.hid (blk_below K3_y.out hb)
    have K4_z := Lib.hid (blk_below K3_z.out hb)
    have K4_w := Lib.hid (blk_below K3_w.out hb)
    have R4_x := Lib.hid (R3_x.out.below hb)
    have R4_y := Lib.hid (R3_y.out.below hb)
    have R4_z := Lib.hid (R3_z.out.below hb)
    have R4_w := Lib.hid (R3_w.out.below hb)
    have S4 := Lib.hid hb.size
    have B4 := Lib.hid (btrans B3.out hb)
    clear hb 
    clear p0_a3 p1_a3 p2_a3 z0_a3 z1_a3 z2_a3 l_a3 p0_b3 p1_b3 p2_b3 z0_b3 z1_b3 z2_b3 l_b3 p0_x3 p1_x3 p2_x3 z0_x3 z1_x3 z2_x3 l_x3 p0_y3 p1_y3 p2_y3 z0_y3 z1_y3 z2_y3 l_y3 p0_z3 p1_z3 p2_z3 z0_z3 z1_z3 z2_z3 l_z3 p0_w3 p1_w3 p2_w3 z0_w3 z1_w3 z2_w3 l_w3
    go_upto_region 8 with fail
    obtain ⟨p0_a4, p1_a4, p2_a4, z0_a4, z1_a4, z2_a4, l_a4⟩ := qf K4_a.out
    obtain ⟨p0_b4, p1_b4, p2_b4, z0_b4, z1_b4, z2_b4, l_b4⟩ := qf K4_b.out
    obtain ⟨p0_x4, p1_x4, p2_x4, z0_x4, z1_x4, z2_x4, l_x4⟩ := qf K4_x.out
    obtain ⟨p0_y4, p1_y4, p2_y4, z0_y4, z1_y4, z2_y4, l_y4⟩ := qf K4_y.out
    obtain ⟨p0_z4, p1_z4, p2_z4, z0_z4, z1_z4, z2_z4, l_z4⟩ := qf K4_z.out
    obtain ⟨p0_w4, p1_w4, p2_w4, z0_w4, z1_w4, z2_w4, l_w4⟩ := qf K4_w.out
    have h2 := H2.out
    have h4 := H4.out
    have e0 : ((L.length : Int) + (T.length : Int) == (m.length : Int) + (m'.length : Int)) = true := by rw [beq_iff_eq]; omega
    by_cases hz : L.length = 0
    · have e1 : ((L.length : Int) == 0) = true := by rw [beq_iff_eq]; omega
      go_wp2_with fail
      go_ret
      exact ⟨rfl, B4.out⟩
    · have e1 : ((L.length : Int) == 0) = false := by rw [beq_eq_false_iff_ne]; omega
      have e2 := H3.out hz
      go_wp2_with fail
      go_ret
      exact ⟨rfl, B4.out⟩
  · by_cases h0 : m.length ≤ 60
    · have j0 : (m.length : Int) ≤ 60 := by omega
      have j1 : (60 : Int) < (m'.length : Int) := by omega
      go_wp2_with fail
      go_ret
      exact ⟨rfl, B0.out⟩
    · have j0 : (60 : Int) < (m.length : Int) := by omega
      go_wp2_with fail
      go_ret
      exact ⟨rfl, B0.out⟩
end Go.Proofs.Ytfeifmjihdfadaa.PortT

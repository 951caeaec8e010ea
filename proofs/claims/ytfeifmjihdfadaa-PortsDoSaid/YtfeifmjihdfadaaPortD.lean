/-
  The law function PortsDo, walked: it answers true. Conditions: the messages lie in memory as told.
-/
import Derived.Test.YtfeifmjihdfadaaPortE
namespace Go.Proofs.Ytfeifmjihdfadaa.PortD
set_option maxRecDepth 100000
set_option linter.unusedVariables false
set_option linter.unusedSimpArgs false
open Go.RowKit Go.Proofs.YtfeifmjihdfadaaW.PrintWords Go.Proofs.YtfeifmjihdfadaaW.PrintMore Go.Proofs.Ytfeifmjihdfadaa.Port

/-- What is read, whosever block it is. -/
def Rw (w : World) (v : Value) (l : List Int) : Prop := ∃ A c, v = .slice A l.length c ∧ (Kd.int .i64).C w A l.length l
theorem Rw.below {w w1 : World} {v : Value} {l : List Int} (h : Rw w v l) (hb : Below w.heap.size w w1) : Rw w1 v l := by
  obtain ⟨A, c, h1, h2⟩ := h
  exact ⟨A, c, h1, Kd.C_below h2 hb⟩
theorem Rw.C {w : World} {A : Option Addr} {c : Nat} {l : List Int} (h : Rw w (.slice A l.length c) l) : (Kd.int .i64).C w A l.length l := by
  obtain ⟨A1, c1, he, h1⟩ := h
  injection he with he1 he2 he3
  subst he1
  exact h1
theorem reftake_any (d lost : Int) (A : Option Addr) (c : Nat) (m : List Int) (w : World) (hr : (Kd.int .i64).C w A m.length m) (hc : m.length ≤ c) (hl : m.length ≤ 100000) :
    Calls Try.prog 14 #[.agg #[.int .i64 d, .slice A m.length c, .int .i64 lost]] w fun e w' => ∃ v, e = .returned (.tuple #[.agg #[.int .i64 d, v, .int .i64 lost], .int .i64 (takeE m), .int .i64 (takeV m)]) ∧ Rw w' v (takeL m) ∧ Below w.heap.size w w' := by
  rcases m with _ | ⟨x, m⟩
  · refine (reftake_nil d lost A c w).mono ?_
    rintro e w1 ⟨rfl, hb⟩
    exact ⟨.slice A 0 c, rfl, ⟨A, c, rfl, Kd.C_below hr hb⟩, hb⟩
  · refine (reftake_cons d lost A c (x :: m) w hr hc (by simp) hl).mono ?_
    rintro e w1 ⟨v, rfl, ho, hb⟩
    refine ⟨v, rfl, ?_, hb⟩
    obtain ⟨A1, c1, rfl, _⟩ := ho.slice
    exact ⟨A1, c1, rfl, ho.C⟩
theorem refmove_any' (d lost d' lost' : Int) (A A' : Option Addr) (c c' : Nat) (m m' : List Int) (w : World) (hr : (Kd.int .i64).C w A m.length m) (hc : m.length ≤ c) (hl : m.length ≤ 1000)
    (hr' : (Kd.int .i64).C w A' m'.length m') (hl' : m'.length ≤ 1000) :
    Calls Try.prog 15 #[.agg #[.int .i64 d, .slice A m.length c, .int .i64 lost], .agg #[.int .i64 d', .slice A' m'.length c', .int .i64 lost']] w
      fun e w' => ∃ v v', e = .returned (.tuple #[.agg #[.int .i64 d, v, .int .i64 lost], .agg #[.int .i64 d', v', .int .i64 lost']]) ∧ Rw w' v (m.drop (movN m m' d')) ∧ Rw w' v' (m' ++ m.take (movN m m' d')) ∧ Below w.heap.size w w' := by
  refine (refmove_any d lost d' lost' A A' c c' m m' w hr hc hl hr' hl').mono ?_
  rintro e w1 ⟨A1, c1, v', rfl, h1, h2, hb⟩
  obtain ⟨A2, c2, rfl, _⟩ := h2.slice
  exact ⟨_, _, rfl, ⟨A1, c1, rfl, h1⟩, ⟨A2, c2, rfl, h2.C⟩, hb⟩
theorem mov_le (m m' : List Int) (d : Int) (h : m.length ≤ 60) (h' : m'.length ≤ 60) : (m.drop (movN m m' d)).length ≤ 120 ∧ (m' ++ m.take (movN m m' d)).length ≤ 120 := by
  have : movN m m' d ≤ m.length := by unfold movN; omega
  simp only [List.length_drop, List.length_append, List.length_take]
  omega

set_option maxHeartbeats 4000000 in
theorem do_any (d lost d' lost' : Int) (A A' : Option Addr) (c c' : Nat) (m m' : List Int) (x : Int) (w : World) (hr : (Kd.int .i64).C w A m.length m) (hc : m.length ≤ c) (hn : A = none → c = 0)
    (hr' : (Kd.int .i64).C w A' m'.length m') (hc' : m'.length ≤ c') (hn' : A' = none → c' = 0) :
    Calls Try.prog 5 #[.agg #[.int .i64 d, .slice A m.length c, .int .i64 lost], .agg #[.int .i64 d', .slice A' m'.length c', .int .i64 lost'], .int .i64 x] w fun e w' => e = .returned (.bool true) ∧ Below w.heap.size w w' := by
  have HR := Lib.hid hr
  have HR' := Lib.hid hr'
  have HN := Lib.hid hn
  have HN' := Lib.hid hn'
  have HC := Lib.hid hc
  have HC' := Lib.hid hc'
  clear hr hr' hn hn' hc hc'
  go_enter Try.func5, Try.ntmps5
  go_wp2_with fail
  refine (awake_any _).mono ?_
  rintro e w0 ⟨rfl, hb⟩
  have K0_a := Lib.hid (blk_below (two_blk w (.cells #[.int .i64 d, .slice A m.length c, .int .i64 lost] 24) (.cells #[.int .i64 d', .slice A' m'.length c', .int .i64 lost'] 24)).1 hb)
  have K0_b := Lib.hid (blk_below (two_blk w (.cells #[.int .i64 d, .slice A m.length c, .int .i64 lost] 24) (.cells #[.int .i64 d', .slice A' m'.length c', .int .i64 lost'] 24)).2 hb)
  have B0 := Lib.hid (btrans (balloc (balloc (Below.refl w.heap.size w) (.cells #[.int .i64 d, .slice A m.length c, .int .i64 lost] 24)) (.cells #[.int .i64 d', .slice A' m'.length c', .int .i64 lost'] 24)) hb)
  clear hb
  obtain ⟨p0_a0, p1_a0, p2_a0, z0_a0, z1_a0, z2_a0, l_a0⟩ := qf K0_a.out
  obtain ⟨p0_b0, p1_b0, p2_b0, z0_b0, z1_b0, z2_b0, l_b0⟩ := qf K0_b.out
  by_cases hin : m.length ≤ 60 ∧ m'.length ≤ 60
  · obtain ⟨i0, i1⟩ := hin
    have j0 : (m.length : Int) ≤ 60 := by omega
    have j1 : (m'.length : Int) ≤ 60 := by omega
    have hS := fun W h => send_any d lost x A c m W h HC.out HN.out (by omega)
    have hS2 := fun W h => refsend_any d lost x A c m W h (by omega)
    have hT := fun W h => take_any d lost A c m W h HC.out HN.out (by omega)
    have hT2 := fun W h => reftake_any d lost A c m W h HC.out (by omega)
    have hM := fun W h h' => move_any d lost d' lost' A A' c c' m m' W h HC.out HN.out (by omega) h' HC'.out HN'.out (by omega)
    have hM2 := fun W h h' => refmove_any' d lost d' lost' A A' c c' m m' W h HC.out (by omega) h' (by omega)
    have hl1 : (sendL d m x).length ≤ 1000 := by
      unfold sendL
      split
      · omega
      · simp only [List.length_append, List.length_singleton]; omega
    have hl2 : (takeL m).length ≤ 1000 := by unfold takeL; rw [List.length_drop]; omega
    have hl3 := mov_le m m' d' i0 i1
    generalize sendL d m x = LS at *
    generalize sendN d m lost = nS at *
    generalize sendE d m = eS at *
    generalize takeL m = LT at *
    generalize takeE m = eT at *
    generalize takeV m = vT at *
    generalize m.drop (movN m m' d') = LX at *
    generalize m' ++ m.take (movN m m' d') = LY at *
    have HS := Lib.hid hS
    have HS2 := Lib.hid hS2
    have HT := Lib.hid hT
    have HT2 := Lib.hid hT2
    have HM := Lib.hid hM
    have HM2 := Lib.hid hM2
    have HL : Hid (LS.length ≤ 1000 ∧ LT.length ≤ 1000 ∧ LX.length ≤ 120 ∧ LY.length ≤ 120) := Lib.hid ⟨hl1, hl2, hl3⟩
    clear hS hS2 hT hT2 hM hM2 hl1 hl2 hl3 i0 i1
    go_wp2_with fail
    refine (HS.out _ (Kd.C_below HR.out B0.out)).mono ?_
    rintro e w1 ⟨v, rfl, r1_0, hb⟩
    have r1_0 := r1_0.rd
    have T1_0 := Lib.hid (Rd.lt r1_0)
    have q0 := r1_0
    obtain ⟨A1_0, c1_0, rfl, g0, g1, g2, g3⟩ := q0
    have C1_0 : Hid (LS.length ≤ c1_0 ∧ (A1_0 = none → c1_0 = 0)) := Lib.hid ⟨g0, g1⟩
    clear g0 g1 g2 g3
    have K1_a := Lib.hid (blk_alloc (blk_below K0_a.out hb) (.cells #[.int .i64 d, .slice A1_0 LS.length c1_0, .int .i64 nS] 24))
    have K1_b := Lib.hid (blk_alloc (blk_below K0_b.out hb) (.cells #[.int .i64 d, .slice A1_0 LS.length c1_0, .int .i64 nS] 24))
    have K1_s := Lib.hid (blk_new w1 (.cells #[.int .i64 d, .slice A1_0 LS.length c1_0, .int .i64 nS] 24))
    have R1_s := Lib.hid (r1_0.below (balloc (Below.refl w1.heap.size w1) (.cells #[.int .i64 d, .slice A1_0 LS.length c1_0, .int .i64 nS] 24)))
    have S1 := Lib.hid hb.size
    have B1 := Lib.hid (balloc (btrans B0.out hb) (.cells #[.int .i64 d, .slice A1_0 LS.length c1_0, .int .i64 nS] 24))
    clear hb r1_0
    clear p0_a0 p1_a0 p2_a0 z0_a0 z1_a0 z2_a0 l_a0 p0_b0 p1_b0 p2_b0 z0_b0 z1_b0 z2_b0 l_b0
    go_upto_region 5 with fail
    generalize World.alloc w1 (.cells #[.int .i64 d, .slice A1_0 LS.length c1_0, .int .i64 nS] 24) = W1 at *
    obtain ⟨p0_a1, p1_a1, p2_a1, z0_a1, z1_a1, z2_a1, l_a1⟩ := qf K1_a.out
    obtain ⟨p0_b1, p1_b1, p2_b1, z0_b1, z1_b1, z2_b1, l_b1⟩ := qf K1_b.out
    obtain ⟨p0_s1, p1_s1, p2_s1, z0_s1, z1_s1, z2_s1, l_s1⟩ := qf K1_s.out
    go_wp2_with fail
    refine (HS2.out _ (Kd.C_below HR.out B1.out)).mono ?_
    rintro e w2 ⟨v, rfl, r2_0, hb⟩
    have r2_0 := r2_0.rd
    have T2_0 := Lib.hid (Rd.lt r2_0)
    have q0 := r2_0
    obtain ⟨A2_0, c2_0, rfl, g0, g1, g2, g3⟩ := q0
    have C2_0 : Hid (LS.length ≤ c2_0 ∧ (A2_0 = none → c2_0 = 0)) := Lib.hid ⟨g0, g1⟩
    clear g0 g1 g2 g3
    have K2_a := Lib.hid (blk_alloc (blk_below K1_a.out hb) (.cells #[.int .i64 d, .slice A2_0 LS.length c2_0, .int .i64 nS] 24))
    have K2_b := Lib.hid (blk_alloc (blk_below K1_b.out hb) (.cells #[.int .i64 d, .slice A2_0 LS.length c2_0, .int .i64 nS] 24))
    have K2_s := Lib.hid (blk_alloc (blk_below K1_s.out hb) (.cells #[.int .i64 d, .slice A2_0 LS.length c2_0, .int .i64 nS] 24))
    have K2_s2 := Lib.hid (blk_new w2 (.cells #[.int .i64 d, .slice A2_0 LS.length c2_0, .int .i64 nS] 24))
    have R2_s := Lib.hid ((R1_s.out.below hb).below (balloc (Below.refl w2.heap.size w2) (.cells #[.int .i64 d, .slice A2_0 LS.length c2_0, .int .i64 nS] 24)))
    have R2_s2 := Lib.hid (r2_0.below (balloc (Below.refl w2.heap.size w2) (.cells #[.int .i64 d, .slice A2_0 LS.length c2_0, .int .i64 nS] 24)))
    have S2 := Lib.hid hb.size
    have B2 := Lib.hid (balloc (btrans B1.out hb) (.cells #[.int .i64 d, .slice A2_0 LS.length c2_0, .int .i64 nS] 24))
    clear hb r2_0
    clear p0_a1 p1_a1 p2_a1 z0_a1 z1_a1 z2_a1 l_a1 p0_b1 p1_b1 p2_b1 z0_b1 z1_b1 z2_b1 l_b1 p0_s1 p1_s1 p2_s1 z0_s1 z1_s1 z2_s1 l_s1
    go_upto_region 6 with fail
    generalize World.alloc w2 (.cells #[.int .i64 d, .slice A2_0 LS.length c2_0, .int .i64 nS] 24) = W2 at *
    obtain ⟨p0_a2, p1_a2, p2_a2, z0_a2, z1_a2, z2_a2, l_a2⟩ := qf K2_a.out
    obtain ⟨p0_b2, p1_b2, p2_b2, z0_b2, z1_b2, z2_b2, l_b2⟩ := qf K2_b.out
    obtain ⟨p0_s2, p1_s2, p2_s2, z0_s2, z1_s2, z2_s2, l_s2⟩ := qf K2_s.out
    obtain ⟨p0_s22, p1_s22, p2_s22, z0_s22, z1_s22, z2_s22, l_s22⟩ := qf K2_s2.out
    go_wp2_with fail
    refine (HT.out _ (Kd.C_below HR.out B2.out)).mono ?_
    rintro e w3 ⟨v, rfl, r3_0, hb⟩
    have T3_0 := Lib.hid (Rd.lt r3_0)
    have q0 := r3_0
    obtain ⟨A3_0, c3_0, rfl, g0, g1, g2, g3⟩ := q0
    have C3_0 : Hid (LT.length ≤ c3_0 ∧ (A3_0 = none → c3_0 = 0)) := Lib.hid ⟨g0, g1⟩
    clear g0 g1 g2 g3
    have K3_a := Lib.hid (blk_alloc (blk_below K2_a.out hb) (.cells #[.int .i64 d, .slice A3_0 LT.length c3_0, .int .i64 lost] 24))
    have K3_b := Lib.hid (blk_alloc (blk_below K2_b.out hb) (.cells #[.int .i64 d, .slice A3_0 LT.length c3_0, .int .i64 lost] 24))
    have K3_s := Lib.hid (blk_alloc (blk_below K2_s.out hb) (.cells #[.int .i64 d, .slice A3_0 LT.length c3_0, .int .i64 lost] 24))
    have K3_s2 := Lib.hid (blk_alloc (blk_below K2_s2.out hb) (.cells #[.int .i64 d, .slice A3_0 LT.length c3_0, .int .i64 lost] 24))
    have K3_t := Lib.hid (blk_new w3 (.cells #[.int .i64 d, .slice A3_0 LT.length c3_0, .int .i64 lost] 24))
    have R3_s := Lib.hid ((R2_s.out.below hb).below (balloc (Below.refl w3.heap.size w3) (.cells #[.int .i64 d, .slice A3_0 LT.length c3_0, .int .i64 lost] 24)))
    have R3_s2 := Lib.hid ((R2_s2.out.below hb).below (balloc (Below.refl w3.heap.size w3) (.cells #[.int .i64 d, .slice A3_0 LT.length c3_0, .int .i64 lost] 24)))
    have R3_t := Lib.hid (r3_0.below (balloc (Below.refl w3.heap.size w3) (.cells #[.int .i64 d, .slice A3_0 LT.length c3_0, .int .i64 lost] 24)))
    have S3 := Lib.hid hb.size
    have B3 := Lib.hid (balloc (btrans B2.out hb) (.cells #[.int .i64 d, .slice A3_0 LT.length c3_0, .int .i64 lost] 24))
    clear hb r3_0
    clear p0_a2 p1_a2 p2_a2 z0_a2 z1_a2 z2_a2 l_a2 p0_b2 p1_b2 p2_b2 z0_b2 z1_b2 z2_b2 l_b2 p0_s2 p1_s2 p2_s2 z0_s2 z1_s2 z2_s2 l_s2 p0_s22 p1_s22 p2_s22 z0_s22 z1_s22 z2_s22 l_s22
    go_upto_region 7 with fail
    generalize World.alloc w3 (.cells #[.int .i64 d, .slice A3_0 LT.length c3_0, .int .i64 lost] 24) = W3 at *
    obtain ⟨p0_a3, p1_a3, p2_a3, z0_a3, z1_a3, z2_a3, l_a3⟩ := qf K3_a.out
    obtain ⟨p0_b3, p1_b3, p2_b3, z0_b3, z1_b3, z2_b3, l_b3⟩ := qf K3_b.out
    obtain ⟨p0_s3, p1_s3, p2_s3, z0_s3, z1_s3, z2_s3, l_s3⟩ := qf K3_s.out
    obtain ⟨p0_s23, p1_s23, p2_s23, z0_s23, z1_s23, z2_s23, l_s23⟩ := qf K3_s2.out
    obtain ⟨p0_t3, p1_t3, p2_t3, z0_t3, z1_t3, z2_t3, l_t3⟩ := qf K3_t.out
    go_wp2_with fail
    refine (HT2.out _ (Kd.C_below HR.out B3.out)).mono ?_
    rintro e w4 ⟨v, rfl, r4_0, hb⟩
    have q0 := r4_0
    obtain ⟨A4_0, c4_0, rfl, g2⟩ := q0
    clear g2
    have K4_a := Lib.hid (blk_alloc (blk_below K3_a.out hb) (.cells #[.int .i64 d, .slice A4_0 LT.length c4_0, .int .i64 lost] 24))
    have K4_b := Lib.hid (blk_alloc (blk_below K3_b.out hb) (.cells #[.int .i64 d, .slice A4_0 LT.length c4_0, .int .i64 lost] 24))
    have K4_s := Lib.hid (blk_alloc (blk_below K3_s.out hb) (.cells #[.int .i64 d, .slice A4_0 LT.length c4_0, .int .i64 lost] 24))
    have K4_s2 := Lib.hid (blk_alloc (blk_below K3_s2.out hb) (.cells #[.int .i64 d, .slice A4_0 LT.length c4_0, .int .i64 lost] 24))
    have K4_t := Lib.hid (blk_alloc (blk_below K3_t.out hb) (.cells #[.int .i64 d, .slice A4_0 LT.length c4_0, .int .i64 lost] 24))
    have K4_t2 := Lib.hid (blk_new w4 (.cells #[.int .i64 d, .slice A4_0 LT.length c4_0, .int .i64 lost] 24))
    have R4_s := Lib.hid ((R3_s.out.below hb).below (balloc (Below.refl w4.heap.size w4) (.cells #[.int .i64 d, .slice A4_0 LT.length c4_0, .int .i64 lost] 24)))
    have R4_s2 := Lib.hid ((R3_s2.out.below hb).below (balloc (Below.refl w4.heap.size w4) (.cells #[.int .i64 d, .slice A4_0 LT.length c4_0, .int .i64 lost] 24)))
    have R4_t := Lib.hid ((R3_t.out.below hb).below (balloc (Below.refl w4.heap.size w4) (.cells #[.int .i64 d, .slice A4_0 LT.length c4_0, .int .i64 lost] 24)))
    have R4_t2 := Lib.hid (r4_0.below (balloc (Below.refl w4.heap.size w4) (.cells #[.int .i64 d, .slice A4_0 LT.length c4_0, .int .i64 lost] 24)))
    have S4 := Lib.hid hb.size
    have B4 := Lib.hid (balloc (btrans B3.out hb) (.cells #[.int .i64 d, .slice A4_0 LT.length c4_0, .int .i64 lost] 24))
    clear hb r4_0
    clear p0_a3 p1_a3 p2_a3 z0_a3 z1_a3 z2_a3 l_a3 p0_b3 p1_b3 p2_b3 z0_b3 z1_b3 z2_b3 l_b3 p0_s3 p1_s3 p2_s3 z0_s3 z1_s3 z2_s3 l_s3 p0_s23 p1_s23 p2_s23 z0_s23 z1_s23 z2_s23 l_s23 p0_t3 p1_t3 p2_t3 z0_t3 z1_t3 z2_t3 l_t3
    go_upto_region 8 with fail
    generalize World.alloc w4 (.cells #[.int .i64 d, .slice A4_0 LT.length c4_0, .int .i64 lost] 24) = W4 at *
    obtain ⟨p0_a4, p1_a4, p2_a4, z0_a4, z1_a4, z2_a4, l_a4⟩ := qf K4_a.out
    obtain ⟨p0_b4, p1_b4, p2_b4, z0_b4, z1_b4, z2_b4, l_b4⟩ := qf K4_b.out
    obtain ⟨p0_s4, p1_s4, p2_s4, z0_s4, z1_s4, z2_s4, l_s4⟩ := qf K4_s.out
    obtain ⟨p0_s24, p1_s24, p2_s24, z0_s24, z1_s24, z2_s24, l_s24⟩ := qf K4_s2.out
    obtain ⟨p0_t4, p1_t4, p2_t4, z0_t4, z1_t4, z2_t4, l_t4⟩ := qf K4_t.out
    obtain ⟨p0_t24, p1_t24, p2_t24, z0_t24, z1_t24, z2_t24, l_t24⟩ := qf K4_t2.out
    go_wp2_with fail
    refine (HM.out _ (Kd.C_below HR.out B4.out) (Kd.C_below HR'.out B4.out)).mono ?_
    rintro e w5 ⟨v, v', rfl, r5_0, r5_1, hb⟩
    have T5_0 := Lib.hid (Rd.lt r5_0)
    have q0 := r5_0
    obtain ⟨A5_0, c5_0, rfl, g0, g1, g2, g3⟩ := q0
    have C5_0 : Hid (LX.length ≤ c5_0 ∧ (A5_0 = none → c5_0 = 0)) := Lib.hid ⟨g0, g1⟩
    clear g0 g1 g2 g3
    have T5_1 := Lib.hid (Rd.lt r5_1)
    have q1 := r5_1
    obtain ⟨A5_1, c5_1, rfl, g0, g1, g2, g3⟩ := q1
    have C5_1 : Hid (LY.length ≤ c5_1 ∧ (A5_1 = none → c5_1 = 0)) := Lib.hid ⟨g0, g1⟩
    clear g0 g1 g2 g3
    have K5_a := Lib.hid (blk_alloc (blk_alloc (blk_below K4_a.out hb) (.cells #[.int .i64 d, .slice A5_0 LX.length c5_0, .int .i64 lost] 24)) (.cells #[.int .i64 d', .slice A5_1 LY.length c5_1, .int .i64 lost'] 24))
    have K5_b := Lib.hid (blk_alloc (blk_alloc (blk_below K4_b.out hb) (.cells #[.int .i64 d, .slice A5_0 LX.length c5_0, .int .i64 lost] 24)) (.cells #[.int .i64 d', .slice A5_1 LY.length c5_1, .int .i64 lost'] 24))
    have K5_s := Lib.hid (blk_alloc (blk_alloc (blk_below K4_s.out hb) (.cells #[.int .i64 d, .slice A5_0 LX.length c5_0, .int .i64 lost] 24)) (.cells #[.int .i64 d', .slice A5_1 LY.length c5_1, .int .i64 lost'] 24))
    have K5_s2 := Lib.hid (blk_alloc (blk_alloc (blk_below K4_s2.out hb) (.cells #[.int .i64 d, .slice A5_0 LX.length c5_0, .int .i64 lost] 24)) (.cells #[.int .i64 d', .slice A5_1 LY.length c5_1, .int .i64 lost'] 24))
    have K5_t := Lib.hid (blk_alloc (blk_alloc (blk_below K4_t.out hb) (.cells #[.int .i64 d, .slice A5_0 LX.length c5_0, .int .i64 lost] 24)) (.cells #[.int .i64 d', .slice A5_1 LY.length c5_1, .int .i64 lost'] 24))
    have K5_t2 := Lib.hid (blk_alloc (blk_alloc (blk_below K4_t2.out hb) (.cells #[.int .i64 d, .slice A5_0 LX.length c5_0, .int .i64 lost] 24)) (.cells #[.int .i64 d', .slice A5_1 LY.length c5_1, .int .i64 lost'] 24))
    have K5_x := Lib.hid (two_blk w5 (.cells #[.int .i64 d, .slice A5_0 LX.length c5_0, .int .i64 lost] 24) (.cells #[.int .i64 d', .slice A5_1 LY.length c5_1, .int .i64 lost'] 24)).1
    have K5_y := Lib.hid (two_blk w5 (.cells #[.int .i64 d, .slice A5_0 LX.length c5_0, .int .i64 lost] 24) (.cells #[.int .i64 d', .slice A5_1 LY.length c5_1, .int .i64 lost'] 24)).2
    have R5_s := Lib.hid ((R4_s.out.below hb).below (balloc (balloc (Below.refl w5.heap.size w5) (.cells #[.int .i64 d, .slice A5_0 LX.length c5_0, .int .i64 lost] 24)) (.cells #[.int .i64 d', .slice A5_1 LY.length c5_1, .int .i64 lost'] 24)))
    have R5_s2 := Lib.hid ((R4_s2.out.below hb).below (balloc (balloc (Below.refl w5.heap.size w5) (.cells #[.int .i64 d, .slice A5_0 LX.length c5_0, .int .i64 lost] 24)) (.cells #[.int .i64 d', .slice A5_1 LY.length c5_1, .int .i64 lost'] 24)))
    have R5_t := Lib.hid ((R4_t.out.below hb).below (balloc (balloc (Below.refl w5.heap.size w5) (.cells #[.int .i64 d, .slice A5_0 LX.length c5_0, .int .i64 lost] 24)) (.cells #[.int .i64 d', .slice A5_1 LY.length c5_1, .int .i64 lost'] 24)))
    have R5_t2 := Lib.hid ((R4_t2.out.below hb).below (balloc (balloc (Below.refl w5.heap.size w5) (.cells #[.int .i64 d, .slice A5_0 LX.length c5_0, .int .i64 lost] 24)) (.cells #[.int .i64 d', .slice A5_1 LY.length c5_1, .int .i64 lost'] 24)))
    have R5_x := Lib.hid (r5_0.below (balloc (balloc (Below.refl w5.heap.size w5) (.cells #[.int .i64 d, .slice A5_0 LX.length c5_0, .int .i64 lost] 24)) (.cells #[.int .i64 d', .slice A5_1 LY.length c5_1, .int .i64 lost'] 24)))
    have R5_y := Lib.hid (r5_1.below (balloc (balloc (Below.refl w5.heap.size w5) (.cells #[.int .i64 d, .slice A5_0 LX.length c5_0, .int .i64 lost] 24)) (.cells #[.int .i64 d', .slice A5_1 LY.length c5_1, .int .i64 lost'] 24)))
    have S5 := Lib.hid hb.size
    have B5 := Lib.hid (balloc (balloc (btrans B4.out hb) (.cells #[.int .i64 d, .slice A5_0 LX.length c5_0, .int .i64 lost] 24)) (.cells #[.int .i64 d', .slice A5_1 LY.length c5_1, .int .i64 lost'] 24))
    clear hb r5_0 r5_1
    clear p0_a4 p1_a4 p2_a4 z0_a4 z1_a4 z2_a4 l_a4 p0_b4 p1_b4 p2_b4 z0_b4 z1_b4 z2_b4 l_b4 p0_s4 p1_s4 p2_s4 z0_s4 z1_s4 z2_s4 l_s4 p0_s24 p1_s24 p2_s24 z0_s24 z1_s24 z2_s24 l_s24 p0_t4 p1_t4 p2_t4 z0_t4 z1_t4 z2_t4 l_t4 p0_t24 p1_t24 p2_t24 z0_t24 z1_t24 z2_t24 l_t24
    go_upto_region 9 with fail
    generalize World.alloc (World.alloc w5 (.cells #[.int .i64 d, .slice A5_0 LX.length c5_0, .int .i64 lost] 24)) (.cells #[.int .i64 d', .slice A5_1 LY.length c5_1, .int .i64 lost'] 24) = W5 at *
    obtain ⟨p0_a5, p1_a5, p2_a5, z0_a5, z1_a5, z2_a5, l_a5⟩ := qf K5_a.out
    obtain ⟨p0_b5, p1_b5, p2_b5, z0_b5, z1_b5, z2_b5, l_b5⟩ := qf K5_b.out
    obtain ⟨p0_s5, p1_s5, p2_s5, z0_s5, z1_s5, z2_s5, l_s5⟩ := qf K5_s.out
    obtain ⟨p0_s25, p1_s25, p2_s25, z0_s25, z1_s25, z2_s25, l_s25⟩ := qf K5_s2.out
    obtain ⟨p0_t5, p1_t5, p2_t5, z0_t5, z1_t5, z2_t5, l_t5⟩ := qf K5_t.out
    obtain ⟨p0_t25, p1_t25, p2_t25, z0_t25, z1_t25, z2_t25, l_t25⟩ := qf K5_t2.out
    obtain ⟨p0_x5, p1_x5, p2_x5, z0_x5, z1_x5, z2_x5, l_x5⟩ := qf K5_x.out
    obtain ⟨p0_y5, p1_y5, p2_y5, z0_y5, z1_y5, z2_y5, l_y5⟩ := qf K5_y.out
    go_wp2_with fail
    refine (HM2.out _ (Kd.C_below HR.out B5.out) (Kd.C_below HR'.out B5.out)).mono ?_
    rintro e w6 ⟨v, v', rfl, r6_0, r6_1, hb⟩
    have q0 := r6_0
    obtain ⟨A6_0, c6_0, rfl, g2⟩ := q0
    clear g2
    have q1 := r6_1
    obtain ⟨A6_1, c6_1, rfl, g2⟩ := q1
    clear g2
    have K6_a := Lib.hid (blk_alloc (blk_alloc (blk_below K5_a.out hb) (.cells #[.int .i64 d, .slice A6_0 LX.length c6_0, .int .i64 lost] 24)) (.cells #[.int .i64 d', .slice A6_1 LY.length c6_1, .int .i64 lost'] 24))
    have K6_b := Lib.hid (blk_alloc (blk_alloc (blk_below K5_b.out hb) (.cells #[.int .i64 d, .slice A6_0 LX.length c6_0, .int .i64 lost] 24)) (.cells #[.int .i64 d', .slice A6_1 LY.length c6_1, .int .i64 lost'] 24))
    have K6_s := Lib.hid (blk_alloc (blk_alloc (blk_below K5_s.out hb) (.cells #[.int .i64 d, .slice A6_0 LX.length c6_0, .int .i64 lost] 24)) (.cells #[.int .i64 d', .slice A6_1 LY.length c6_1, .int .i64 lost'] 24))
    have K6_s2 := Lib.hid (blk_alloc (blk_alloc (blk_below K5_s2.out hb) (.cells #[.int .i64 d, .slice A6_0 LX.length c6_0, .int .i64 lost] 24)) (.cells #[.int .i64 d', .slice A6_1 LY.length c6_1, .int .i64 lost'] 24))
    have K6_t := Lib.hid (blk_alloc (blk_alloc (blk_below K5_t.out hb) (.cells #[.int .i64 d, .slice A6_0 LX.length c6_0, .int .i64 lost] 24)) (.cells #[.int .i64 d', .slice A6_1 LY.length c6_1, .int .i64 lost'] 24))
    have K6_t2 := Lib.hid (blk_alloc (blk_alloc (blk_below K5_t2.out hb) (.cells #[.int .i64 d, .slice A6_0 LX.length c6_0, .int .i64 lost] 24)) (.cells #[.int .i64 d', .slice A6_1 LY.length c6_1, .int .i64 lost'] 24))
    have K6_x := Lib.hid (blk_alloc (blk_alloc (blk_below K5_x.out hb) (.cells #[.int .i64 d, .slice A6_0 LX.length c6_0, .int .i64 lost] 24)) (.cells #[.int .i64 d', .slice A6_1 LY.length c6_1, .int .i64 lost'] 24))
    have K6_y := Lib.hid (blk_alloc (blk_alloc (blk_below K5_y.out hb) (.cells #[.int .i64 d, .slice A6_0 LX.length c6_0, .int .i64 lost] 24)) (.cells #[.int .i64 d', .slice A6_1 LY.length c6_1, .int .i64 lost'] 24))
    have K6_x2 := Lib.hid (two_blk w6 (.cells #[.int .i64 d, .slice A6_0 LX.length c6_0, .int .i64 lost] 24) (.cells #[.int .i64 d', .slice A6_1 LY.length c6_1, .int .i64 lost'] 24)).1
    have K6_y2 := Lib.hid (two_blk w6 (.cells #[.int .i64 d, .slice A6_0 LX.length c6_0, .int .i64 lost] 24) (.cells #[.int .i64 d', .slice A6_1 LY.length c6_1, .int .i64 lost'] 24)).2
    have R6_s := Lib.hid ((R5_s.out.below hb).below (balloc (balloc (Below.refl w6.heap.size w6) (.cells #[.int .i64 d, .slice A6_0 LX.length c6_0, .int .i64 lost] 24)) (.cells #[.int .i64 d', .slice A6_1 LY.length c6_1, .int .i64 lost'] 24)))
    have R6_s2 := Lib.hid ((R5_s2.out.below hb).below (balloc (balloc (Below.refl w6.heap.size w6) (.cells #[.int .i64 d, .slice A6_0 LX.length c6_0, .int .i64 lost] 24)) (.cells #[.int .i64 d', .slice A6_1 LY.length c6_1, .int .i64 lost'] 24)))
    have R6_t := Lib.hid ((R5_t.out.below hb).below (balloc (balloc (Below.refl w6.heap.size w6) (.cells #[.int .i64 d, .slice A6_0 LX.length c6_0, .int .i64 lost] 24)) (.cells #[.int .i64 d', .slice A6_1 LY.length c6_1, .int .i64 lost'] 24)))
    have R6_t2 := Lib.hid ((R5_t2.out.below hb).below (balloc (balloc (Below.refl w6.heap.size w6) (.cells #[.int .i64 d, .slice A6_0 LX.length c6_0, .int .i64 lost] 24)) (.cells #[.int .i64 d', .slice A6_1 LY.length c6_1, .int .i64 lost'] 24)))
    have R6_x := Lib.hid ((R5_x.out.below hb).below (balloc (balloc (Below.refl w6.heap.size w6) (.cells #[.int .i64 d, .slice A6_0 LX.length c6_0, .int .i64 lost] 24)) (.cells #[.int .i64 d', .slice A6_1 LY.length c6_1, .int .i64 lost'] 24)))
    have R6_y := Lib.hid ((R5_y.out.below hb).below (balloc (balloc (Below.refl w6.heap.size w6) (.cells #[.int .i64 d, .slice A6_0 LX.length c6_0, .int .i64 lost] 24)) (.cells #[.int .i64 d', .slice A6_1 LY.length c6_1, .int .i64 lost'] 24)))
    have R6_x2 := Lib.hid (r6_0.below (balloc (balloc (Below.refl w6.heap.size w6) (.cells #[.int .i64 d, .slice A6_0 LX.length c6_0, .int .i64 lost] 24)) (.cells #[.int .i64 d', .slice A6_1 LY.length c6_1, .int .i64 lost'] 24)))
    have R6_y2 := Lib.hid (r6_1.below (balloc (balloc (Below.refl w6.heap.size w6) (.cells #[.int .i64 d, .slice A6_0 LX.length c6_0, .int .i64 lost] 24)) (.cells #[.int .i64 d', .slice A6_1 LY.length c6_1, .int .i64 lost'] 24)))
    have S6 := Lib.hid hb.size
    have B6 := Lib.hid (balloc (balloc (btrans B5.out hb) (.cells #[.int .i64 d, .slice A6_0 LX.length c6_0, .int .i64 lost] 24)) (.cells #[.int .i64 d', .slice A6_1 LY.length c6_1, .int .i64 lost'] 24))
    clear hb r6_0 r6_1
    clear p0_a5 p1_a5 p2_a5 z0_a5 z1_a5 z2_a5 l_a5 p0_b5 p1_b5 p2_b5 z0_b5 z1_b5 z2_b5 l_b5 p0_s5 p1_s5 p2_s5 z0_s5 z1_s5 z2_s5 l_s5 p0_s25 p1_s25 p2_s25 z0_s25 z1_s25 z2_s25 l_s25 p0_t5 p1_t5 p2_t5 z0_t5 z1_t5 z2_t5 l_t5 p0_t25 p1_t25 p2_t25 z0_t25 z1_t25 z2_t25 l_t25 p0_x5 p1_x5 p2_x5 z0_x5 z1_x5 z2_x5 l_x5 p0_y5 p1_y5 p2_y5 z0_y5 z1_y5 z2_y5 l_y5
    go_upto_region 10 with fail
    generalize World.alloc (World.alloc w6 (.cells #[.int .i64 d, .slice A6_0 LX.length c6_0, .int .i64 lost] 24)) (.cells #[.int .i64 d', .slice A6_1 LY.length c6_1, .int .i64 lost'] 24) = W6 at *
    obtain ⟨p0_a6, p1_a6, p2_a6, z0_a6, z1_a6, z2_a6, l_a6⟩ := qf K6_a.out
    obtain ⟨p0_b6, p1_b6, p2_b6, z0_b6, z1_b6, z2_b6, l_b6⟩ := qf K6_b.out
    obtain ⟨p0_s6, p1_s6, p2_s6, z0_s6, z1_s6, z2_s6, l_s6⟩ := qf K6_s.out
    obtain ⟨p0_s26, p1_s26, p2_s26, z0_s26, z1_s26, z2_s26, l_s26⟩ := qf K6_s2.out
    obtain ⟨p0_t6, p1_t6, p2_t6, z0_t6, z1_t6, z2_t6, l_t6⟩ := qf K6_t.out
    obtain ⟨p0_t26, p1_t26, p2_t26, z0_t26, z1_t26, z2_t26, l_t26⟩ := qf K6_t2.out
    obtain ⟨p0_x6, p1_x6, p2_x6, z0_x6, z1_x6, z2_x6, l_x6⟩ := qf K6_x.out
    obtain ⟨p0_y6, p1_y6, p2_y6, z0_y6, z1_y6, z2_y6, l_y6⟩ := qf K6_y.out
    obtain ⟨p0_x26, p1_x26, p2_x26, z0_x26, z1_x26, z2_x26, l_x26⟩ := qf K6_x2.out
    obtain ⟨p0_y26, p1_y26, p2_y26, z0_y26, z1_y26, z2_y26, l_y26⟩ := qf K6_y2.out
    go_wp2_with fail
    refine (same18_any d nS _ _ _ _ LS _ R6_s.out.C R6_s2.out.C (by have := HL.out; omega)).mono ?_
    rintro e w7 ⟨rfl, hb⟩
    have K7_a := Lib.hid (blk_below K6_a.out hb)
    have K7_b := Lib.hid (blk_below K6_b.out hb)
    have K7_s := Lib.hid (blk_below K6_s.out hb)
    have K7_s2 := Lib.hid (blk_below K6_s2.out hb)
    have K7_t := Lib.hid (blk_below K6_t.out hb)
    have K7_t2 := Lib.hid (blk_below K6_t2.out hb)
    have K7_x := Lib.hid (blk_below K6_x.out hb)
    have K7_y := Lib.hid (blk_below K6_y.out hb)
    have K7_x2 := Lib.hid (blk_below K6_x2.out hb)
    have K7_y2 := Lib.hid (blk_below K6_y2.out hb)
    have R7_s := Lib.hid (R6_s.out.below hb)
    have R7_s2 := Lib.hid (R6_s2.out.below hb)
    have R7_t := Lib.hid (R6_t.out.below hb)
    have R7_t2 := Lib.hid (R6_t2.out.below hb)
    have R7_x := Lib.hid (R6_x.out.below hb)
    have R7_y := Lib.hid (R6_y.out.below hb)
    have R7_x2 := Lib.hid (R6_x2.out.below hb)
    have R7_y2 := Lib.hid (R6_y2.out.below hb)
    have S7 := Lib.hid hb.size
    have B7 := Lib.hid (btrans B6.out hb)
    clear hb 
    clear p0_a6 p1_a6 p2_a6 z0_a6 z1_a6 z2_a6 l_a6 p0_b6 p1_b6 p2_b6 z0_b6 z1_b6 z2_b6 l_b6 p0_s6 p1_s6 p2_s6 z0_s6 z1_s6 z2_s6 l_s6 p0_s26 p1_s26 p2_s26 z0_s26 z1_s26 z2_s26 l_s26 p0_t6 p1_t6 p2_t6 z0_t6 z1_t6 z2_t6 l_t6 p0_t26 p1_t26 p2_t26 z0_t26 z1_t26 z2_t26 l_t26 p0_x6 p1_x6 p2_x6 z0_x6 z1_x6 z2_x6 l_x6 p0_y6 p1_y6 p2_y6 z0_y6 z1_y6 z2_y6 l_y6 p0_x26 p1_x26 p2_x26 z0_x26 z1_x26 z2_x26 l_x26 p0_y26 p1_y26 p2_y26 z0_y26 z1_y26 z2_y26 l_y26
    go_upto_region 11 with fail
    obtain ⟨p0_a7, p1_a7, p2_a7, z0_a7, z1_a7, z2_a7, l_a7⟩ := qf K7_a.out
    obtain ⟨p0_b7, p1_b7, p2_b7, z0_b7, z1_b7, z2_b7, l_b7⟩ := qf K7_b.out
    obtain ⟨p0_s7, p1_s7, p2_s7, z0_s7, z1_s7, z2_s7, l_s7⟩ := qf K7_s.out
    obtain ⟨p0_s27, p1_s27, p2_s27, z0_s27, z1_s27, z2_s27, l_s27⟩ := qf K7_s2.out
    obtain ⟨p0_t7, p1_t7, p2_t7, z0_t7, z1_t7, z2_t7, l_t7⟩ := qf K7_t.out
    obtain ⟨p0_t27, p1_t27, p2_t27, z0_t27, z1_t27, z2_t27, l_t27⟩ := qf K7_t2.out
    obtain ⟨p0_x7, p1_x7, p2_x7, z0_x7, z1_x7, z2_x7, l_x7⟩ := qf K7_x.out
    obtain ⟨p0_y7, p1_y7, p2_y7, z0_y7, z1_y7, z2_y7, l_y7⟩ := qf K7_y.out
    obtain ⟨p0_x27, p1_x27, p2_x27, z0_x27, z1_x27, z2_x27, l_x27⟩ := qf K7_x2.out
    obtain ⟨p0_y27, p1_y27, p2_y27, z0_y27, z1_y27, z2_y27, l_y27⟩ := qf K7_y2.out
    go_wp2_with fail
    refine (same18_any d lost _ _ _ _ LT _ R7_t.out.C R7_t2.out.C (by have := HL.out; omega)).mono ?_
    rintro e w8 ⟨rfl, hb⟩
    have K8_a := Lib.hid (blk_below K7_a.out hb)
    have K8_b := Lib.hid (blk_below K7_b.out hb)
    have K8_s := Lib.hid (blk_below K7_s.out hb)
    have K8_s2 := Lib.hid (blk_below K7_s2.out hb)
    have K8_t := Lib.hid (blk_below K7_t.out hb)
    have K8_t2 := Lib.hid (blk_below K7_t2.out hb)
    have K8_x := Lib.hid (blk_below K7_x.out hb)
    have K8_y := Lib.hid (blk_below K7_y.out hb)
    have K8_x2 := Lib.hid (blk_below K7_x2.out hb)
    have K8_y2 := Lib.hid (blk_below K7_y2.out hb)
    have R8_s := Lib.hid (R7_s.out.below hb)
    have R8_s2 := Lib.hid (R7_s2.out.below hb)
    have R8_t := Lib.hid (R7_t.out.below hb)
    have R8_t2 := Lib.hid (R7_t2.out.below hb)
    have R8_x := Lib.hid (R7_x.out.below hb)
    have R8_y := Lib.hid (R7_y.out.below hb)
    have R8_x2 := Lib.hid (R7_x2.out.below hb)
    have R8_y2 := Lib.hid (R7_y2.out.below hb)
    have S8 := Lib.hid hb.size
    have B8 := Lib.hid (btrans B7.out hb)
    clear hb 
    clear p0_a7 p1_a7 p2_a7 z0_a7 z1_a7 z2_a7 l_a7 p0_b7 p1_b7 p2_b7 z0_b7 z1_b7 z2_b7 l_b7 p0_s7 p1_s7 p2_s7 z0_s7 z1_s7 z2_s7 l_s7 p0_s27 p1_s27 p2_s27 z0_s27 z1_s27 z2_s27 l_s27 p0_t7 p1_t7 p2_t7 z0_t7 z1_t7 z2_t7 l_t7 p0_t27 p1_t27 p2_t27 z0_t27 z1_t27 z2_t27 l_t27 p0_x7 p1_x7 p2_x7 z0_x7 z1_x7 z2_x7 l_x7 p0_y7 p1_y7 p2_y7 z0_y7 z1_y7 z2_y7 l_y7 p0_x27 p1_x27 p2_x27 z0_x27 z1_x27 z2_x27 l_x27 p0_y27 p1_y27 p2_y27 z0_y27 z1_y27 z2_y27 l_y27
    go_upto_region 12 with fail
    obtain ⟨p0_a8, p1_a8, p2_a8, z0_a8, z1_a8, z2_a8, l_a8⟩ := qf K8_a.out
    obtain ⟨p0_b8, p1_b8, p2_b8, z0_b8, z1_b8, z2_b8, l_b8⟩ := qf K8_b.out
    obtain ⟨p0_s8, p1_s8, p2_s8, z0_s8, z1_s8, z2_s8, l_s8⟩ := qf K8_s.out
    obtain ⟨p0_s28, p1_s28, p2_s28, z0_s28, z1_s28, z2_s28, l_s28⟩ := qf K8_s2.out
    obtain ⟨p0_t8, p1_t8, p2_t8, z0_t8, z1_t8, z2_t8, l_t8⟩ := qf K8_t.out
    obtain ⟨p0_t28, p1_t28, p2_t28, z0_t28, z1_t28, z2_t28, l_t28⟩ := qf K8_t2.out
    obtain ⟨p0_x8, p1_x8, p2_x8, z0_x8, z1_x8, z2_x8, l_x8⟩ := qf K8_x.out
    obtain ⟨p0_y8, p1_y8, p2_y8, z0_y8, z1_y8, z2_y8, l_y8⟩ := qf K8_y.out
    obtain ⟨p0_x28, p1_x28, p2_x28, z0_x28, z1_x28, z2_x28, l_x28⟩ := qf K8_x2.out
    obtain ⟨p0_y28, p1_y28, p2_y28, z0_y28, z1_y28, z2_y28, l_y28⟩ := qf K8_y2.out
    go_wp2_with fail
    refine (same18_any d lost _ _ _ _ LX _ R8_x.out.C R8_x2.out.C (by have := HL.out; omega)).mono ?_
    rintro e w9 ⟨rfl, hb⟩
    have K9_a := Lib.hid (blk_below K8_a.out hb)
    have K9_b := Lib.hid (blk_below K8_b.out hb)
    have K9_s := Lib.hid (blk_below K8_s.out hb)
    have K9_s2 := Lib.hid (blk_below K8_s2.out hb)
    have K9_t := Lib.hid (blk_below K8_t.out hb)
    have K9_t2 := Lib.hid (blk_below K8_t2.out hb)
    have K9_x := Lib.hid (blk_below K8_x.out hb)
    have K9_y := Lib.hid (blk_below K8_y.out hb)
    have K9_x2 := Lib.hid (blk_below K8_x2.out hb)
    have K9_y2 := Lib.hid (blk_below K8_y2.out hb)
    have R9_s := Lib.hid (R8_s.out.below hb)
    have R9_s2 := Lib.hid (R8_s2.out.below hb)
    have R9_t := Lib.hid (R8_t.out.below hb)
    have R9_t2 := Lib.hid (R8_t2.out.below hb)
    have R9_x := Lib.hid (R8_x.out.below hb)
    have R9_y := Lib.hid (R8_y.out.below hb)
    have R9_x2 := Lib.hid (R8_x2.out.below hb)
    have R9_y2 := Lib.hid (R8_y2.out.below hb)
    have S9 := Lib.hid hb.size
    have B9 := Lib.hid (btrans B8.out hb)
    clear hb 
    clear p0_a8 p1_a8 p2_a8 z0_a8 z1_a8 z2_a8 l_a8 p0_b8 p1_b8 p2_b8 z0_b8 z1_b8 z2_b8 l_b8 p0_s8 p1_s8 p2_s8 z0_s8 z1_s8 z2_s8 l_s8 p0_s28 p1_s28 p2_s28 z0_s28 z1_s28 z2_s28 l_s28 p0_t8 p1_t8 p2_t8 z0_t8 z1_t8 z2_t8 l_t8 p0_t28 p1_t28 p2_t28 z0_t28 z1_t28 z2_t28 l_t28 p0_x8 p1_x8 p2_x8 z0_x8 z1_x8 z2_x8 l_x8 p0_y8 p1_y8 p2_y8 z0_y8 z1_y8 z2_y8 l_y8 p0_x28 p1_x28 p2_x28 z0_x28 z1_x28 z2_x28 l_x28 p0_y28 p1_y28 p2_y28 z0_y28 z1_y28 z2_y28 l_y28
    go_upto_region 13 with fail
    obtain ⟨p0_a9, p1_a9, p2_a9, z0_a9, z1_a9, z2_a9, l_a9⟩ := qf K9_a.out
    obtain ⟨p0_b9, p1_b9, p2_b9, z0_b9, z1_b9, z2_b9, l_b9⟩ := qf K9_b.out
    obtain ⟨p0_s9, p1_s9, p2_s9, z0_s9, z1_s9, z2_s9, l_s9⟩ := qf K9_s.out
    obtain ⟨p0_s29, p1_s29, p2_s29, z0_s29, z1_s29, z2_s29, l_s29⟩ := qf K9_s2.out
    obtain ⟨p0_t9, p1_t9, p2_t9, z0_t9, z1_t9, z2_t9, l_t9⟩ := qf K9_t.out
    obtain ⟨p0_t29, p1_t29, p2_t29, z0_t29, z1_t29, z2_t29, l_t29⟩ := qf K9_t2.out
    obtain ⟨p0_x9, p1_x9, p2_x9, z0_x9, z1_x9, z2_x9, l_x9⟩ := qf K9_x.out
    obtain ⟨p0_y9, p1_y9, p2_y9, z0_y9, z1_y9, z2_y9, l_y9⟩ := qf K9_y.out
    obtain ⟨p0_x29, p1_x29, p2_x29, z0_x29, z1_x29, z2_x29, l_x29⟩ := qf K9_x2.out
    obtain ⟨p0_y29, p1_y29, p2_y29, z0_y29, z1_y29, z2_y29, l_y29⟩ := qf K9_y2.out
    go_wp2_with fail
    refine (same18_any d' lost' _ _ _ _ LY _ R9_y.out.C R9_y2.out.C (by have := HL.out; omega)).mono ?_
    rintro e w10 ⟨rfl, hb⟩
    have K10_a := Lib.hid (blk_below K9_a.out hb)
    have K10_b := Lib.hid (blk_below K9_b.out hb)
    have K10_s := Lib.hid (blk_below K9_s.out hb)
    have K10_s2 := Lib.hid (blk_below K9_s2.out hb)
    have K10_t := Lib.hid (blk_below K9_t.out hb)
    have K10_t2 := Lib.hid (blk_below K9_t2.out hb)
    have K10_x := Lib.hid (blk_below K9_x.out hb)
    have K10_y := Lib.hid (blk_below K9_y.out hb)
    have K10_x2 := Lib.hid (blk_below K9_x2.out hb)
    have K10_y2 := Lib.hid (blk_below K9_y2.out hb)
    have R10_s := Lib.hid (R9_s.out.below hb)
    have R10_s2 := Lib.hid (R9_s2.out.below hb)
    have R10_t := Lib.hid (R9_t.out.below hb)
    have R10_t2 := Lib.hid (R9_t2.out.below hb)
    have R10_x := Lib.hid (R9_x.out.below hb)
    have R10_y := Lib.hid (R9_y.out.below hb)
    have R10_x2 := Lib.hid (R9_x2.out.below hb)
    have R10_y2 := Lib.hid (R9_y2.out.below hb)
    have S10 := Lib.hid hb.size
    have B10 := Lib.hid (btrans B9.out hb)
    clear hb 
    clear p0_a9 p1_a9 p2_a9 z0_a9 z1_a9 z2_a9 l_a9 p0_b9 p1_b9 p2_b9 z0_b9 z1_b9 z2_b9 l_b9 p0_s9 p1_s9 p2_s9 z0_s9 z1_s9 z2_s9 l_s9 p0_s29 p1_s29 p2_s29 z0_s29 z1_s29 z2_s29 l_s29 p0_t9 p1_t9 p2_t9 z0_t9 z1_t9 z2_t9 l_t9 p0_t29 p1_t29 p2_t29 z0_t29 z1_t29 z2_t29 l_t29 p0_x9 p1_x9 p2_x9 z0_x9 z1_x9 z2_x9 l_x9 p0_y9 p1_y9 p2_y9 z0_y9 z1_y9 z2_y9 l_y9 p0_x29 p1_x29 p2_x29 z0_x29 z1_x29 z2_x29 l_x29 p0_y29 p1_y29 p2_y29 z0_y29 z1_y29 z2_y29 l_y29
    go_upto_region 14 with fail
    obtain ⟨p0_a10, p1_a10, p2_a10, z0_a10, z1_a10, z2_a10, l_a10⟩ := qf K10_a.out
    obtain ⟨p0_b10, p1_b10, p2_b10, z0_b10, z1_b10, z2_b10, l_b10⟩ := qf K10_b.out
    obtain ⟨p0_s10, p1_s10, p2_s10, z0_s10, z1_s10, z2_s10, l_s10⟩ := qf K10_s.out
    obtain ⟨p0_s210, p1_s210, p2_s210, z0_s210, z1_s210, z2_s210, l_s210⟩ := qf K10_s2.out
    obtain ⟨p0_t10, p1_t10, p2_t10, z0_t10, z1_t10, z2_t10, l_t10⟩ := qf K10_t.out
    obtain ⟨p0_t210, p1_t210, p2_t210, z0_t210, z1_t210, z2_t210, l_t210⟩ := qf K10_t2.out
    obtain ⟨p0_x10, p1_x10, p2_x10, z0_x10, z1_x10, z2_x10, l_x10⟩ := qf K10_x.out
    obtain ⟨p0_y10, p1_y10, p2_y10, z0_y10, z1_y10, z2_y10, l_y10⟩ := qf K10_y.out
    obtain ⟨p0_x210, p1_x210, p2_x210, z0_x210, z1_x210, z2_x210, l_x210⟩ := qf K10_x2.out
    obtain ⟨p0_y210, p1_y210, p2_y210, z0_y210, z1_y210, z2_y210, l_y210⟩ := qf K10_y2.out
    have e0 : (eS == eS) = true := by simp
    have e1 : (eT == eT) = true := by simp
    have e2 : (vT == vT) = true := by simp
    go_wp2_with fail
    go_ret
    exact ⟨rfl, B10.out⟩
  · by_cases h0 : m.length ≤ 60
    · have j0 : (m.length : Int) ≤ 60 := by omega
      have j1 : (60 : Int) < (m'.length : Int) := by omega
      go_wp2_with fail
      go_ret
      exact ⟨rfl, B0.out⟩
    · have j0 : (60 : Int) < (m.length : Int) := by omega
      go_wp2_with fail
      go_ret
      exact ⟨rfl, B0.out⟩
end Go.Proofs.Ytfeifmjihdfadaa.PortD

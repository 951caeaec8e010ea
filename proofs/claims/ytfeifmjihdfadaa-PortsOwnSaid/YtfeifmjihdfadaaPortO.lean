/-
  The law function PortsOwn, walked: it answers true. Conditions: the messages lie in memory as told.
-/
import Derived.Test.YtfeifmjihdfadaaPortB
import Derived.Deep.RegionHeld3
import Derived.Deep.CutRange
namespace Go.Proofs.Ytfeifmjihdfadaa.PortO
set_option maxRecDepth 100000
set_option linter.unusedVariables false
set_option linter.unusedSimpArgs false
open Go.RowKit Go.Proofs.YtfeifmjihdfadaaW.PrintWords Go.Proofs.YtfeifmjihdfadaaW.PrintMore Go.Proofs.Ytfeifmjihdfadaa.Port

theorem mov_le (m m' : List Int) (d : Int) (h : m.length ≤ 60) (h' : m'.length ≤ 60) : (m.drop (movN m m' d)).length ≤ 120 ∧ (m' ++ m.take (movN m m' d)).length ≤ 120 := by
  have : movN m m' d ≤ m.length := by unfold movN; omega
  simp only [List.length_drop, List.length_append, List.length_take]
  omega

theorem cell3_far {W : World} {q g : Nat} (h : q ≠ g) (a b c : Value) {i : Nat} : (((W.setCell ⟨g, 0, none⟩ a).setCell ⟨g, 1, none⟩ b).setCell ⟨g, 2, none⟩ c).cell? ⟨q, i, none⟩ = W.cell? ⟨q, i, none⟩ :=
  World.cell?_of_block ((Below.heap_setCell _ ⟨g, 2, none⟩ c q h).trans ((Below.heap_setCell _ ⟨g, 1, none⟩ b q h).trans (Below.heap_setCell _ ⟨g, 0, none⟩ a q h)))
/-- A row whose first number may be written. -/
def Wr (w : World) (A : Option Addr) (n : Nat) : Prop := ∀ ad, A = some ad → 0 < n → ad.spot = none ∧ ∃ cur v, w.heap[ad.block]? = some (.cells cur 3 (0, 0)) ∧ cur[ad.off]? = some (.int .i64 v)
theorem Wr.of_Rd {w : World} {b c : Nat} {A : Option Addr} {l : List Int} (h : Rd w b (.slice A l.length c) l) : Wr w A l.length := by
  intro ad ha hp
  obtain ⟨A1, c1, he, _, _, h3, h4⟩ := h
  injection he with he1 he2 he3
  subst he1
  subst ha
  obtain ⟨_, _, hs, cur, hcur⟩ := h4 ad rfl
  obtain ⟨ad', h5, h6⟩ := at_nat h3 0 hp
  injection h5 with h5
  subst h5
  rw [addr0] at h6
  refine ⟨hs, cur, rd l (0 : Nat), hcur, ?_⟩
  obtain ⟨g, o, sp⟩ := ad
  simp only at hs hcur
  subst hs
  rw [cell_of_row w g o cur _ (0, 0) hcur] at h6
  exact h6
theorem Wr.set {w : World} {A : Option Addr} {n : Nat} (h : Wr w A n) {g o : Nat} {cur : Array Value} {v : Int} (hg : w.heap[g]? = some (.cells cur 3 (0, 0))) (hv : cur[o]? = some (.int .i64 v)) (u : Int) : Wr (w.setCell ⟨g, o, none⟩ (.int .i64 u)) A n := by
  intro ad ha hp
  obtain ⟨hs, cur', v', h1, h2⟩ := h ad ha hp
  refine ⟨hs, ?_⟩
  by_cases hb : ad.block = g
  · rw [hb] at h1 ⊢
    rw [hg] at h1
    obtain rfl : cur = cur' := by injection h1 with h1; injection h1
    have hn := blk_set hg o (.int .i64 u)
    by_cases ho : ad.off = o
    · rw [ho]
      have hlt : o < cur.size := (Array.getElem?_eq_some_iff.1 hv).1
      exact ⟨_, u, hn, by simp [hlt]⟩
    · refine ⟨_, v', hn, ?_⟩
      rw [Array.getElem?_setIfInBounds_ne (fun e => ho e.symm)]
      exact h2
  · exact ⟨cur', v', (Below.heap_setCell w ⟨g, o, none⟩ (.int .i64 u) ad.block hb).trans h1, h2⟩
theorem C_move' {w w1 : World} {A : Option Addr} {n : Nat} {l : List Int} (h : (Kd.int .i64).C w A n l) (hm : ∀ ad, A = some ad → 0 < n → w1.heap[ad.block]? = w.heap[ad.block]?) : (Kd.int .i64).C w1 A n l := by
  rcases Nat.eq_zero_or_pos n with h0 | h0
  · exact ⟨h.1, h.2.1, fun hp => absurd hp (by omega)⟩
  · exact C_move h (fun ad ha => hm ad ha h0)
theorem C_lt {w : World} {ad : Addr} {n : Nat} {l : List Int} (h : (Kd.int .i64).C w (some ad) n l) (hp : 0 < n) : ad.block < w.heap.size := by
  obtain ⟨ad', he, hc⟩ := Kd.at_int h 0 (Int.le_refl _) (by omega)
  injection he with he
  subst he
  rw [show ad.add (Int.toNat 0) = ad from addr0 ad] at hc
  exact World.block_lt_of_cell? _ _ hc
/-- What holds in the loop that writes. -/
structure OI (w WL : World) (P : Nat → Prop) (A1 A2 A3 A4 : Option Addr) (n1 n2 n3 n4 : Nat) (wr : World) : Prop where
  bel : Below w.heap.size w wr
  w1 : Wr wr A1 n1
  w2 : Wr wr A2 n2
  w3 : Wr wr A3 n3
  w4 : Wr wr A4 n4
  keep : ∀ g, P g → wr.heap[g]? = WL.heap[g]?
theorem OI.set {w WL : World} {P : Nat → Prop} {A1 A2 A3 A4 : Option Addr} {n1 n2 n3 n4 : Nat} {wr : World} (h : OI w WL P A1 A2 A3 A4 n1 n2 n3 n4 wr) {g o : Nat} {cur : Array Value} {v : Int} (hg : wr.heap[g]? = some (.cells cur 3 (0, 0))) (hv : cur[o]? = some (.int .i64 v))
    (hw : w.heap.size ≤ g) (hP : ∀ k, P k → k ≠ g) (u : Int) : OI w WL P A1 A2 A3 A4 n1 n2 n3 n4 (wr.setCell ⟨g, o, none⟩ (.int .i64 u)) :=
  ⟨h.bel.setCell hw _, h.w1.set hg hv u, h.w2.set hg hv u, h.w3.set hg hv u, h.w4.set hg hv u, fun k hk => (Below.heap_setCell wr ⟨g, o, none⟩ (.int .i64 u) k (hP k hk)).trans (h.keep k hk)⟩
theorem OI.drew {w WL : World} {P : Nat → Prop} {A1 A2 A3 A4 : Option Addr} {n1 n2 n3 n4 : Nat} {wr : World} (h : OI w WL P A1 A2 A3 A4 n1 n2 n3 n4 wr) : OI w WL P A1 A2 A3 A4 n1 n2 n3 n4 wr.drew :=
  ⟨bdrew h.bel, h.w1, h.w2, h.w3, h.w4, h.keep⟩

set_option maxHeartbeats 4000000 in
theorem own_law (d lost d' lost' : Int) (A A' : Option Addr) (c c' : Nat) (m m' : List Int) (x : Int) (w : World) (hr : (Kd.int .i64).C w A m.length m) (hc : m.length ≤ c) (hn : A = none → c = 0)
    (hr' : (Kd.int .i64).C w A' m'.length m') (hc' : m'.length ≤ c') (hn' : A' = none → c' = 0) :
    Calls Try.prog 7 #[.agg #[.int .i64 d, .slice A m.length c, .int .i64 lost], .agg #[.int .i64 d', .slice A' m'.length c', .int .i64 lost'], .int .i64 x] w fun e w' => e = .returned (.bool true) ∧ Below w.heap.size w w' := by
  have HR := Lib.hid hr
  have HR' := Lib.hid hr'
  have HN := Lib.hid hn
  have HN' := Lib.hid hn'
  have HC := Lib.hid hc
  have HC' := Lib.hid hc'
  clear hr hr' hn hn' hc hc'
  go_enter Try.func7, Try.ntmps7
  go_wp2_with fail
  refine (awake_any _).mono ?_
  rintro e w0 ⟨rfl, hb⟩
  have K0_a := Lib.hid (blk_below (two_blk w (.cells #[.int .i64 d, .slice A m.length c, .int .i64 lost] 24) (.cells #[.int .i64 d', .slice A' m'.length c', .int .i64 lost'] 24)).1 hb)
  have K0_b := Lib.hid (blk_below (two_blk w (.cells #[.int .i64 d, .slice A m.length c, .int .i64 lost] 24) (.cells #[.int .i64 d', .slice A' m'.length c', .int .i64 lost'] 24)).2 hb)
  have B0 := Lib.hid (btrans (balloc (balloc (Below.refl w.heap.size w) (.cells #[.int .i64 d, .slice A m.length c, .int .i64 lost] 24)) (.cells #[.int .i64 d', .slice A' m'.length c', .int .i64 lost'] 24)) hb)
  clear hb
  obtain ⟨p0_a0, p1_a0, p2_a0, z0_a0, z1_a0, z2_a0, l_a0⟩ := qf K0_a.out
  obtain ⟨p0_b0, p1_b0, p2_b0, z0_b0, z1_b0, z2_b0, l_b0⟩ := qf K0_b.out
  by_cases hin : m.length ≤ 60 ∧ m'.length ≤ 60
  · obtain ⟨i0, i1⟩ := hin
    have j0 : (m.length : Int) ≤ 60 := by omega
    have j1 : (m'.length : Int) ≤ 60 := by omega
    have HL6 : Hid (m.length ≤ 60 ∧ m'.length ≤ 60) := Lib.hid ⟨i0, i1⟩
    clear i0 i1
    go_upto_region 4 with fail
    go_cut [8] from 35 to 42 (fun s8 wx => ∃ A8 c8 q8, s8 = .pointer (some ⟨q8, 0, none⟩) ∧ Hid (wx.heap[q8]? = some (.cells #[.int .i64 d, .slice A8 m.length c8, .int .i64 lost] 24 (0, 0))) ∧
      Hid (Row wx w0.heap.size (.slice A8 m.length c8) m) ∧ Hid (Below w0.heap.size w0 wx) ∧ Hid (w0.heap.size ≤ q8 ∧ q8 < wx.heap.size))
    case first =>
      have hne : w.heap.size ≠ w0.heap.size := by omega
      go_region_held3 (fun w' => w'.cell? ⟨w.heap.size, 0, none⟩ = some (.int .i64 d) ∧ w'.cell? ⟨w.heap.size, 1, none⟩ = some (.slice A m.length c) ∧ w'.cell? ⟨w.heap.size, 2, none⟩ = some (.int .i64 lost))
        (first
          | exact ⟨‹_›, ‹_›, ‹_›⟩
          | exact ⟨(cell3_far hne _ _ _).trans ‹_›, (cell3_far hne _ _ _).trans ‹_›, (cell3_far hne _ _ _).trans ‹_›⟩
          | go_keep)
        (first
          | (refine appends_st rfl (.const (.slice none 0 0)) (.tmp 40) rfl (W := (w0.alloc (.cells #[.int .i64 0, .slice none 0 0, .int .i64 0] 24)).drew) (base := ((w0.alloc (.cells #[.int .i64 0, .slice none 0 0, .int .i64 0] 24)).drew).heap.size) (v := .slice none 0 0) (l := []) (A := A) (c := c) (ys := m) rfl (by simp [Act.eval, Act.put]) (Row.nil _ _) (Kd.C_below HR.out (btrans B0.out (bdrew (balloc (Below.refl _ _) _)))) (Nat.le_refl _) (by have := HL6.out; simp only [List.length_nil]; omega) ?_; intro v1 w1 ho hg hat; rw [List.nil_append] at ho; obtain ⟨A8, c8, rfl, k1, k2, k3⟩ := ho.slice; have hb := below_grown rfl hg; have HO := Lib.hid ho; have HB := Lib.hid hb; have hq : w0.heap.size < w1.heap.size := (Nat.lt_of_lt_of_le (by show _ < (w0.alloc _).heap.size; rw [alloc_size]; omega) hb.size); obtain ⟨y0, y1, y2, x0, x1, x2, yl⟩ := qf (blk_below (blk_drew (blk_new w0 (.cells #[.int .i64 0, .slice none 0 0, .int .i64 0] 24))) hb); obtain ⟨p0, p1, p2, z0, z1, z2, pl⟩ := qf (blk_below (blk_drew (blk_alloc K0_a.out (.cells #[.int .i64 0, .slice none 0 0, .int .i64 0] 24))) hb); clear ho hg hat hb)
          | (refine appends_st rfl (.const (.slice none 0 0)) (.tmp 40) rfl (W := w0.drew) (base := (w0.drew).heap.size) (v := .slice none 0 0) (l := []) (A := A) (c := c) (ys := m) rfl (by simp [Act.eval, Act.put]) (Row.nil _ _) (Kd.C_below HR.out (btrans B0.out (bdrew (Below.refl _ _)))) (Nat.le_refl _) (by have := HL6.out; simp only [List.length_nil]; omega) ?_; intro v1 w1 ho hg hat; rw [List.nil_append] at ho; obtain ⟨A8, c8, rfl, k1, k2, k3⟩ := ho.slice; have hb := below_grown rfl hg; have HO := Lib.hid ho; have HB := Lib.hid hb; have hq : w0.heap.size ≤ w1.heap.size := hb.size; obtain ⟨p0, p1, p2, z0, z1, z2, pl⟩ := qf (blk_below (blk_drew K0_a.out) hb); clear ho hg hat hb))
      all_goals
        go_wp2_with fail
        go_meet
        first
        | exact ⟨A8, c8, w1.heap.size, rfl, Lib.hid (blk_new w1 _), Lib.hid (HO.out.below (balloc (Below.refl _ _) _)), Lib.hid (balloc (btrans (bdrew (Below.refl w0.heap.size w0)) HB.out) _), Lib.hid ⟨hq, blk_lt (blk_new w1 _)⟩⟩
        | exact ⟨A8, c8, w0.heap.size, rfl, Lib.hid (blk_put (blk_put (blk_put (blk_below (blk_drew (blk_new w0 (.cells #[.int .i64 0, .slice none 0 0, .int .i64 0] 24))) HB.out) 0 _ rfl) 1 _ rfl) 2 _ rfl),
            Lib.hid ((HO.out.set3 (q := w0.heap.size) (fun b h => by have h1 := (HO.out.lt b h).1; have h2 : (w0.alloc (.cells #[.int .i64 0, .slice none 0 0, .int .i64 0] 24)).heap.size ≤ b := h1; rw [alloc_size] at h2; omega) _ _ _).lower (by show w0.heap.size ≤ (w0.alloc _).heap.size; rw [alloc_size]; omega)),
            Lib.hid (put3 (btrans (bdrew (balloc (Below.refl w0.heap.size w0) _)) HB.out) (Nat.le_refl _) _ _ _),
            Lib.hid ⟨Nat.le_refl _, blk_lt (blk_put (blk_put (blk_put (blk_below (blk_drew (blk_new w0 (.cells #[.int .i64 0, .slice none 0 0, .int .i64 0] 24))) HB.out) 0 _ rfl) 1 _ rfl) 2 _ rfl)⟩⟩
    case rest =>
    obtain ⟨A8, c8, q8, rfl, H8, HO8, HB8, HQ8⟩ := hcut
    have Kc_a := Lib.hid (blk_below K0_a.out HB8.out)
    have Kc_b := Lib.hid (blk_below K0_b.out HB8.out)
    have Bc := Lib.hid (btrans B0.out HB8.out)
    have hS := fun W h => send_any d lost x A c m W h HC.out HN.out (by have := HL6.out; omega)
    have hT := fun W h => take_any d lost A c m W h HC.out HN.out (by have := HL6.out; omega)
    have hM := fun W h h' => move_any d lost d' lost' A A' c c' m m' W h HC.out HN.out (by have := HL6.out; omega) h' HC'.out HN'.out (by have := HL6.out; omega)
    generalize sendL d m x = LS at *
    generalize sendN d m lost = nS at *
    generalize sendE d m = eS at *
    generalize takeL m = LT at *
    generalize takeE m = eT at *
    generalize takeV m = vT at *
    generalize m.drop (movN m m' d') = LX at *
    generalize m' ++ m.take (movN m m' d') = LY at *
    have HS := Lib.hid hS
    have HT := Lib.hid hT
    have HM := Lib.hid hM
    clear hS hT hM p0_a0 p1_a0 p2_a0 z0_a0 z1_a0 z2_a0 l_a0 p0_b0 p1_b0 p2_b0 z0_b0 z1_b0 z2_b0 l_b0
    obtain ⟨p0_a0, p1_a0, p2_a0, z0_a0, z1_a0, z2_a0, l_a0⟩ := qf Kc_a.out
    obtain ⟨p0_b0, p1_b0, p2_b0, z0_b0, z1_b0, z2_b0, l_b0⟩ := qf Kc_b.out
    obtain ⟨p0_o0, p1_o0, p2_o0, z0_o0, z1_o0, z2_o0, l_o0⟩ := qf H8.out
    go_wp2_with fail
    refine (HS.out _ (Kd.C_below HR.out Bc.out)).mono ?_
    rintro e w1 ⟨v, rfl, r1_0, hb⟩
    have r1_0 := r1_0.rd
    have T1_0 := Lib.hid (Rd.lt r1_0)
    have q0 := r1_0
    obtain ⟨A1_0, c1_0, rfl, g0, g1, g2, g3⟩ := q0
    have C1_0 : Hid (LS.length ≤ c1_0 ∧ (A1_0 = none → c1_0 = 0)) := Lib.hid ⟨g0, g1⟩
    clear g0 g1 g2 g3
    have K1_a := Lib.hid (blk_alloc (blk_below Kc_a.out hb) (.cells #[.int .i64 d, .slice A1_0 LS.length c1_0, .int .i64 nS] 24))
    have K1_b := Lib.hid (blk_alloc (blk_below Kc_b.out hb) (.cells #[.int .i64 d, .slice A1_0 LS.length c1_0, .int .i64 nS] 24))
    have K1_o := Lib.hid (blk_alloc (blk_below H8.out hb) (.cells #[.int .i64 d, .slice A1_0 LS.length c1_0, .int .i64 nS] 24))
    have K1_x := Lib.hid (blk_new w1 (.cells #[.int .i64 d, .slice A1_0 LS.length c1_0, .int .i64 nS] 24))
    have R1_o := Lib.hid ((HO8.out.below hb).below (balloc (Below.refl w1.heap.size w1) (.cells #[.int .i64 d, .slice A1_0 LS.length c1_0, .int .i64 nS] 24)))
    have R1_x := Lib.hid (r1_0.below (balloc (Below.refl w1.heap.size w1) (.cells #[.int .i64 d, .slice A1_0 LS.length c1_0, .int .i64 nS] 24)))
    have S1 := Lib.hid hb.size
    have B1 := Lib.hid (balloc (btrans Bc.out hb) (.cells #[.int .i64 d, .slice A1_0 LS.length c1_0, .int .i64 nS] 24))
    clear hb r1_0
    clear p0_a0 p1_a0 p2_a0 z0_a0 z1_a0 z2_a0 l_a0 p0_b0 p1_b0 p2_b0 z0_b0 z1_b0 z2_b0 l_b0 p0_o0 p1_o0 p2_o0 z0_o0 z1_o0 z2_o0 l_o0
    go_upto_region 6 with fail
    generalize World.alloc w1 (.cells #[.int .i64 d, .slice A1_0 LS.length c1_0, .int .i64 nS] 24) = W1 at *
    obtain ⟨p0_a1, p1_a1, p2_a1, z0_a1, z1_a1, z2_a1, l_a1⟩ := qf K1_a.out
    obtain ⟨p0_b1, p1_b1, p2_b1, z0_b1, z1_b1, z2_b1, l_b1⟩ := qf K1_b.out
    obtain ⟨p0_o1, p1_o1, p2_o1, z0_o1, z1_o1, z2_o1, l_o1⟩ := qf K1_o.out
    obtain ⟨p0_x1, p1_x1, p2_x1, z0_x1, z1_x1, z2_x1, l_x1⟩ := qf K1_x.out
    go_wp2_with fail
    refine (HT.out _ (Kd.C_below HR.out B1.out)).mono ?_
    rintro e w2 ⟨v, rfl, r2_0, hb⟩
    have T2_0 := Lib.hid (Rd.lt r2_0)
    have q0 := r2_0
    obtain ⟨A2_0, c2_0, rfl, g0, g1, g2, g3⟩ := q0
    have C2_0 : Hid (LT.length ≤ c2_0 ∧ (A2_0 = none → c2_0 = 0)) := Lib.hid ⟨g0, g1⟩
    clear g0 g1 g2 g3
    have K2_a := Lib.hid (blk_alloc (blk_below K1_a.out hb) (.cells #[.int .i64 d, .slice A2_0 LT.length c2_0, .int .i64 lost] 24))
    have K2_b := Lib.hid (blk_alloc (blk_below K1_b.out hb) (.cells #[.int .i64 d, .slice A2_0 LT.length c2_0, .int .i64 lost] 24))
    have K2_o := Lib.hid (blk_alloc (blk_below K1_o.out hb) (.cells #[.int .i64 d, .slice A2_0 LT.length c2_0, .int .i64 lost] 24))
    have K2_x := Lib.hid (blk_alloc (blk_below K1_x.out hb) (.cells #[.int .i64 d, .slice A2_0 LT.length c2_0, .int .i64 lost] 24))
    have K2_y := Lib.hid (blk_new w2 (.cells #[.int .i64 d, .slice A2_0 LT.length c2_0, .int .i64 lost] 24))
    have R2_o := Lib.hid ((R1_o.out.below hb).below (balloc (Below.refl w2.heap.size w2) (.cells #[.int .i64 d, .slice A2_0 LT.length c2_0, .int .i64 lost] 24)))
    have R2_x := Lib.hid ((R1_x.out.below hb).below (balloc (Below.refl w2.heap.size w2) (.cells #[.int .i64 d, .slice A2_0 LT.length c2_0, .int .i64 lost] 24)))
    have R2_y := Lib.hid (r2_0.below (balloc (Below.refl w2.heap.size w2) (.cells #[.int .i64 d, .slice A2_0 LT.length c2_0, .int .i64 lost] 24)))
    have S2 := Lib.hid hb.size
    have B2 := Lib.hid (balloc (btrans B1.out hb) (.cells #[.int .i64 d, .slice A2_0 LT.length c2_0, .int .i64 lost] 24))
    clear hb r2_0
    clear p0_a1 p1_a1 p2_a1 z0_a1 z1_a1 z2_a1 l_a1 p0_b1 p1_b1 p2_b1 z0_b1 z1_b1 z2_b1 l_b1 p0_o1 p1_o1 p2_o1 z0_o1 z1_o1 z2_o1 l_o1 p0_x1 p1_x1 p2_x1 z0_x1 z1_x1 z2_x1 l_x1
    go_upto_region 7 with fail
    generalize World.alloc w2 (.cells #[.int .i64 d, .slice A2_0 LT.length c2_0, .int .i64 lost] 24) = W2 at *
    obtain ⟨p0_a2, p1_a2, p2_a2, z0_a2, z1_a2, z2_a2, l_a2⟩ := qf K2_a.out
    obtain ⟨p0_b2, p1_b2, p2_b2, z0_b2, z1_b2, z2_b2, l_b2⟩ := qf K2_b.out
    obtain ⟨p0_o2, p1_o2, p2_o2, z0_o2, z1_o2, z2_o2, l_o2⟩ := qf K2_o.out
    obtain ⟨p0_x2, p1_x2, p2_x2, z0_x2, z1_x2, z2_x2, l_x2⟩ := qf K2_x.out
    obtain ⟨p0_y2, p1_y2, p2_y2, z0_y2, z1_y2, z2_y2, l_y2⟩ := qf K2_y.out
    go_wp2_with fail
    refine (HM.out _ (Kd.C_below HR.out B2.out) (Kd.C_below HR'.out B2.out)).mono ?_
    rintro e w3 ⟨v, v', rfl, r3_0, r3_1, hb⟩
    have T3_0 := Lib.hid (Rd.lt r3_0)
    have q0 := r3_0
    obtain ⟨A3_0, c3_0, rfl, g0, g1, g2, g3⟩ := q0
    have C3_0 : Hid (LX.length ≤ c3_0 ∧ (A3_0 = none → c3_0 = 0)) := Lib.hid ⟨g0, g1⟩
    clear g0 g1 g2 g3
    have T3_1 := Lib.hid (Rd.lt r3_1)
    have q1 := r3_1
    obtain ⟨A3_1, c3_1, rfl, g0, g1, g2, g3⟩ := q1
    have C3_1 : Hid (LY.length ≤ c3_1 ∧ (A3_1 = none → c3_1 = 0)) := Lib.hid ⟨g0, g1⟩
    clear g0 g1 g2 g3
    have K3_a := Lib.hid (blk_alloc (blk_alloc (blk_below K2_a.out hb) (.cells #[.int .i64 d, .slice A3_0 LX.length c3_0, .int .i64 lost] 24)) (.cells #[.int .i64 d', .slice A3_1 LY.length c3_1, .int .i64 lost'] 24))
    have K3_b := Lib.hid (blk_alloc (blk_alloc (blk_below K2_b.out hb) (.cells #[.int .i64 d, .slice A3_0 LX.length c3_0, .int .i64 lost] 24)) (.cells #[.int .i64 d', .slice A3_1 LY.length c3_1, .int .i64 lost'] 24))
    have K3_o := Lib.hid (blk_alloc (blk_alloc (blk_below K2_o.out hb) (.cells #[.int .i64 d, .slice A3_0 LX.length c3_0, .int .i64 lost] 24)) (.cells #[.int .i64 d', .slice A3_1 LY.length c3_1, .int .i64 lost'] 24))
    have K3_x := Lib.hid (blk_alloc (blk_alloc (blk_below K2_x.out hb) (.cells #[.int .i64 d, .slice A3_0 LX.length c3_0, .int .i64 lost] 24)) (.cells #[.int .i64 d', .slice A3_1 LY.length c3_1, .int .i64 lost'] 24))
    have K3_y := Lib.hid (blk_alloc (blk_alloc (blk_below K2_y.out hb) (.cells #[.int .i64 d, .slice A3_0 LX.length c3_0, .int .i64 lost] 24)) (.cells #[.int .i64 d', .slice A3_1 LY.length c3_1, .int .i64 lost'] 24))
    have K3_z := Lib.hid (two_blk w3 (.cells #[.int .i64 d, .slice A3_0 LX.length c3_0, .int .i64 lost] 24) (.cells #[.int .i64 d', .slice A3_1 LY.length c3_1, .int .i64 lost'] 24)).1
    have K3_w := Lib.hid (two_blk w3 (.cells #[.int .i64 d, .slice A3_0 LX.length c3_0, .int .i64 lost] 24) (.cells #[.int .i64 d', .slice A3_1 LY.length c3_1, .int .i64 lost'] 24)).2
    have R3_o := Lib.hid ((R2_o.out.below hb).below (balloc (balloc (Below.refl w3.heap.size w3) (.cells #[.int .i64 d, .slice A3_0 LX.length c3_0, .int .i64 lost] 24)) (.cells #[.int .i64 d', .slice A3_1 LY.length c3_1, .int .i64 lost'] 24)))
    have R3_x := Lib.hid ((R2_x.out.below hb).below (balloc (balloc (Below.refl w3.heap.size w3) (.cells #[.int .i64 d, .slice A3_0 LX.length c3_0, .int .i64 lost] 24)) (.cells #[.int .i64 d', .slice A3_1 LY.length c3_1, .int .i64 lost'] 24)))
    have R3_y := Lib.hid ((R2_y.out.below hb).below (balloc (balloc (Below.refl w3.heap.size w3) (.cells #[.int .i64 d, .slice A3_0 LX.length c3_0, .int .i64 lost] 24)) (.cells #[.int .i64 d', .slice A3_1 LY.length c3_1, .int .i64 lost'] 24)))
    have R3_z := Lib.hid (r3_0.below (balloc (balloc (Below.refl w3.heap.size w3) (.cells #[.int .i64 d, .slice A3_0 LX.length c3_0, .int .i64 lost] 24)) (.cells #[.int .i64 d', .slice A3_1 LY.length c3_1, .int .i64 lost'] 24)))
    have R3_w := Lib.hid (r3_1.below (balloc (balloc (Below.refl w3.heap.size w3) (.cells #[.int .i64 d, .slice A3_0 LX.length c3_0, .int .i64 lost] 24)) (.cells #[.int .i64 d', .slice A3_1 LY.length c3_1, .int .i64 lost'] 24)))
    have S3 := Lib.hid hb.size
    have B3 := Lib.hid (balloc (balloc (btrans B2.out hb) (.cells #[.int .i64 d, .slice A3_0 LX.length c3_0, .int .i64 lost] 24)) (.cells #[.int .i64 d', .slice A3_1 LY.length c3_1, .int .i64 lost'] 24))
    clear hb r3_0 r3_1
    clear p0_a2 p1_a2 p2_a2 z0_a2 z1_a2 z2_a2 l_a2 p0_b2 p1_b2 p2_b2 z0_b2 z1_b2 z2_b2 l_b2 p0_o2 p1_o2 p2_o2 z0_o2 z1_o2 z2_o2 l_o2 p0_x2 p1_x2 p2_x2 z0_x2 z1_x2 z2_x2 l_x2 p0_y2 p1_y2 p2_y2 z0_y2 z1_y2 z2_y2 l_y2
    go_upto_region 8 with fail
    generalize World.alloc (World.alloc w3 (.cells #[.int .i64 d, .slice A3_0 LX.length c3_0, .int .i64 lost] 24)) (.cells #[.int .i64 d', .slice A3_1 LY.length c3_1, .int .i64 lost'] 24) = W3 at *
    obtain ⟨p0_a3, p1_a3, p2_a3, z0_a3, z1_a3, z2_a3, l_a3⟩ := qf K3_a.out
    obtain ⟨p0_b3, p1_b3, p2_b3, z0_b3, z1_b3, z2_b3, l_b3⟩ := qf K3_b.out
    obtain ⟨p0_o3, p1_o3, p2_o3, z0_o3, z1_o3, z2_o3, l_o3⟩ := qf K3_o.out
    obtain ⟨p0_x3, p1_x3, p2_x3, z0_x3, z1_x3, z2_x3, l_x3⟩ := qf K3_x.out
    obtain ⟨p0_y3, p1_y3, p2_y3, z0_y3, z1_y3, z2_y3, l_y3⟩ := qf K3_y.out
    obtain ⟨p0_z3, p1_z3, p2_z3, z0_z3, z1_z3, z2_z3, l_z3⟩ := qf K3_z.out
    obtain ⟨p0_w3, p1_w3, p2_w3, z0_w3, z1_w3, z2_w3, l_w3⟩ := qf K3_w.out
    go_wp2_with fail
    have SZ : Hid (w.heap.size + 1 < wc.heap.size ∧ q8 < wc.heap.size ∧ wc.heap.size ≤ w1.heap.size ∧ w1.heap.size < W1.heap.size ∧ W1.heap.size ≤ w2.heap.size ∧ w2.heap.size < W2.heap.size ∧ W2.heap.size ≤ w3.heap.size ∧ w3.heap.size + 1 < W3.heap.size) :=
      Lib.hid ⟨blk_lt Kc_b.out, HQ8.out.2, S1.out, blk_lt K1_x.out, S2.out, blk_lt K2_y.out, S3.out, blk_lt K3_w.out⟩
    have HLB := Lib.hid (blk_new W3 (.cells #[.slice A1_0 LS.length c1_0, .slice A2_0 LT.length c2_0, .slice A3_0 LX.length c3_0, .slice A3_1 LY.length c3_1] 22))
    have hal := balloc (Below.refl W3.heap.size W3) (.cells #[.slice A1_0 LS.length c1_0, .slice A2_0 LT.length c2_0, .slice A3_0 LX.length c3_0, .slice A3_1 LY.length c3_1] 22)
    have E_A1_0 := Lib.hid (R3_x.out.below hal)
    have E_A2_0 := Lib.hid (R3_y.out.below hal)
    have E_A3_0 := Lib.hid (R3_z.out.below hal)
    have E_A3_1 := Lib.hid (R3_w.out.below hal)
    have E_o := Lib.hid (R3_o.out.below hal)
    have E_q := Lib.hid (Kd.C_below HR.out (btrans B3.out hal))
    have G_a := Lib.hid (blk_below K3_a.out hal)
    have G_o := Lib.hid (blk_below K3_o.out hal)
    have G_x := Lib.hid (blk_below K3_x.out hal)
    have BL := Lib.hid (btrans B3.out hal)
    have N_A1_0 : Hid (∀ ad, A1_0 = some ad → w.heap.size ≤ ad.block ∧ ∀ k, (k < wc.heap.size ∨ k = w1.heap.size ∨ k = W3.heap.size) → k ≠ ad.block) := Lib.hid (fun ad ha => by have h1 := T1_0.out ad.block (by rw [ha]; rfl); have h2 := SZ.out; exact ⟨by omega, fun k hk => by omega⟩)
    have N_A2_0 : Hid (∀ ad, A2_0 = some ad → w.heap.size ≤ ad.block ∧ ∀ k, (k < wc.heap.size ∨ k = w1.heap.size ∨ k = W3.heap.size) → k ≠ ad.block) := Lib.hid (fun ad ha => by have h1 := T2_0.out ad.block (by rw [ha]; rfl); have h2 := SZ.out; exact ⟨by omega, fun k hk => by omega⟩)
    have N_A3_0 : Hid (∀ ad, A3_0 = some ad → w.heap.size ≤ ad.block ∧ ∀ k, (k < wc.heap.size ∨ k = w1.heap.size ∨ k = W3.heap.size) → k ≠ ad.block) := Lib.hid (fun ad ha => by have h1 := T3_0.out ad.block (by rw [ha]; rfl); have h2 := SZ.out; exact ⟨by omega, fun k hk => by omega⟩)
    have N_A3_1 : Hid (∀ ad, A3_1 = some ad → w.heap.size ≤ ad.block ∧ ∀ k, (k < wc.heap.size ∨ k = w1.heap.size ∨ k = W3.heap.size) → k ≠ ad.block) := Lib.hid (fun ad ha => by have h1 := T3_1.out ad.block (by rw [ha]; rfl); have h2 := SZ.out; exact ⟨by omega, fun k hk => by omega⟩)
    have HOI : Hid (OI w (W3.alloc (.cells #[.slice A1_0 LS.length c1_0, .slice A2_0 LT.length c2_0, .slice A3_0 LX.length c3_0, .slice A3_1 LY.length c3_1] 22)) (fun g => g < wc.heap.size ∨ g = w1.heap.size ∨ g = W3.heap.size) A1_0 A2_0 A3_0 A3_1 LS.length LT.length LX.length LY.length (W3.alloc (.cells #[.slice A1_0 LS.length c1_0, .slice A2_0 LT.length c2_0, .slice A3_0 LX.length c3_0, .slice A3_1 LY.length c3_1] 22))) := Lib.hid ⟨BL.out, Wr.of_Rd E_A1_0.out, Wr.of_Rd E_A2_0.out, Wr.of_Rd E_A3_0.out, Wr.of_Rd E_A3_1.out, fun _ _ => rfl⟩
    clear hal p0_a3 p1_a3 p2_a3 z0_a3 z1_a3 z2_a3 l_a3 p0_b3 p1_b3 p2_b3 z0_b3 z1_b3 z2_b3 l_b3 p0_o3 p1_o3 p2_o3 z0_o3 z1_o3 z2_o3 l_o3 p0_x3 p1_x3 p2_x3 z0_x3 z1_x3 z2_x3 l_x3 p0_y3 p1_y3 p2_y3 z0_y3 z1_y3 z2_y3 l_y3 p0_z3 p1_z3 p2_z3 z0_z3 z1_z3 z2_z3 l_z3 p0_w3 p1_w3 p2_w3 z0_w3 z1_w3 z2_w3 l_w3
    generalize W3.alloc (.cells #[.slice A1_0 LS.length c1_0, .slice A2_0 LT.length c2_0, .slice A3_0 LX.length c3_0, .slice A3_1 LY.length c3_1] 22) = WL at *
    go_loopw [17] (fun i wr_ => ∃ k : Int, 0 ≤ k ∧ k ≤ 4 ∧ i = .int .i64 k ∧ Hid (OI w WL (fun g => g < wc.heap.size ∨ g = w1.heap.size ∨ g = W3.heap.size) A1_0 A2_0 A3_0 A3_1 LS.length LT.length LX.length LY.length wr_)) (fun i _ => 4 - (intOf i).toNat)
    case atStart => exact ⟨0, by omega, by omega, rfl, HOI⟩
    case round =>
      clear HOI
      obtain ⟨k, hk0, hk4, rfl, HOI⟩ := hrel
      have hLB := (HOI.out.keep _ (.inr (.inr rfl))).trans HLB.out
      have cc0 : wr.cell? ⟨W3.heap.size, 0, none⟩ = some (.slice A1_0 LS.length c1_0) := (blk_cell hLB 0).trans rfl
      have cc1 : wr.cell? ⟨W3.heap.size, 1, none⟩ = some (.slice A2_0 LT.length c2_0) := (blk_cell hLB 1).trans rfl
      have cc2 : wr.cell? ⟨W3.heap.size, 2, none⟩ = some (.slice A3_0 LX.length c3_0) := (blk_cell hLB 2).trans rfl
      have cc3 : wr.cell? ⟨W3.heap.size, 3, none⟩ = some (.slice A3_1 LY.length c3_1) := (blk_cell hLB 3).trans rfl
      have ccl := blk_lt hLB
      clear hLB
      rcases (show k = 0 ∨ k = 1 ∨ k = 2 ∨ k = 3 ∨ k = 4 by omega) with rfl | rfl | rfl | rfl | rfl
      · by_cases hz : LS.length = 0
        · have hz0 : (LS.length : Int) ≤ 0 := by omega
          go_wp2_with fail
          exact ⟨⟨1, by omega, by omega, rfl, HOI⟩, by simp [intOf]⟩
        · obtain ⟨ad, rfl, _⟩ := at_nat E_A1_0.out.C 0 (by omega)
          obtain ⟨hs, cur, v, hcur, hv⟩ := HOI.out.w1 ad rfl (by omega)
          obtain ⟨hnw, hnp⟩ := N_A1_0.out ad rfl
          obtain ⟨gb, o, sp⟩ := ad
          simp only at hs hcur hv hnw hnp
          subst hs
          have cv : wr.cell? ⟨gb, o, none⟩ = some (.int .i64 v) := (blk_cell hcur o).trans hv
          have fv := blk_frozen hcur o
          have lv := blk_lt hcur
          have hset := Lib.hid (HOI.out.set hcur hv hnw hnp)
          have hz0 : (0 : Int) < (LS.length : Int) := by omega
          clear hcur hv hnw hnp hz
          go_upto_region 13 with fail
          go_region
          go_wp2_with fail
          exact ⟨⟨1, by omega, by omega, rfl, Lib.hid (hset.out _).drew⟩, by simp [intOf]⟩
      · by_cases hz : LT.length = 0
        · have hz0 : (LT.length : Int) ≤ 0 := by omega
          go_wp2_with fail
          exact ⟨⟨2, by omega, by omega, rfl, HOI⟩, by simp [intOf]⟩
        · obtain ⟨ad, rfl, _⟩ := at_nat E_A2_0.out.C 0 (by omega)
          obtain ⟨hs, cur, v, hcur, hv⟩ := HOI.out.w2 ad rfl (by omega)
          obtain ⟨hnw, hnp⟩ := N_A2_0.out ad rfl
          obtain ⟨gb, o, sp⟩ := ad
          simp only at hs hcur hv hnw hnp
          subst hs
          have cv : wr.cell? ⟨gb, o, none⟩ = some (.int .i64 v) := (blk_cell hcur o).trans hv
          have fv := blk_frozen hcur o
          have lv := blk_lt hcur
          have hset := Lib.hid (HOI.out.set hcur hv hnw hnp)
          have hz0 : (0 : Int) < (LT.length : Int) := by omega
          clear hcur hv hnw hnp hz
          go_upto_region 13 with fail
          go_region
          go_wp2_with fail
          exact ⟨⟨2, by omega, by omega, rfl, Lib.hid (hset.out _).drew⟩, by simp [intOf]⟩
      · by_cases hz : LX.length = 0
        · have hz0 : (LX.length : Int) ≤ 0 := by omega
          go_wp2_with fail
          exact ⟨⟨3, by omega, by omega, rfl, HOI⟩, by simp [intOf]⟩
        · obtain ⟨ad, rfl, _⟩ := at_nat E_A3_0.out.C 0 (by omega)
          obtain ⟨hs, cur, v, hcur, hv⟩ := HOI.out.w3 ad rfl (by omega)
          obtain ⟨hnw, hnp⟩ := N_A3_0.out ad rfl
          obtain ⟨gb, o, sp⟩ := ad
          simp only at hs hcur hv hnw hnp
          subst hs
          have cv : wr.cell? ⟨gb, o, none⟩ = some (.int .i64 v) := (blk_cell hcur o).trans hv
          have fv := blk_frozen hcur o
          have lv := blk_lt hcur
          have hset := Lib.hid (HOI.out.set hcur hv hnw hnp)
          have hz0 : (0 : Int) < (LX.length : Int) := by omega
          clear hcur hv hnw hnp hz
          go_upto_region 13 with fail
          go_region
          go_wp2_with fail
          exact ⟨⟨3, by omega, by omega, rfl, Lib.hid (hset.out _).drew⟩, by simp [intOf]⟩
      · by_cases hz : LY.length = 0
        · have hz0 : (LY.length : Int) ≤ 0 := by omega
          go_wp2_with fail
          exact ⟨⟨4, by omega, by omega, rfl, HOI⟩, by simp [intOf]⟩
        · obtain ⟨ad, rfl, _⟩ := at_nat E_A3_1.out.C 0 (by omega)
          obtain ⟨hs, cur, v, hcur, hv⟩ := HOI.out.w4 ad rfl (by omega)
          obtain ⟨hnw, hnp⟩ := N_A3_1.out ad rfl
          obtain ⟨gb, o, sp⟩ := ad
          simp only at hs hcur hv hnw hnp
          subst hs
          have cv : wr.cell? ⟨gb, o, none⟩ = some (.int .i64 v) := (blk_cell hcur o).trans hv
          have fv := blk_frozen hcur o
          have lv := blk_lt hcur
          have hset := Lib.hid (HOI.out.set hcur hv hnw hnp)
          have hz0 : (0 : Int) < (LY.length : Int) := by omega
          clear hcur hv hnw hnp hz
          go_upto_region 13 with fail
          go_region
          go_wp2_with fail
          exact ⟨⟨4, by omega, by omega, rfl, Lib.hid (hset.out _).drew⟩, by simp [intOf]⟩
      · obtain ⟨p0, p1, p2, z0, z1, z2, pl⟩ := qf ((HOI.out.keep _ (.inl (by have := SZ.out; omega))).trans G_a.out)
        obtain ⟨y0, y1, y2, x0, x1, x2, yl⟩ := qf ((HOI.out.keep _ (.inl (by have := SZ.out; omega))).trans G_o.out)
        have hCq := C_move' E_q.out (w1 := wr) (fun ad ha hp => HOI.out.keep _ (.inl (by have h1 := C_lt (ha ▸ HR.out) hp; have := SZ.out; omega)))
        have hCo := C_move' E_o.out.C (w1 := wr) (fun ad ha hp => HOI.out.keep _ (.inl (by have h1 := (HO8.out.lt ad.block (by rw [ha]; rfl)).2; exact h1)))
        have hSame := Lib.hid (same18_any d lost A A8 c c8 m wr hCq hCo (by have := HL6.out; omega))
        have K5_a := Lib.hid ((HOI.out.keep _ (.inl (by have := SZ.out; omega))).trans G_a.out)
        have K5_x := Lib.hid ((HOI.out.keep _ (.inr (.inl rfl))).trans G_x.out)
        clear hCq hCo cc0 cc1 cc2 cc3 ccl
        go_wp2_with fail
        refine hSame.out.mono ?_
        rintro e w5 ⟨rfl, hb⟩
        clear p0 p1 p2 z0 z1 z2 pl y0 y1 y2 x0 x1 x2 yl
        obtain ⟨p0, p1, p2, z0, z1, z2, pl⟩ := qf (blk_below K5_a.out hb)
        obtain ⟨y0, y1, y2, x0, x1, x2, yl⟩ := qf (blk_below K5_x.out hb)
        have HB5 := Lib.hid (btrans HOI.out.bel hb)
        have hdd : (d == d) = true := by simp
        clear hb
        go_wp2_with fail
        go_ret
        exact ⟨rfl, HB5.out⟩
  · by_cases h0 : m.length ≤ 60
    · have j0 : (m.length : Int) ≤ 60 := by omega
      have j1 : (60 : Int) < (m'.length : Int) := by omega
      go_wp2_with fail
      go_ret
      exact ⟨rfl, B0.out⟩
    · have j0 : (60 : Int) < (m.length : Int) := by omega
      go_wp2_with fail
      go_ret
      exact ⟨rfl, B0.out⟩
end Go.Proofs.Ytfeifmjihdfadaa.PortO

/-
  The law function PortsOrder, walked: it answers true. Conditions: the operations lie in memory as told.
-/
import Derived.Test.YtfeifmjihdfadaaPortP
import Derived.Deep.RegionHeld3
import Derived.Deep.CutRange
namespace Go.Proofs.Ytfeifmjihdfadaa.PortR
set_option maxRecDepth 100000
set_option linter.unusedVariables false
set_option linter.unusedSimpArgs false
open Go.RowKit Go.Proofs.YtfeifmjihdfadaaW.PrintWords Go.Proofs.YtfeifmjihdfadaaW.PrintMore Go.Proofs.Ytfeifmjihdfadaa.Port Go.Proofs.Ytfeifmjihdfadaa.PArgs

theorem opsAt_below {w w1 : World} {A : Option Addr} {xs : List (Int × Int)} (h : OpsAt w A xs) (hb : Below w.heap.size w w1) : OpsAt w1 A xs :=
  ⟨h.1, fun hn => by
    obtain ⟨ad, e, hc⟩ := h.2 hn
    exact ⟨ad, e, fun i x hx => ⟨bcell hb (hc i x hx).1, bcell hb (hc i x hx).2⟩⟩⟩

theorem op_at {w W : World} {ad : Addr} {l : List (Int × Int)} {k : Nat} {kd x : Int} (h : OpsAt w (some ad) l) (hb : Below w.heap.size w W) (hk : l[k]? = some (kd, x)) :
    W.cell? (ad.add (k * 2)) = some (.int .i64 kd) ∧ W.cell? ⟨(ad.add (k * 2)).block, (ad.add (k * 2)).off + 1, none⟩ = some (.int .i64 x) := by
  obtain ⟨ad', he, hc⟩ := (opsAt_below h hb).2 (by have := (List.getElem?_eq_some_iff.1 hk).1; omega)
  injection he with he
  subst he
  exact hc k (kd, x) hk
theorem cell3_far {W : World} {q g : Nat} (h : q ≠ g) (a b c : Value) {i : Nat} : (((W.setCell ⟨g, 0, none⟩ a).setCell ⟨g, 1, none⟩ b).setCell ⟨g, 2, none⟩ c).cell? ⟨q, i, none⟩ = W.cell? ⟨q, i, none⟩ :=
  World.cell?_of_block ((Below.heap_setCell _ ⟨g, 2, none⟩ c q h).trans ((Below.heap_setCell _ ⟨g, 1, none⟩ b q h).trans (Below.heap_setCell _ ⟨g, 0, none⟩ a q h)))
theorem keep_old {W w1 : World} (hb : Below W.heap.size W w1) {a1 a2 a3 a4 : Addr} {v1 v2 v3 v4 : Value} (h1 : W.cell? a1 = some v1) (h2 : W.cell? a2 = some v2) (h3 : W.cell? a3 = some v3) (h4 : W.cell? a4 = some v4) :
    w1.cell? a1 = some v1 ∧ w1.cell? a2 = some v2 ∧ w1.cell? a3 = some v3 ∧ w1.cell? a4 = some v4 := ⟨bcell hb h1, bcell hb h2, bcell hb h3, bcell hb h4⟩
theorem zblk {wr w1 : World} (hb : Below (wr.alloc (.cells #[.int .i64 0, .slice none 0 0, .int .i64 0] 24)).drew.heap.size (wr.alloc (.cells #[.int .i64 0, .slice none 0 0, .int .i64 0] 24)).drew w1) : w1.heap[wr.heap.size]? = some (.cells #[.int .i64 0, .slice none 0 0, .int .i64 0] 24 (0, 0)) :=
  blk_below (blk_drew (blk_new wr (.cells #[.int .i64 0, .slice none 0 0, .int .i64 0] 24))) hb
set_option maxHeartbeats 4000000 in
theorem order_any (a b : Int) (A : Option Addr) (c : Nat) (l : List (Int × Int)) (w : World) (hr : OpsAt w A l) :
    Calls Try.prog 6 #[.int .i64 a, .int .i64 b, .slice A l.length c] w fun e w' => e = .returned (.bool true) ∧ Below w.heap.size w w' := by
  have HR := Lib.hid hr
  clear hr
  go_enter Try.func6, Try.ntmps6
  go_wp2_with fail
  refine (awake_any _).mono ?_
  rintro e w0 ⟨rfl, hb⟩
  have B0 := Lib.hid hb
  clear hb
  by_cases hin : l.length ≤ 100 ∧ 0 ≤ a ∧ a ≤ 8 ∧ 0 ≤ b ∧ b ≤ 8
  · obtain ⟨i0, i1, i2, i3, i4⟩ := hin
    have j0 : (l.length : Int) ≤ 100 := by omega
    have hB := balloc (balloc B0.out (.cells #[.int .i64 a, .slice none 0 0, .int .i64 0] 24)) (.cells #[.int .i64 b, .slice none 0 0, .int .i64 0] 24)
    have hP : PMem w w0.heap.size a b ((w0.alloc (.cells #[.int .i64 a, .slice none 0 0, .int .i64 0] 24)).alloc (.cells #[.int .i64 b, .slice none 0 0, .int .i64 0] 24)) [] [] [] [] 0 (.slice none 0 0) (.slice none 0 0) (.slice none 0 0) (.slice none 0 0) :=
      ⟨(two_blk w0 _ _).1, (two_blk w0 _ _).2, (Row.nil _ _).rd, (Row.nil _ _).rd, Row.nil _ _, Row.nil _ _, fun k hk => (by cases hk), fun k hk => (by cases hk), hB, B0.out.size⟩
    have hL : PList a b 0 [] [] [] [] 0 := ⟨rfl, by simpa using i1, by simpa using i3, Int.le_refl _, Int.le_refl _, Nat.le_refl _⟩
    have HP := Lib.hid hP
    have HL := Lib.hid hL
    clear hP hL hB
    go_wp2_with fail
    generalize (w0.alloc (.cells #[.int .i64 a, .slice none 0 0, .int .i64 0] 24)).alloc (.cells #[.int .i64 b, .slice none 0 0, .int .i64 0] 24) = W0 at *
    go_loopw [10, 11, 12, 13] (fun lo vi vo i wr_ => ∃ (k : Nat) (F T I O : List Int) (lost : Int) (AF AT AI AO : Option Addr) (cF cT cI cO : Nat), i = .int .i64 ((k : Nat) : Int) ∧ lo = .int .i64 lost ∧ vi = .slice AI I.length cI ∧ vo = .slice AO O.length cO ∧ k ≤ l.length ∧
      Hid (PMem w w0.heap.size a b wr_ F T I O lost (.slice AF F.length cF) (.slice AT T.length cT) (.slice AI I.length cI) (.slice AO O.length cO)) ∧ Hid (PList a b k F T I O lost)) (fun _ _ _ i _ => l.length - (intOf i).toNat)
    case atStart => exact ⟨0, [], [], [], [], 0, none, none, none, none, 0, 0, 0, 0, rfl, rfl, rfl, rfl, Nat.zero_le _, HP, HL⟩
    case round =>
      clear HP HL
      obtain ⟨k, F, T, I, O, lost, AF, AT, AI, AO, cF, cT, cI, cO, rfl, rfl, rfl, rfl, hk, HP, HL⟩ := hrel
      obtain ⟨p0, p1, p2, z0, z1, z2, pl⟩ := qf HP.out.b0
      obtain ⟨y0, y1, y2, x0, x1, x2, yl⟩ := qf HP.out.b1
      by_cases hlt : k < l.length
      · obtain ⟨ad, rfl, hops⟩ := (opsAt_below HR.out HP.out.bel).2 (by omega)
        obtain ⟨o, ho⟩ : ∃ o, l[k]? = some o := ⟨l[k], List.getElem?_eq_getElem hlt⟩
        obtain ⟨e0, e1⟩ := hops k o ho
        obtain ⟨kd, x⟩ := o
        simp only at e0 e1
        have HKX := Lib.hid ho
        clear hops ho
        have hlt' : (k : Int) < (l.length : Int) := by omega
        have hnn : (0 : Int) ≤ (k : Int) := by omega
        have hbl := World.block_lt_of_cell? _ _ e0
        have HX := Lib.hid hlt
        have hFl := HL.out.small (by omega)
        have HFL := Lib.hid hFl
        by_cases hk0 : kd = 0
        · subst hk0
          have hcall := fun W h => send_any a lost x AF cF F W h
          obtain ⟨A_, c_, he, g0, g1, g2, g3⟩ := HP.out.f
          injection he with he1 he2 he3
          subst he1 he3
          have HCall := Lib.hid (fun W (hb : Below wr.heap.size wr W) => hcall W (Kd.C_below g2 hb) g0 g1 (by omega))
          clear hcall g0 g1 g2 g3 he2
          generalize hF' : sendL a F x = F' at *
          generalize hlo' : sendN a F lost = lo' at *
          generalize hE : sendE a F = E at *
          have HE := Lib.hid (And.intro hF' (And.intro hlo' hE))
          clear hF' hlo' hE hFl
          go_upto_region 17 with fail
          go_cut [14, 15] from 51 to 127 (fun s14 s15 wx => ∃ A3 c3 q3, s14 = .pointer (some ⟨q3, 0, none⟩) ∧ s15 = .int .i64 E ∧ Hid (wx.heap[q3]? = some (.cells #[.int .i64 a, .slice A3 F'.length c3, .int .i64 lo'] 24 (0, 0))) ∧
            Hid (Row wx wr.heap.size (.slice A3 F'.length c3) F') ∧ Hid (Below wr.heap.size wr wx) ∧ Hid (wr.heap.size ≤ q3))
          case first =>
            have hne : w0.heap.size ≠ wr.heap.size := by omega
            have hne2 : (ad.add (k * 2)).block ≠ wr.heap.size := by omega
            go_region_held3 (fun w' => w'.cell? ⟨w0.heap.size, 0, none⟩ = some (.int .i64 a) ∧ w'.cell? ⟨w0.heap.size, 1, none⟩ = some (.slice AF F.length cF) ∧ w'.cell? ⟨w0.heap.size, 2, none⟩ = some (.int .i64 lost) ∧ w'.cell? ⟨(ad.add (k * 2)).block, (ad.add (k * 2)).off + 1, none⟩ = some (.int .i64 x))
              (first
                | with_reducible exact ⟨p0', p1', p2', e1'⟩
                | with_reducible exact ⟨p0, p1, p2, e1⟩
                | with_reducible exact ⟨(cell3_far hne _ _ _).trans p0', (cell3_far hne _ _ _).trans p1', (cell3_far hne _ _ _).trans p2', (cell3_far hne2 _ _ _).trans e1'⟩
                | exact keep_old (balloc (Below.refl _ _) _) p0' p1' p2' e1'
                | exact keep_old (bdrew (Below.refl _ _)) p0 p1 p2 e1
                | exact keep_old (bdrew (balloc (Below.refl _ _) _)) p0 p1 p2 e1
                | go_keep)
              (first
                | (go_at_call 11; refine (HCall.out _ (by first | with_reducible exact bdrew (Below.refl wr.heap.size wr) | with_reducible exact bdrew (balloc (Below.refl wr.heap.size wr) (.cells #[.int .i64 0, .slice none 0 0, .int .i64 0] 24)))).mono ?_; rintro e w1 ⟨v, rfl, ho, hb⟩; obtain ⟨A3, c3, rfl, k1, k2, k3⟩ := ho.slice; have HO := Lib.hid ho; have HB := Lib.hid hb;
                   have hb2 : Below wr.heap.size wr w1 := (by first | exact btrans (bdrew (Below.refl wr.heap.size wr)) hb | exact btrans (bdrew (balloc (Below.refl wr.heap.size wr) (.cells #[.int .i64 0, .slice none 0 0, .int .i64 0] 24))) hb);
                   (first | (have hz : w1.heap[wr.heap.size]? = some (.cells #[.int .i64 0, .slice none 0 0, .int .i64 0] 24 (0, 0)) := (by with_reducible exact zblk hb); obtain ⟨q0, q1, q2, r0, r1, r2, ql⟩ := qf hz; clear hz) | skip);
                   obtain ⟨p0', p1', p2', z0', z1', z2', pl'⟩ := qf (blk_below HP.out.b0 hb2); have e1' := bcell hb2 e1; have hq := hb2.size; have HB2 := Lib.hid hb2; clear ho hb hb2))
            all_goals
              go_wp2_with fail
              go_meet
              first
              | exact ⟨A3, c3, w1.heap.size, rfl, rfl, Lib.hid (blk_new w1 _), Lib.hid ((HO.out.lower (by first | exact Nat.le_refl _ | (show wr.heap.size ≤ (wr.alloc _).heap.size; rw [alloc_size]; omega))).below (balloc (Below.refl _ _) _)), Lib.hid (balloc HB2.out _), Lib.hid hq⟩
              | exact ⟨A3, c3, wr.heap.size, rfl, rfl, Lib.hid (blk_put (blk_put (blk_put (zblk HB.out) 0 _ rfl) 1 _ rfl) 2 _ rfl),
                  Lib.hid ((HO.out.set3 (q := wr.heap.size) (fun b h => by have h1 := (HO.out.lt b h).1; have h2 : (wr.alloc (.cells #[.int .i64 0, .slice none 0 0, .int .i64 0] 24)).heap.size ≤ b := h1; rw [alloc_size] at h2; omega) _ _ _).lower (by show wr.heap.size ≤ (wr.alloc _).heap.size; rw [alloc_size]; omega)),
                  Lib.hid (put3 HB2.out (Nat.le_refl _) _ _ _), Lib.hid (Nat.le_refl _)⟩
          case rest =>
          obtain ⟨A3, c3, q3, rfl, rfl, H3, HO, HB, HQ⟩ := hcut
          clear p0 p1 p2 z0 z1 z2 pl y0 y1 y2 x0 x1 x2 yl e0 e1 hbl HCall
          obtain ⟨p0, p1, p2, z0, z1, z2, pl⟩ := qf (blk_below HP.out.b0 HB.out)
          obtain ⟨y0, y1, y2, x0, x1, x2, yl⟩ := qf H3.out
          have hP5 := HP.out.from_ HB.out HO.out.rd lo'
          have HP5 := Lib.hid hP5
          clear hP5
          go_upto_region 19 with fail
          generalize (((wc.setCell ⟨w0.heap.size, 0, none⟩ (.int .i64 a)).setCell ⟨w0.heap.size, 1, none⟩ (.slice A3 F'.length c3)).setCell ⟨w0.heap.size, 2, none⟩ (.int .i64 lo')) = W5 at *
          clear p0 p1 p2 z0 z1 z2 pl y0 y1 y2 x0 x1 x2 yl
          obtain ⟨e0, e1⟩ := op_at HR.out HP5.out.bel HKX.out
          have hbl := World.block_lt_of_cell? _ _ e0
          obtain ⟨hF', hlo', hE⟩ := HE.out
          by_cases hf : (F.length : Int) < a
          · have hF2 : F' = F ++ [x] := by rw [← hF']; unfold sendL; rw [if_neg (by omega)]
            have hl2 : lo' = lost := by rw [← hlo']; unfold sendN; rw [if_neg (by omega)]
            have hE2 : E = 0 := by rw [← hE]; unfold sendE; rw [if_neg (by omega)]
            subst hE2
            have hPL2 : PList a b (k + 1) F' T (I ++ [x]) O lo' := by rw [hF2, hl2]; exact HL.out.send x hf
            have HPL2 := Lib.hid hPL2
            obtain ⟨I', hI'⟩ : ∃ I', I' = I ++ [x] := ⟨_, rfl⟩
            have HI' := Lib.hid hI'
            subst hl2
            clear hF' hlo' hE hF2 hPL2 hI' hf
            go_upto_region 27 with ((with_reducible refine gate_builtin (b := .append) (xs := #[.tmp 85, .tmp 91]) rfl ?_); at_builtin; refine append_ev rfl (.tmp 85) (.tmp 91) rfl (v := .slice AI I.length cI) rfl rfl (HP5.out.i.below (balloc (Below.refl _ _) (.cells #[.int .i64 x] 3))) ((blk_cell (blk_new _ _) 0).trans rfl) (by have := blk_lt HP5.out.b1; rw [alloc_size]; omega) (by have := HFL.out; omega) ?_; intro v1 w6 ho hg hat; rw [← HI'.out] at ho; obtain ⟨A6, c6, rfl, k1, k2, k3⟩ := ho.slice; have hP6 := (HP5.out.below (balloc (Below.refl _ _) (.cells #[.int .i64 x] 3))).inn hg ho hat; have HP6 := Lib.hid hP6; clear ho hg hat hP6)
            clear e0 e1 hbl
            rw [← HI'.out] at HPL2
            obtain ⟨p0, p1, p2, z0, z1, z2, pl⟩ := qf HP6.out.b0
            obtain ⟨y0, y1, y2, x0, x1, x2, yl⟩ := qf HP6.out.b1
            have hPL := HPL2.out
            have hfl := hPL.fl
            have htl := hPL.tl
            have HPL := Lib.hid hPL
            clear hPL
            have hll : (lo' != lo') = false := by simp
            go_upto_region 11 with fail
            go_wp2_with fail
            have hxx := HX.out
            exact ⟨⟨k + 1, F', T, I', O, lo', A3, AT, A6, AO, c3, cT, c6, cO, by simp, rfl, rfl, rfl, by omega, HP6, HPL⟩, by simp [intOf]; omega⟩
          · have hF2 : F' = F := by rw [← hF']; unfold sendL; rw [if_pos (by omega)]
            have hl3 := HL.out.l0
            have hl4 := HL.out.l1
            have hwl : wrap64 (lost + 1) = lost + 1 := by unfold wrap64; omega
            have hl2 : lo' = lost + 1 := by rw [← hlo']; unfold sendN; rw [if_pos (by omega), hwl]
            have hE2 : E = 2 := by rw [← hE]; unfold sendE; rw [if_pos (by omega)]
            subst hE2
            have hPL2 : PList a b (k + 1) F' T I O lo' := by rw [hF2, hl2]; exact HL.out.full
            have HPL2 := Lib.hid hPL2
            subst hl2
            clear hF' hlo' hE hF2 hPL2 hf
            go_upto_region 27 with fail
            clear e0 e1 hbl
            obtain ⟨p0, p1, p2, z0, z1, z2, pl⟩ := qf HP5.out.b0
            obtain ⟨y0, y1, y2, x0, x1, x2, yl⟩ := qf HP5.out.b1
            have hPL := HPL2.out
            have hfl := hPL.fl
            have htl := hPL.tl
            have HPL := Lib.hid hPL
            clear hPL
            have hll : ((lost + 1) != (lost + 1)) = false := by simp
            go_upto_region 11 with fail
            go_wp2_with fail
            have hxx := HX.out
            exact ⟨⟨k + 1, F', T, I, O, (lost + 1), A3, AT, AI, AO, c3, cT, cI, cO, by simp, rfl, rfl, rfl, by omega, HP5, HPL⟩, by simp [intOf]; omega⟩
        · have hk0' : (kd == 0) = false := by rw [beq_eq_false_iff_ne]; exact hk0
          by_cases hk1 : kd = 1
          · subst hk1
            obtain ⟨A_, c_, he, g0, g1, g2, g3⟩ := HP.out.t
            injection he with he1 he2 he3
            subst he1 he3
            have HCall := Lib.hid (fun W (hb : Below wr.heap.size wr W) => take_any b 0 AT cT T W (Kd.C_below g2 hb) g0 g1 (by omega))
            clear g0 g1 g2 g3 he2 hFl
            obtain ⟨T', hT'⟩ : ∃ T', T' = takeL T := ⟨_, rfl⟩
            obtain ⟨E, hE⟩ : ∃ E, E = takeE T := ⟨_, rfl⟩
            obtain ⟨V, hV⟩ : ∃ V, V = takeV T := ⟨_, rfl⟩
            rw [← hT', ← hE, ← hV] at HCall
            have HEQ := Lib.hid (And.intro hT' (And.intro hE hV))
            clear hT' hE hV
            go_wp2_with fail
            refine (HCall.out _ (Below.refl _ _)).mono ?_
            rintro e w1 ⟨v, rfl, hr5, hb⟩
            have hr6 := hr5
            obtain ⟨A3, c3, rfl, g0, g1, g2, g3⟩ := hr6
            have hP5 := (HP.out.to_ hb hr5).below (balloc (Below.refl _ _) (.cells #[.int .i64 b, .slice A3 T'.length c3, .int .i64 0] 24))
            have HP5 := Lib.hid hP5
            clear p0 p1 p2 z0 z1 z2 pl y0 y1 y2 x0 x1 x2 yl e0 e1 hbl
            obtain ⟨y0, y1, y2, x0, x1, x2, yl⟩ := qf (blk_below HP.out.b1 hb)
            clear hP5 g0 g1 g2 g3 hr5 hb
            go_upto_region 25 with fail
            generalize ((((w1.setCell ⟨w0.heap.size + 1, 0, none⟩ (.int .i64 b)).setCell ⟨w0.heap.size + 1, 1, none⟩ (.slice A3 T'.length c3)).setCell ⟨w0.heap.size + 1, 2, none⟩ (.int .i64 0)).alloc (.cells #[.int .i64 b, .slice A3 T'.length c3, .int .i64 0] 24)) = W5 at *
            clear y0 y1 y2 x0 x1 x2 yl
            obtain ⟨hT', hE, hV⟩ := HEQ.out
            by_cases hz : T.length = 0
            · have hE2 : E = 2 := by rw [hE]; unfold takeE; rw [if_pos hz]
              have hT2 : T' = T := by rw [hT']; unfold takeL; rw [List.eq_nil_of_length_eq_zero hz]; rfl
              subst hE2
              have HPL2 : Hid (PList a b (k + 1) F T' I O lost) := Lib.hid (by rw [hT2]; exact HL.out.same)
              clear hE hT2 hT' hV
              go_upto_region 27 with fail
              obtain ⟨p0, p1, p2, z0, z1, z2, pl⟩ := qf HP5.out.b0
              obtain ⟨y0, y1, y2, x0, x1, x2, yl⟩ := qf HP5.out.b1
              have hPL := HPL2.out
              have hfl := hPL.fl
              have htl := hPL.tl
              have HPL := Lib.hid hPL
              clear hPL
              have hll : (lost != lost) = false := by simp
              go_upto_region 11 with fail
              go_wp2_with fail
              have hxx := HX.out
              exact ⟨⟨k + 1, F, T', I, O, lost, AF, A3, AI, AO, cF, c3, cI, cO, by simp, rfl, rfl, rfl, by omega, HP5, HPL⟩, by simp [intOf]; omega⟩
            · have hE2 : E = 0 := by rw [hE]; unfold takeE; rw [if_neg hz]
              subst hE2
              have hPL2 : PList a b (k + 1) F T' I (O ++ [V]) lost := by rw [hT', hV]; exact HL.out.take (by omega)
              obtain ⟨O', hO'⟩ : ∃ O', O' = O ++ [V] := ⟨_, rfl⟩
              rw [← hO'] at hPL2
              have HPL2 := Lib.hid hPL2
              have HO' := Lib.hid hO'
              clear hE hT' hV hPL2 hO'
              go_upto_region 27 with ((with_reducible refine gate_builtin (b := .append) (xs := #[.tmp 106, .tmp 108]) rfl ?_); at_builtin; refine append_ev rfl (.tmp 106) (.tmp 108) rfl (v := .slice AO O.length cO) rfl rfl (HP5.out.o.below (balloc (Below.refl _ _) (.cells #[.int .i64 V] 3))) ((blk_cell (blk_new _ _) 0).trans rfl) (by have := blk_lt HP5.out.b1; rw [alloc_size]; omega) (by have := HFL.out; omega) ?_; intro v1 w6 ho hg hat; rw [← HO'.out] at ho; obtain ⟨A6, c6, rfl, k1, k2, k3⟩ := ho.slice; have hP6 := (HP5.out.below (balloc (Below.refl _ _) (.cells #[.int .i64 V] 3))).out_ hg ho hat; have HP6 := Lib.hid hP6; clear ho hg hat hP6)
              obtain ⟨p0, p1, p2, z0, z1, z2, pl⟩ := qf HP6.out.b0
              obtain ⟨y0, y1, y2, x0, x1, x2, yl⟩ := qf HP6.out.b1
              have hPL := HPL2.out
              have hfl := hPL.fl
              have htl := hPL.tl
              have HPL := Lib.hid hPL
              clear hPL
              have hll : (lost != lost) = false := by simp
              go_upto_region 11 with fail
              go_wp2_with fail
              have hxx := HX.out
              exact ⟨⟨k + 1, F, T', I, O', lost, AF, A3, AI, A6, cF, c3, cI, c6, by simp, rfl, rfl, rfl, by omega, HP6, HPL⟩, by simp [intOf]; omega⟩
          · have hk1' : (kd == 1) = false := by rw [beq_eq_false_iff_ne]; exact hk1
            obtain ⟨A_, c_, he, g0, g1, g2, g3⟩ := HP.out.f
            injection he with he1 he2 he3
            subst he1 he3
            obtain ⟨A_, c_, he, u0, u1, u2, u3⟩ := HP.out.t
            injection he with he1 he2 he3
            subst he1 he3
            have HCall := Lib.hid (fun W (hb : Below wr.heap.size wr W) => move_any a lost b 0 AF AT cF cT F T W (Kd.C_below g2 hb) g0 g1 (by omega) (Kd.C_below u2 hb) u0 u1 (by omega))
            clear g0 g1 g2 g3 he2 u0 u1 u2 u3 hFl
            obtain ⟨F', hF'⟩ : ∃ F', F' = F.drop (movN F T b) := ⟨_, rfl⟩
            obtain ⟨T', hT'⟩ : ∃ T', T' = T ++ F.take (movN F T b) := ⟨_, rfl⟩
            have HPL2 : Hid (PList a b (k + 1) F' T' I O lost) := Lib.hid (by rw [hF', hT']; exact HL.out.move)
            rw [← hF', ← hT'] at HCall
            clear hF' hT'
            go_wp2_with fail
            refine (HCall.out _ (Below.refl _ _)).mono ?_
            rintro e w1 ⟨v, v', rfl, hr5, hr7, hb⟩
            have hr6 := hr5
            obtain ⟨A3, c3, rfl, g0, g1, g2, g3⟩ := hr6
            have hr8 := hr7
            obtain ⟨A4, c4, rfl, u0, u1, u2, u3⟩ := hr8
            have hP5 := HP.out.from_ hb hr5 lost
            have hlt5 : ∀ q, (Value.slice A4 T'.length c4).ownBlock = some q → wr.heap.size ≤ q := fun q hq => (hr7.lt q hq).1
            have hgl : w0.heap.size + 1 < wr.heap.size := blk_lt HP.out.b1
            have hr9 := (hr7.set3 (q := w0.heap.size) (fun q hq => by have := hlt5 q hq; omega) (.int .i64 a) (.slice A3 F'.length c3) (.int .i64 lost)).lower (base' := w0.heap.size + 1 + 1) (by omega)
            have hP6 := ((hP5.to2 hr9 (fun q hq => ⟨fun he => by have := hlt5 q hq; have := (HP.out.i.lt q he).2; omega, fun he => by have := hlt5 q hq; have := (HP.out.o.lt q he).2; omega⟩)).below (balloc (Below.refl _ _) (.cells #[.int .i64 a, .slice A3 F'.length c3, .int .i64 lost] 24))).below (balloc (Below.refl _ _) (.cells #[.int .i64 b, .slice A4 T'.length c4, .int .i64 0] 24))
            have HP6 := Lib.hid hP6
            clear p0 p1 p2 z0 z1 z2 pl y0 y1 y2 x0 x1 x2 yl e0 e1 hbl
            obtain ⟨p0, p1, p2, z0, z1, z2, pl⟩ := qf (blk_below HP.out.b0 hb)
            obtain ⟨y0, y1, y2, x0, x1, x2, yl⟩ := qf (blk_below HP.out.b1 hb)
            clear hP5 hP6 g0 g1 g2 g3 u0 u1 u2 u3 hr5 hr7 hr9 hlt5 hgl hb
            go_upto_region 27 with fail
            generalize (((((((w1.setCell ⟨w0.heap.size, 0, none⟩ (.int .i64 a)).setCell ⟨w0.heap.size, 1, none⟩ (.slice A3 F'.length c3)).setCell ⟨w0.heap.size, 2, none⟩ (.int .i64 lost)).setCell ⟨w0.heap.size + 1, 0, none⟩ (.int .i64 b)).setCell ⟨w0.heap.size + 1, 1, none⟩ (.slice A4 T'.length c4)).setCell ⟨w0.heap.size + 1, 2, none⟩ (.int .i64 0)).alloc (.cells #[.int .i64 a, .slice A3 F'.length c3, .int .i64 lost] 24)).alloc (.cells #[.int .i64 b, .slice A4 T'.length c4, .int .i64 0] 24) = W5 at *
            clear p0 p1 p2 z0 z1 z2 pl y0 y1 y2 x0 x1 x2 yl
            obtain ⟨p0, p1, p2, z0, z1, z2, pl⟩ := qf HP6.out.b0
            obtain ⟨y0, y1, y2, x0, x1, x2, yl⟩ := qf HP6.out.b1
            have hPL := HPL2.out
            have hfl := hPL.fl
            have htl := hPL.tl
            have HPL := Lib.hid hPL
            clear hPL
            have hll : (lost != lost) = false := by simp
            go_upto_region 11 with fail
            go_wp2_with fail
            have hxx := HX.out
            exact ⟨⟨k + 1, F', T', I, O, lost, A3, A4, AI, AO, c3, c4, cI, cO, by simp, rfl, rfl, rfl, by omega, HP6, HPL⟩, by simp [intOf]; omega⟩
      · have hke : k = l.length := by omega
        subst hke
        clear hlt hk
        obtain ⟨A_, c_, he, g0, g1, g2, g3⟩ := HP.out.t
        injection he with he1 he2 he3
        subst he1 he3
        have HT := Lib.hid g2
        have HSM := Lib.hid (HL.out.small (by omega))
        clear g0 g1 g2 g3 he2
        go_upto_region 30 with ((with_reducible refine gate_builtin (b := .append) (xs := #[.tmp 128, .tmp 130]) rfl ?_); at_builtin; refine appends_ev rfl (.tmp 128) (.tmp 130) rfl (v := .slice AO O.length cO) (ys := T) rfl rfl HP.out.o HT.out (by have := blk_lt HP.out.b1; omega) (by have := HSM.out; omega) ?_; intro v1 w6 ho hg hat; obtain ⟨A6, c6, rfl, k1, k2, k3⟩ := ho.slice; generalize hn6 : (O ++ T).length = n6 at *; have HN6 := Lib.hid hn6; have hP6 := HP.out.out_ hg ho hat; have HP6 := Lib.hid hP6; clear ho hg hat hP6 hn6)
        clear p0 p1 p2 z0 z1 z2 pl y0 y1 y2 x0 x1 x2 yl
        obtain ⟨p0, p1, p2, z0, z1, z2, pl⟩ := qf HP6.out.b0
        obtain ⟨A_, c_, he, g0, g1, g2, g3⟩ := HP6.out.f
        injection he with he1 he2 he3
        subst he1 he3
        have HF := Lib.hid g2
        clear g0 g1 g2 g3 he2
        go_upto_region 31 with ((with_reducible refine gate_builtin (b := .append) (xs := #[.tmp 132, .tmp 134]) rfl ?_); at_builtin; refine appends_ev rfl (.tmp 132) (.tmp 134) rfl (v := .slice A6 n6 c6) (ys := F) rfl rfl HP6.out.o HF.out (by have := blk_lt HP6.out.b1; omega) (by have := HSM.out; have := HN6.out; simp only [List.length_append] at *; omega) ?_; intro v1 w7 ho hg hat; rw [← HL.out.eq] at ho; obtain ⟨A7, c7, rfl, k1, k2, k3⟩ := ho.slice; have hP7 := HP6.out.out_ hg ho hat; have HP7 := Lib.hid hP7; clear ho hg hat hP7)
        have hSame := Lib.hid (same01_any AI A7 cI c7 I _ HP7.out.i.C HP7.out.o.C (by have := HSM.out; omega))
        clear p0 p1 p2 z0 z1 z2 pl
        go_wp2_with fail
        refine hSame.out.mono ?_
        rintro e w8 ⟨rfl, hb⟩
        have HB8 := Lib.hid (btrans HP7.out.bel hb)
        clear hb
        go_wp2_with fail
        go_ret
        exact ⟨rfl, HB8.out⟩
  · have hout := hin
    by_cases h1 : l.length ≤ 100
    · by_cases h2 : 0 ≤ a
      · by_cases h3 : a ≤ 8
        · by_cases h4 : 0 ≤ b
          · have j0 : 8 < b := by omega
            go_wp2_with fail
            go_ret
            exact ⟨rfl, B0.out⟩
          · have j0 : b < 0 := by omega
            go_wp2_with fail
            go_ret
            exact ⟨rfl, B0.out⟩
        · have j0 : 8 < a := by omega
          go_wp2_with fail
          go_ret
          exact ⟨rfl, B0.out⟩
      · have j0 : a < 0 := by omega
        go_wp2_with fail
        go_ret
        exact ⟨rfl, B0.out⟩
    · have j0 : (100 : Int) < (l.length : Int) := by omega
      go_wp2_with fail
      go_ret
      exact ⟨rfl, B0.out⟩
end Go.Proofs.Ytfeifmjihdfadaa.PortR

/-
  The law function PortsFull, walked: it answers true. Conditions: the messages lie in memory as told.
-/
import Derived.Test.YtfeifmjihdfadaaPortB
import Derived.Deep.RegionWith
import Derived.Deep.CutRange
namespace Go.Proofs.Ytfeifmjihdfadaa.PortF
set_option maxRecDepth 100000
set_option linter.unusedVariables false
set_option linter.unusedSimpArgs false
open Go.RowKit Go.Proofs.YtfeifmjihdfadaaW.PrintWords Go.Proofs.YtfeifmjihdfadaaW.PrintMore Go.Proofs.Ytfeifmjihdfadaa.Port

theorem Rd.nil (w : World) (b : Nat) : Rd w b (.slice none 0 0) [] := (Row.nil w b).rd
theorem rd_take (l : List Int) (n k : Nat) (h : k < n) : rd (l.take n) k = rd l k := by
  simp [rd, List.getD_eq_getElem?_getD, List.getElem?_take, h]
theorem take_snoc (l : List Int) (k : Nat) (h : k < l.length) : l.take k ++ [rd l k] = l.take (k + 1) := by
  have h1 : rd l k = l[k] := by simp [rd, List.getD_eq_getElem?_getD, h]
  rw [h1, List.take_succ_eq_append_getElem h]
/-- What holds at the head of the loop. -/
structure FInv (w : World) (g D : Nat) (l : List Int) (w1 : World) (k : Nat) (A : Option Addr) (c : Nat) : Prop where
  hk : k ≤ l.length
  b0 : w1.heap[g]? = some (.cells #[.int .i64 D, .slice A (l.take (min k D)).length c, .int .i64 ((k - min k D : Nat) : Int)] 24 (0, 0))
  r : Rd w1 (g + 1) (.slice A (l.take (min k D)).length c) (l.take (min k D))
  bel : Below w.heap.size w w1
  lt : w.heap.size ≤ g

theorem send_step (D k : Nat) (l : List Int) (A : Option Addr) (c : Nat) (W : World) (hk : k < l.length) (hl : l.length ≤ 60) (hC : (Kd.int .i64).C W A (l.take (min k D)).length (l.take (min k D))) (hc : (l.take (min k D)).length ≤ c) (hn : A = none → c = 0) :
    Calls Try.prog 11 #[.agg #[.int .i64 D, .slice A (l.take (min k D)).length c, .int .i64 ((k - min k D : Nat) : Int)], .int .i64 (rd l k)] W fun e w' =>
      ∃ v, e = .returned (.tuple #[.agg #[.int .i64 D, v, .int .i64 ((k + 1 - min (k + 1) D : Nat) : Int)], .int .i64 (if k < D then 0 else 2)]) ∧ Row w' W.heap.size v (l.take (min (k + 1) D)) ∧ Below W.heap.size W w' := by
  have h := send_any D ((k - min k D : Nat) : Int) (rd l k) A c (l.take (min k D)) W hC hc hn (by simp; omega)
  have hlen : (l.take (min k D)).length = min k D := by simp; omega
  by_cases hd : k < D
  · have h1 : ¬ ((D : Int) ≤ ((l.take (min k D)).length : Int)) := by rw [hlen]; omega
    have h2 : sendL D (l.take (min k D)) (rd l k) = l.take (min (k + 1) D) := by
      unfold sendL
      rw [if_neg h1, show min k D = k by omega, show min (k + 1) D = k + 1 by omega]
      exact take_snoc l k hk
    have h3 : sendN D (l.take (min k D)) ((k - min k D : Nat) : Int) = ((k + 1 - min (k + 1) D : Nat) : Int) := by unfold sendN; rw [if_neg h1]; omega
    have h4 : sendE D (l.take (min k D)) = 0 := by unfold sendE; rw [if_neg h1]
    rw [h2, h3, h4] at h
    rw [if_pos hd]
    exact h
  · have h1 : (D : Int) ≤ ((l.take (min k D)).length : Int) := by rw [hlen]; omega
    have h2 : sendL D (l.take (min k D)) (rd l k) = l.take (min (k + 1) D) := by
      unfold sendL
      rw [if_pos h1, show min k D = D by omega, show min (k + 1) D = D by omega]
    have h3 : sendN D (l.take (min k D)) ((k - min k D : Nat) : Int) = ((k + 1 - min (k + 1) D : Nat) : Int) := by unfold sendN wrap64; rw [if_pos h1]; omega
    have h4 : sendE D (l.take (min k D)) = 2 := by unfold sendE; rw [if_pos h1]
    rw [h2, h3, h4] at h
    rw [if_neg hd]
    exact h
theorem FInv.step {w : World} {g D : Nat} {l : List Int} {w0 w1 : World} {k : Nat} {A A1 : Option Addr} {c c1 : Nat} (I : FInv w g D l w0 k A c) (hk : k < l.length) (hb : Below w0.heap.size w0 w1) (ho : Row w1 w0.heap.size (.slice A1 (l.take (min (k + 1) D)).length c1) (l.take (min (k + 1) D))) :
    FInv w g D l (((w1.setCell ⟨g, 0, none⟩ (.int .i64 D)).setCell ⟨g, 1, none⟩ (.slice A1 (l.take (min (k + 1) D)).length c1)).setCell ⟨g, 2, none⟩ (.int .i64 ((k + 1 - min (k + 1) D : Nat) : Int))) (k + 1) A1 c1 := by
  have hg : g < w0.heap.size := blk_lt I.b0
  have hl := I.lt
  refine ⟨hk, ?_, ?_, ?_, hl⟩
  · exact blk_put (blk_put (blk_put (blk_below I.b0 hb) 0 _ rfl) 1 _ rfl) 2 _ rfl
  · exact ((ho.set3 (q := g) (fun b h => by have := ho.lt b h; omega) _ _ _).lower (by omega)).rd
  · exact put3 (btrans I.bel hb) hl _ _ _

set_option maxHeartbeats 4000000 in
theorem full_any (depth : Int) (A : Option Addr) (c : Nat) (l : List Int) (w : World) (hr : (Kd.int .i64).C w A l.length l) (hc : l.length ≤ c) :
    Calls Try.prog 4 #[.int .i64 depth, .slice A l.length c] w fun e w' => e = .returned (.bool true) ∧ Below w.heap.size w w' := by
  have HR := Lib.hid hr
  clear hr
  go_enter Try.func4, Try.ntmps4
  go_wp2_with fail
  refine (awake_any _).mono ?_
  rintro e w0 ⟨rfl, hb⟩
  have B0 := Lib.hid hb
  clear hb
  by_cases hin : 0 ≤ depth ∧ depth ≤ 8 ∧ l.length ≤ 60
  · obtain ⟨h0, h8, h60⟩ := hin
    obtain ⟨D, rfl⟩ : ∃ D : Nat, depth = D := ⟨depth.toNat, by omega⟩
    have j0 : (l.length : Int) ≤ 60 := by omega
    have HI : Hid (FInv w w0.heap.size D l (w0.alloc (.cells #[.int .i64 D, .slice none 0 0, .int .i64 0] 24)) 0 none 0) := Lib.hid ⟨Nat.zero_le _, blk_new _ _, Rd.nil _ _, balloc B0.out _, B0.out.size⟩
    go_wp2_with fail
    have B1 := Lib.hid (balloc B0.out (.cells #[.int .i64 D, .slice none 0 0, .int .i64 0] 24))
    generalize (w0.alloc (.cells #[.int .i64 D, .slice none 0 0, .int .i64 0] 24)) = W0 at *
    go_loopw [7] (fun i wr_ => ∃ k A c, i = .int .i64 ((k : Nat) : Int) ∧ Hid (FInv w w0.heap.size D l wr_ k A c)) (fun i _ => l.length - (intOf i).toNat)
    case atStart => exact ⟨0, _, _, rfl, HI⟩
    case round =>
      clear HI
      obtain ⟨k, A1, c1, rfl, HI⟩ := hrel
      have I := HI.out
      obtain ⟨p0, p1, p2, z0, z1, z2, pl⟩ := qf I.b0
      have hk := I.hk
      by_cases hlt : k < l.length
      · obtain ⟨ad, rfl, e0⟩ := at_nat (Kd.C_below HR.out I.bel) k hlt
        have hbl := World.block_lt_of_cell? _ _ e0
        have hbl2 : ad.block < wr.heap.size := by have he : (ad.add k).block = ad.block := (by unfold Addr.add; split <;> rfl); omega
        have e1 : (wr.alloc (.cells #[.int .i64 0, .slice none 0 0, .int .i64 0] 24)).cell? (ad.add k) = some (.int .i64 (rd l k)) := bcell (balloc (Below.refl _ _) _) e0
        have hlt' : (k : Int) < (l.length : Int) := by omega
        have hnn : (0 : Int) ≤ (k : Int) := by omega
        have hwr : IntKind.i64.wrap ((k : Int) + 1) = (k : Int) + 1 := IntWalk.i64_in _ (by omega)
        have hcall := fun W hC => send_step D k l A1 c1 W hlt h60 hC
        obtain ⟨A2, c2, he, g0, g1, g2, g3⟩ := I.r
        injection he with he1 he2 he3
        subst he1 he3
        have HCall := Lib.hid (fun W (hb : Below wr.heap.size wr W) => hcall W (Kd.C_below g2 hb) g0 g1)
        have HX := Lib.hid hlt
        clear hcall g0 g1 g2 g3 I he2
        generalize hL : (l.take (min k D)).length = n1 at *
        have HL := Lib.hid hL
        clear hL
        generalize hLo : ((k - min k D : Nat) : Int) = lo at *
        have HLo := Lib.hid hLo
        clear hLo
        generalize hLo2 : ((k + 1 - min (k + 1) D : Nat) : Int) = lo2 at *
        have HLo2 := Lib.hid hLo2
        clear hLo2
        generalize hE : (if k < D then (0 : Int) else 2) = E at *
        have HE := Lib.hid hE
        clear hE
        go_upto_region 8 with fail
        generalize hn3 : (l.take (min (k + 1) D)).length = n3 at *
        have HN3 := Lib.hid hn3
        clear hn3
        go_cut [8, 9] from 31 to 52 (fun s8 s9 wx => ∃ A3 c3 q8, s8 = .pointer (some ⟨q8, 0, none⟩) ∧ s9 = .int .i64 E ∧ Hid (wx.heap[q8]? = some (.cells #[.int .i64 D, .slice A3 n3 c3, .int .i64 lo2] 24 (0, 0))) ∧
          Hid (Row wx wr.heap.size (.slice A3 n3 c3) (l.take (min (k + 1) D))) ∧ Hid (Below wr.heap.size wr wx) ∧ Hid (wr.heap.size ≤ q8))
        case first =>
          go_region_with (go_at_call 11; first
            | (refine (HCall.out (wr.alloc (.cells #[.int .i64 0, .slice none 0 0, .int .i64 0] 24)).drew (bdrew (balloc (Below.refl _ _) _))).mono ?_; rintro e w1 ⟨v, rfl, ho, hb⟩; have hsl := ho.slice; rw [HN3.out] at hsl; obtain ⟨A3, c3, rfl, k1, k2, k3⟩ := hsl; have HO := Lib.hid ho; have HB := Lib.hid hb; have hq : wr.heap.size < w1.heap.size := (Nat.lt_of_lt_of_le (by show _ < (wr.alloc _).heap.size; rw [alloc_size]; omega) hb.size); obtain ⟨y0, y1, y2, x0, x1, x2, yl⟩ := qf (blk_below (blk_drew (blk_new wr (.cells #[.int .i64 0, .slice none 0 0, .int .i64 0] 24))) hb); clear ho hb)
            | (refine (HCall.out wr.drew (bdrew (Below.refl _ _))).mono ?_; rintro e w1 ⟨v, rfl, ho, hb⟩; have hsl := ho.slice; rw [HN3.out] at hsl; obtain ⟨A3, c3, rfl, k1, k2, k3⟩ := hsl; have HO := Lib.hid ho; have HB := Lib.hid hb; have hq : wr.heap.size ≤ w1.heap.size := hb.size; clear ho hb))
          all_goals
            go_wp2_with fail
            go_meet
            first
            | exact ⟨A3, c3, w1.heap.size, rfl, rfl, Lib.hid (blk_new w1 _), Lib.hid (HO.out.below (balloc (Below.refl _ _) _)), Lib.hid (balloc (btrans (bdrew (Below.refl wr.heap.size wr)) HB.out) _), Lib.hid hq⟩
            | exact ⟨A3, c3, wr.heap.size, rfl, rfl, Lib.hid (blk_put (blk_put (blk_put (blk_below (blk_drew (blk_new wr (.cells #[.int .i64 0, .slice none 0 0, .int .i64 0] 24))) HB.out) 0 _ rfl) 1 _ rfl) 2 _ rfl),
                Lib.hid ((HO.out.set3 (q := wr.heap.size) (fun b h => by have h1 := (HO.out.lt b h).1; have h2 : (wr.alloc (.cells #[.int .i64 0, .slice none 0 0, .int .i64 0] 24)).heap.size ≤ b := h1; rw [alloc_size] at h2; omega) _ _ _).lower (by show wr.heap.size ≤ (wr.alloc _).heap.size; rw [alloc_size]; omega)),
                Lib.hid (put3 (btrans (bdrew (balloc (Below.refl wr.heap.size wr) _)) HB.out) (Nat.le_refl _) _ _ _), Lib.hid (Nat.le_refl _)⟩
        case rest =>
        obtain ⟨A3, c3, q8, rfl, rfl, H8, HO, HB, HQ⟩ := hcut
        clear p0 p1 p2 z0 z1 z2 pl hbl hbl2 e0 e1 HCall
        obtain ⟨p0, p1, p2, z0, z1, z2, pl⟩ := qf (blk_below HI.out.b0 HB.out)
        obtain ⟨y0, y1, y2, x0, x1, x2, yl⟩ := qf H8.out
        by_cases hd : k < D
        · have hE := HE.out
          rw [if_pos hd] at hE
          subst hE
          have hd' : (k : Int) < (D : Int) := by omega
          go_wp2_with fail
          have hI := HI.out.step HX.out HB.out (by rw [HN3.out]; exact HO.out)
          rw [HN3.out, HLo2.out] at hI
          have hxx := HX.out
          exact ⟨⟨k + 1, _, _, by simp, Lib.hid hI⟩, by simp [intOf]; omega⟩
        · have hE := HE.out
          rw [if_neg hd] at hE
          subst hE
          have hd' : (D : Int) ≤ (k : Int) := by omega
          go_wp2_with fail
          have hI := HI.out.step HX.out HB.out (by rw [HN3.out]; exact HO.out)
          rw [HN3.out, HLo2.out] at hI
          have hxx := HX.out
          exact ⟨⟨k + 1, _, _, by simp, Lib.hid hI⟩, by simp [intOf]; omega⟩
      · have hke : k = l.length := by omega
        subst hke
        have hat : ∀ N : Nat, N = min l.length D → ∀ k2, k2 < N → ∀ W, Below wr.heap.size wr W → ∃ ad, A1 = some ad ∧ W.cell? (ad.add k2) = some (.int .i64 (rd l k2)) := by
          intro N hN k2 hk2 W hW
          obtain ⟨ad, h1, h2⟩ := at_nat (Kd.C_below HI.out.r.C hW) k2 (by simp; omega)
          refine ⟨ad, h1, ?_⟩
          rw [h2, show rd (l.take (min l.length D)) k2 = rd l k2 from rd_take l _ k2 (by omega)]
        have hl1 : (l.take (min l.length D)).length = min l.length D := by simp
        rw [hl1] at p1
        clear I hlt hk
        by_cases hd : l.length ≤ D
        · have hm : min l.length D = l.length := by omega
          have HAT := Lib.hid (hat l.length hm.symm)
          rw [hm, Nat.sub_self] at p2
          rw [hm] at p1
          have hd' : (l.length : Int) ≤ (D : Int) := by omega
          clear hat hl1 hm
          go_wp2_with fail
          go_loopw [11] (fun i wr_ => ∃ k2 : Nat, k2 ≤ l.length ∧ i = .int .i64 ((k2 : Nat) : Int) ∧ Hid (Below wr.heap.size wr wr_)) (fun i _ => l.length - (intOf i).toNat)
          case atStart => exact ⟨0, Nat.zero_le _, rfl, Lib.hid (Below.refl _ _)⟩
          case round =>
            obtain ⟨k2, hk2, rfl, hB⟩ := hrel
            clear p0 p1 p2 z0 z1 z2 pl
            obtain ⟨p0, p1, p2, z0, z1, z2, pl⟩ := qf (blk_below HI.out.b0 hB.out)
            by_cases hlt2 : k2 < l.length
            · obtain ⟨ad0, rfl, e0⟩ := HAT.out k2 hlt2 _ hB.out
              obtain ⟨ad1, rfl, e1⟩ := at_nat (Kd.C_below HR.out (btrans HI.out.bel hB.out)) k2 (by omega)
              have hlt3 : (k2 : Int) < (l.length : Int) := by omega
              have hlt4 : (k2 : Int) < (l.length : Int) := by omega
              have hnn : (0 : Int) ≤ (k2 : Int) := by omega
              have hwr : wrap64 ((k2 : Int) + 1) = (k2 : Int) + 1 := by unfold wrap64; omega
              go_wp2_with fail
              go_quiet (fail)
              go_wp2_with fail
              exact ⟨⟨k2 + 1, by omega, by simp, Lib.hid (bdrewN hB.out nq)⟩, by simp [intOf]; omega⟩
            · have hke : k2 = l.length := by omega
              subst hke
              go_wp2_with fail
              go_ret
              exact ⟨rfl, btrans HI.out.bel hB.out⟩
        · have hm : min l.length D = D := by omega
          have HAT := Lib.hid (hat D hm.symm)
          rw [hm, Int.ofNat_sub (by omega)] at p2
          rw [hm] at p1
          have hd' : (D : Int) < (l.length : Int) := by omega
          clear hat hl1 hm
          go_wp2_with fail
          go_loopw [11] (fun i wr_ => ∃ k2 : Nat, k2 ≤ D ∧ i = .int .i64 ((k2 : Nat) : Int) ∧ Hid (Below wr.heap.size wr wr_)) (fun i _ => D - (intOf i).toNat)
          case atStart => exact ⟨0, Nat.zero_le _, rfl, Lib.hid (Below.refl _ _)⟩
          case round =>
            obtain ⟨k2, hk2, rfl, hB⟩ := hrel
            clear p0 p1 p2 z0 z1 z2 pl
            obtain ⟨p0, p1, p2, z0, z1, z2, pl⟩ := qf (blk_below HI.out.b0 hB.out)
            by_cases hlt2 : k2 < D
            · obtain ⟨ad0, rfl, e0⟩ := HAT.out k2 hlt2 _ hB.out
              obtain ⟨ad1, rfl, e1⟩ := at_nat (Kd.C_below HR.out (btrans HI.out.bel hB.out)) k2 (by omega)
              have hlt3 : (k2 : Int) < (D : Int) := by omega
              have hlt4 : (k2 : Int) < (l.length : Int) := by omega
              have hnn : (0 : Int) ≤ (k2 : Int) := by omega
              have hwr : wrap64 ((k2 : Int) + 1) = (k2 : Int) + 1 := by unfold wrap64; omega
              go_wp2_with fail
              go_quiet (fail)
              go_wp2_with fail
              exact ⟨⟨k2 + 1, by omega, by simp, Lib.hid (bdrewN hB.out nq)⟩, by simp [intOf]; omega⟩
            · have hke : k2 = D := by omega
              subst hke
              go_wp2_with fail
              go_ret
              exact ⟨rfl, btrans HI.out.bel hB.out⟩
  · by_cases h0 : 0 ≤ depth
    · by_cases h8 : depth ≤ 8
      · have j0 : (60 : Int) < (l.length : Int) := by omega
        go_wp2_with fail
        go_ret
        exact ⟨rfl, B0.out⟩
      · have j0 : 8 < depth := by omega
        go_wp2_with fail
        go_ret
        exact ⟨rfl, B0.out⟩
    · have j0 : depth < 0 := by omega
      go_wp2_with fail
      go_ret
      exact ⟨rfl, B0.out⟩
end Go.Proofs.Ytfeifmjihdfadaa.PortF

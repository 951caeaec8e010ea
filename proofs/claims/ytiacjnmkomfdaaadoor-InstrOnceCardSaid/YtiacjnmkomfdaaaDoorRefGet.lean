/-
  What quarterdeckref04.Get returns, for whatever quarterdeckref01.Get and quarterdeckref04.May answer. Conditions: their contracts are handed in.
-/
import Derived.Test.YtiacjnmkomfdaaaDoorInstrGet
import Derived.BigRegion
import Derived.Test.YtiacjnmkomfdaaaDoorWMore
import Derived.Test.YtiacjnmkomfdaaaDoorWApart
import Derived.Test.YtiacjnmkomfdaaaDoorWInvWords
namespace Go.Proofs.YtiacjnmkomfdaaaDoor.RefGet
open Go.RowKit Go.Proofs.YtiacjnmkomfdaaaDoorW.PrintWords Go.Proofs.YtiacjnmkomfdaaaDoorW.PrintMore Go.Proofs.YtiacjnmkomfdaaaDoor.Instr Go.Proofs.YtiacjnmkomfdaaaDoor.InstrGet
set_option linter.unusedSimpArgs false
set_option linter.unusedVariables false
/-- The third number read as a place of either sign. -/
def unz (n : Int) : Int := if n.tmod 2 = 1 then wrap64 ((wrap64 (-(wrap64 (n + 1)))).tdiv 2) else wrap64 (n.tdiv 2)
def finR (Mf : Int → Int → Int → Option Bool) (xs : List Int) (at_ : Int) : Option (Int × Int × Int × Int × Int) :=
  (Mf (xs.getD 0 0) (xs.getD 1 0) (unz (xs.getD 2 0))).bind fun t => if t = true then some (xs.getD 0 0, xs.getD 1 0, unz (xs.getD 2 0), at_, 0) else some (0, 0, 0, 0, 2)
/-- quarterdeckref04.Get with so many numbers to go. -/
def getR (G : List Int → Option (Int × Int × Int)) (Mf : Int → Int → Int → Option Bool) (l : List Int) : Nat → List Int → Int → Option (Int × Int × Int × Int × Int)
  | 0, xs, at_ => finR Mf xs at_
  | d + 1, xs, at_ => if 0 ≤ at_ ∧ at_ ≤ l.length then (G (l.drop at_.toNat)).bind fun g => if g.2.2 = 0 then getR G Mf l d (xs ++ [g.1]) (wrap64 (at_ + g.2.1)) else some (0, 0, 0, 0, g.2.2) else none
theorem getR_mono {G G' : List Int → Option (Int × Int × Int)} {Mf Mf' : Int → Int → Int → Option Bool} (h : ∀ l r, G l = some r → G' l = some r) (hm : ∀ a b c r, Mf a b c = some r → Mf' a b c = some r) (l : List Int) :
    ∀ (d : Nat) (xs : List Int) (a : Int) r, getR G Mf l d xs a = some r → getR G' Mf' l d xs a = some r := by
  intro d
  induction d with
  | zero =>
    intro xs a r hr
    unfold getR finR at hr ⊢
    obtain ⟨t, ht, hr⟩ := Option.bind_eq_some_iff.mp hr
    exact Option.bind_eq_some_iff.mpr ⟨t, hm _ _ _ _ ht, hr⟩
  | succ d ih =>
    intro xs a r hr
    unfold getR at hr ⊢
    by_cases ha : 0 ≤ a ∧ a ≤ l.length
    · rw [if_pos ha] at hr ⊢
      obtain ⟨g, hg, hr⟩ := Option.bind_eq_some_iff.mp hr
      refine Option.bind_eq_some_iff.mpr ⟨g, h _ _ hg, ?_⟩
      by_cases he : g.2.2 = 0
      · rw [if_pos he] at hr ⊢; exact ih _ _ _ hr
      · rw [if_neg he] at hr ⊢; exact hr
    · rw [if_neg ha] at hr; exact absurd hr (by simp)

def lenOf : Value → Nat | .slice _ n _ => n | _ => 0
set_option maxHeartbeats 2000000 in
theorem get_any (G : List Int → Option (Int × Int × Int)) (Mf : Int → Int → Int → Option Bool)
    (HW : ∀ (A : Option Addr) (c : Nat) (l : List Int) (r : Int × Int × Int) (w : World), Kd.C (Kd.int .u8) w A l.length l → l.length ≤ c → G l = some r →
      Calls Tryd.prog 26 #[.slice A l.length c] w fun e w' => e = .returned (.tuple #[.int .i64 r.1, .int .i64 r.2.1, .int .i64 r.2.2]) ∧ ∃ n, w' = w.drewN n)
    (HM : ∀ (a b c : Int) (r : Bool) (w : World), Mf a b c = some r →
      Calls Tryd.prog 15 #[.agg #[.int .i64 a, .int .i64 b, .int .i64 c]] w fun e w' => e = .returned (.bool r) ∧ Below w.heap.size w w')
    (A : Option Addr) (c : Nat) (l : List Int) (r : Int × Int × Int × Int × Int) (w : World) (hr : Kd.C (Kd.int .u8) w A l.length l) (hc : l.length ≤ c) (h : getR G Mf l 3 [] 0 = some r) :
    Calls Tryd.prog 17 #[.slice A l.length c] w fun e w' => e = .returned (resV r) ∧ Below w.heap.size w w' := by
  have HR := Lib.hid hr
  have HC := Lib.hid hc
  have HF := Lib.hid h
  have HWH := Lib.hid HW
  have HMH := Lib.hid HM
  clear hr hc h HW HM
  go_enter Tryd.func17, Tryd.ntmps17
  go_wp2_with fail
  have hsz1 : ∀ o, (w.alloc o).heap.size = w.heap.size + 1 := fun o => Array.size_push _
  go_loopw [6, 7] (fun v_ at_ wr_ => ∃ (k : Nat) (a : Int) (xs : List Int), k ≤ 3 ∧ at_ = .int .i64 a ∧ xs.length = k ∧ Hid (getR G Mf l (3 - k) xs a = some r) ∧ Hid (Below w.heap.size w wr_) ∧
    Hid (Kd.R (Kd.int .i64) 3 wr_ w.heap.size (fun q => q ≠ w.heap.size ∧ q ≠ w.heap.size + 1) v_ xs) ∧
    Hid (wr_.heap[w.heap.size + 1]? = some (.cells #[.int .i64 0, .int .i64 0, .int .i64 0] 23 (0, 0))) ∧
    Hid (wr_.heap[w.heap.size]? = some (.cells #[.int .i64 0, .int .i64 0, .int .i64 0] 23 (0, 0)))) (fun v_ _ _ => 3 - lenOf v_)
  case atStart =>
    refine ⟨0, 0, [], by omega, rfl, rfl, HF, Lib.hid (((Below.refl _ _).alloc (Nat.le_refl _) _).alloc (by rw [hsz1]; omega) _), Lib.hid (Kd.R_nil _ _ _ _ _), Lib.hid ?_, Lib.hid (blk_alloc (blk_new w _) _)⟩
    rw [← hsz1 (.cells #[.int .i64 0, .int .i64 0, .int .i64 0] 23)]
    exact blk_new _ _
  case round =>
    obtain ⟨k, a, xs, hk, rfl, hxl, hF, hB, hR, hb5, hb2⟩ := hrel
    have hslt := blk_lt hb5.out
    have d0 : wr.cell? ⟨w.heap.size, 0, none⟩ = some (.int .i64 0) := (blk_cell hb2.out 0).trans rfl
    have d1 : wr.cell? ⟨w.heap.size, 1, none⟩ = some (.int .i64 0) := (blk_cell hb2.out 1).trans rfl
    have d2 : wr.cell? ⟨w.heap.size, 2, none⟩ = some (.int .i64 0) := (blk_cell hb2.out 2).trans rfl
    have y0 := blk_frozen hb2.out 0
    have y1 := blk_frozen hb2.out 1
    have y2 := blk_frozen hb2.out 2
    have c0 : wr.cell? ⟨w.heap.size + 1, 0, none⟩ = some (.int .i64 0) := (blk_cell hb5.out 0).trans rfl
    have c1 : wr.cell? ⟨w.heap.size + 1, 1, none⟩ = some (.int .i64 0) := (blk_cell hb5.out 1).trans rfl
    have c2 : wr.cell? ⟨w.heap.size + 1, 2, none⟩ = some (.int .i64 0) := (blk_cell hb5.out 2).trans rfl
    obtain ⟨Ao, co, rfl⟩ := Kd.R_slice hR.out
    by_cases hlt : k < 3
    · have hF' := hF.out
      rw [show 3 - k = (2 - k) + 1 by omega] at hF'
      unfold getR at hF'
      have ha : 0 ≤ a ∧ a ≤ l.length := by
        rcases Classical.em (0 ≤ a ∧ a ≤ (l.length : Int)) with h | h
        · exact h
        · rw [if_neg h] at hF'; exact absurd hF' (by simp)
      rw [if_pos ha] at hF'
      obtain ⟨g, hg, hF'⟩ := Option.bind_eq_some_iff.mp hF'
      have hF2 := Lib.hid hF'
      have hinfo : (Tryd.prog.info? 5).map (fun i => (i.zero, i.size, i.bytes)) = some (some (.int .u8 0), 1, 1) := by kernel_rfl
      have hi3 : (Tryd.prog.info? 3).map (fun i => (i.zero, i.size, i.bytes)) = some (some (.int .i64 0), 1, 8) := by kernel_rfl
      have HI3 := Lib.hid hi3
      obtain ⟨i0, hi0, _, hsz, _⟩ := info_parts hinfo
      obtain ⟨A', hcut, hA', hC'⟩ := print_drop_of (P := Tryd.prog) (Value.int .u8) 0 27 5 .i64 Tryd.underlying27 hi0 hsz A c l a ha.1 ha.2 HC.out
      have hRd : Kd.C (Kd.int .u8) w A' (l.drop a.toNat).length (l.drop a.toNat) := Kd.C_of_reads (h1 := fun _ => rfl) (hA' _ (Kd.reads_of_C HR.out))
      have hCall : ∀ W, Below w.heap.size w W → Calls Tryd.prog 26 #[.slice A' (l.length - a.toNat) (c - a.toNat)] W fun e w' => e = .returned (.tuple #[.int .i64 g.1, .int .i64 g.2.1, .int .i64 g.2.2]) ∧ ∃ n, w' = W.drewN n := fun W hb => by
        have h := HWH.out A' _ _ g W (Kd.C_below hRd hb) hC' hg
        rw [List.length_drop] at h
        exact h
      have HCall := Lib.hid hCall
      obtain ⟨x, sz, e⟩ := g
      simp only at hF2 HCall
      have t1 : decide (xs.length < 3) = true := decide_eq_true (by omega)
      have t2 : decide ((xs.length : Int) < 3) = true := decide_eq_true (by omega)
      have HL := Lib.hid hxl
      have HK := Lib.hid hlt
      clear hF' hg hA' hC' hRd hCall hi0 hsz hinfo ha hF hxl hk hlt hi3
      go_wp2_with fail
      refine (HCall.out _ hB.out).mono ?_
      rintro _ w2 ⟨rfl, ⟨n, rfl⟩⟩
      by_cases he : e = 0
      · subst he
        rw [if_pos rfl] at hF2
        go_wp2_with ((with_reducible refine gate_builtin (b := .append) (xs := #[.tmp 29, .tmp 31]) rfl ?_); at_builtin; refine Kd.R_append (Kd.int .i64) (w0 := w) w.heap.size rfl (.tmp 29) (.tmp 31) 45 3 (.int .i64 0) 8 rfl Tryd.underlying45 HI3.out rfl (by decide) (by omega) (.slice Ao xs.length co) xs x [.int .i64 x] (fun q => q ≠ w.heap.size ∧ q ≠ w.heap.size + 1) (fun _ => False) rfl rfl rfl (fun _ hk => hk.elim) (fun q hq => by have h1 : wr.heap.size ≤ q := hq; exact ⟨by omega, by omega⟩) (Kd.R_drewN hR.out n) (bdrewN hB.out n) hB.out.size (by have := HL.out; have := HK.out; omega) ?_; intro v1 w1 ho hb hg hat)
        have hb5' := blk_grown (blk_drewN hb5.out n) hg (fun e_ => (hR.out.1 _ e_.symm).2 rfl)
        have hb2' := blk_grown (blk_drewN hb2.out n) hg (fun e_ => (hR.out.1 _ e_.symm).1 rfl)
        obtain ⟨A1, c1', rfl⟩ := Kd.R_slice ho
        refine ⟨⟨k + 1, wrap64 (a + sz), xs ++ [x], HK.out, rfl, by rw [List.length_append, HL.out]; rfl, Lib.hid (by rw [show 3 - (k + 1) = 2 - k by omega]; exact hF2.out), Lib.hid hb, Lib.hid ho, Lib.hid hb5', Lib.hid hb2'⟩, ?_⟩
        have h1 := HL.out
        have h2 := HK.out
        simp [lenOf]
        omega
      · rw [if_neg he] at hF2
        obtain rfl := Option.some.inj hF2.out
        go_wp2_with fail
        (try simp only [Exit.inBlock, Exit.then])
        refine bodyPost_ret (results_cell2 rfl _ _ w.heap.size _ _ _ _ rfl (blk_put (blk_put (blk_put (blk_drewN hb2.out n) 0 (.int .i64 0) rfl) 1 (.int .i64 0) rfl) 2 (.int .i64 0) rfl) Tryd.underlying23 rfl (by kernel_rfl)) rfl ?_
        exact ⟨rfl, bset (bset (bset (bdrewN hB.out n) (Nat.le_refl _) _) (Nat.le_refl _) _) (Nat.le_refl _) _⟩
    · have hk3 : k = 3 := by omega
      subst hk3
      obtain ⟨x0, x1, x2, rfl⟩ : ∃ x0 x1 x2, xs = [x0, x1, x2] := by
        match xs, hxl with
        | [x0, x1, x2], _ => exact ⟨x0, x1, x2, rfl⟩
      have hF' := hF.out
      rw [show 3 - 3 = 0 from rfl] at hF'
      unfold getR finR unz at hF'
      simp only [List.getD_cons_zero, List.getD_cons_succ] at hF'
      obtain ⟨t, ht, hF'⟩ := Option.bind_eq_some_iff.mp hF'
      have hM : ∀ W, _ := fun W => HMH.out _ _ _ t W ht
      have hr2 := hR.out
      obtain ⟨gb, cap, hsl⟩ := Kd.R_slice1 hr2 (by simp)
      rw [hsl] at hr2
      obtain ⟨b, rfl⟩ := Kd.R_head hr2
      rw [hsl]
      obtain ⟨q0, _⟩ := Kd.R_cell (enc := Value.int .i64) (h1 := fun _ => rfl) 0 hr2 0 (by omega) (by simp)
      obtain ⟨q1, _⟩ := Kd.R_cell (enc := Value.int .i64) (h1 := fun _ => rfl) 0 hr2 1 (by omega) (by simp)
      obtain ⟨q2, _⟩ := Kd.R_cell (enc := Value.int .i64) (h1 := fun _ => rfl) 0 hr2 2 (by omega) (by simp)
      have q0' : wr.cell? ⟨b, 0, none⟩ = some (.int .i64 x0) := q0
      have q1' : wr.cell? ⟨b, 1, none⟩ = some (.int .i64 x1) := q1
      have q2' : wr.cell? ⟨b, 2, none⟩ = some (.int .i64 x2) := q2
      have hblt : b < wr.heap.size := World.block_lt_of_cell? wr _ q0'
      have HM := Lib.hid hM
      have HF2 := Lib.hid hF'
      clear hM hF' ht hF q0 q1 q2 hr2 hlt hxl
      by_cases hmo : x2.tmod 2 = 1
      · have hm1 : (x2.tmod 2 == 1) = true := by rw [hmo]; rfl
        rw [if_pos hmo] at HM HF2
        clear hmo
        go_wp2_with fail
        go_region
        obtain ⟨W1, hW1⟩ : ∃ W1, W1 = (wr.alloc (.cells #[.int .i64 x0, .int .i64 x1, .int .i64 (wrap64 (x2.tdiv 2))] 23)).drew := ⟨_, rfl⟩
        rw [← hW1]
        have hbn := Lib.hid (show W1.heap[wr.heap.size]? = some (.cells #[.int .i64 x0, .int .i64 x1, .int .i64 (wrap64 (x2.tdiv 2))] 23 (0, 0)) by rw [hW1]; exact blk_drewN (blk_new _ _) 1)
        have hbW := Lib.hid (show Below wr.heap.size wr W1 by rw [hW1]; exact bdrewN ((Below.refl _ _).alloc (Nat.le_refl _) _) 1)
        clear hW1 d0 d1 d2 y0 y1 y2 c0 c1 c2
        have e0 : W1.cell? ⟨wr.heap.size, 0, none⟩ = some (.int .i64 x0) := (blk_cell hbn.out 0).trans rfl
        have e1 : W1.cell? ⟨wr.heap.size, 1, none⟩ = some (.int .i64 x1) := (blk_cell hbn.out 1).trans rfl
        have e2 : W1.cell? ⟨wr.heap.size, 2, none⟩ = some (.int .i64 (wrap64 (x2.tdiv 2))) := (blk_cell hbn.out 2).trans rfl
        have f2 := blk_frozen hbn.out 2
        have q2 : W1.cell? ⟨b, 2, none⟩ = some (.int .i64 x2) := (hbW.out.cell (p := ⟨b, 2, none⟩) hblt).trans q2'
        have hne : wr.heap.size ≠ b := Nat.ne_of_gt hblt
        clear q0' q1' q2'
        generalize hz : wrap64 (x2.tdiv 2) = z0 at *
        clear hz
        go_wp2_with fail
        generalize hz : wrap64 ((wrap64 (-(wrap64 (x2 + 1)))).tdiv 2) = z at *
        clear hz
        refine (HM.out _).mono ?_
        rintro _ w2 ⟨rfl, hb⟩
        have HB2 := Lib.hid (btrans (bset (btrans hB.out hbW.out) hB.out.size _) hb)
        have hb2' := Lib.hid (blk_below (blk_far (blk_below hb2.out hbW.out) (Nat.ne_of_lt (Nat.lt_of_succ_lt hslt)) _) hb)
        have hb6 := Lib.hid (blk_below (blk_far (blk_below hb5.out hbW.out) (Nat.ne_of_lt hslt) _) hb)
        have hb3 := Lib.hid (blk_below (blk_put hbn.out 2 (.int .i64 z) rfl) hb)
        clear hb e0 e1 e2 f2 q2
        have e0 : w2.cell? ⟨wr.heap.size, 0, none⟩ = some (.int .i64 x0) := (blk_cell hb3.out 0).trans rfl
        have e1 : w2.cell? ⟨wr.heap.size, 1, none⟩ = some (.int .i64 x1) := (blk_cell hb3.out 1).trans rfl
        have e2 : w2.cell? ⟨wr.heap.size, 2, none⟩ = some (.int .i64 z) := (blk_cell hb3.out 2).trans rfl
        have d0 : w2.cell? ⟨w.heap.size, 0, none⟩ = some (.int .i64 0) := (blk_cell hb2'.out 0).trans rfl
        have d1 : w2.cell? ⟨w.heap.size, 1, none⟩ = some (.int .i64 0) := (blk_cell hb2'.out 1).trans rfl
        have d2 : w2.cell? ⟨w.heap.size, 2, none⟩ = some (.int .i64 0) := (blk_cell hb2'.out 2).trans rfl
        have y0 := blk_frozen hb2'.out 0
        have y1 := blk_frozen hb2'.out 1
        have y2 := blk_frozen hb2'.out 2
        have c0 : w2.cell? ⟨w.heap.size + 1, 0, none⟩ = some (.int .i64 0) := (blk_cell hb6.out 0).trans rfl
        have c1 : w2.cell? ⟨w.heap.size + 1, 1, none⟩ = some (.int .i64 0) := (blk_cell hb6.out 1).trans rfl
        have c2 : w2.cell? ⟨w.heap.size + 1, 2, none⟩ = some (.int .i64 0) := (blk_cell hb6.out 2).trans rfl
        clear hne
        cases t
        · rw [if_neg (by simp)] at HF2
          obtain rfl := Option.some.inj HF2.out
          go_wp2_with fail
          (try simp only [Exit.inBlock, Exit.then])
          refine bodyPost_ret (results_cell2 rfl _ _ w.heap.size _ _ _ _ rfl (blk_put (blk_put (blk_put hb2'.out 0 (.int .i64 0) rfl) 1 (.int .i64 0) rfl) 2 (.int .i64 0) rfl) Tryd.underlying23 rfl (by kernel_rfl)) rfl ?_
          exact ⟨rfl, bset (bset (bset HB2.out (Nat.le_refl _) _) (Nat.le_refl _) _) (Nat.le_refl _) _⟩
        · rw [if_pos rfl] at HF2
          obtain rfl := Option.some.inj HF2.out
          go_wp2_with fail
          (try simp only [Exit.inBlock, Exit.then])
          refine bodyPost_ret (results_cell2 rfl _ _ w.heap.size _ _ _ _ rfl (blk_put (blk_put (blk_put hb2'.out 0 (.int .i64 x0) rfl) 1 (.int .i64 x1) rfl) 2 (.int .i64 z) rfl) Tryd.underlying23 rfl (by kernel_rfl)) rfl ?_
          exact ⟨rfl, bset (bset (bset HB2.out (Nat.le_refl _) _) (Nat.le_refl _) _) (Nat.le_refl _) _⟩
      · have hm1 : (x2.tmod 2 == 1) = false := by simp [hmo]
        rw [if_neg hmo] at HM HF2
        clear hmo
        go_wp2_with fail
        go_region
        obtain ⟨W1, hW1⟩ : ∃ W1, W1 = (wr.alloc (.cells #[.int .i64 x0, .int .i64 x1, .int .i64 (wrap64 (x2.tdiv 2))] 23)).drew := ⟨_, rfl⟩
        rw [← hW1]
        have hbn := Lib.hid (show W1.heap[wr.heap.size]? = some (.cells #[.int .i64 x0, .int .i64 x1, .int .i64 (wrap64 (x2.tdiv 2))] 23 (0, 0)) by rw [hW1]; exact blk_drewN (blk_new _ _) 1)
        have hbW := Lib.hid (show Below wr.heap.size wr W1 by rw [hW1]; exact bdrewN ((Below.refl _ _).alloc (Nat.le_refl _) _) 1)
        clear hW1 d0 d1 d2 y0 y1 y2 c0 c1 c2
        have e0 : W1.cell? ⟨wr.heap.size, 0, none⟩ = some (.int .i64 x0) := (blk_cell hbn.out 0).trans rfl
        have e1 : W1.cell? ⟨wr.heap.size, 1, none⟩ = some (.int .i64 x1) := (blk_cell hbn.out 1).trans rfl
        have e2 : W1.cell? ⟨wr.heap.size, 2, none⟩ = some (.int .i64 (wrap64 (x2.tdiv 2))) := (blk_cell hbn.out 2).trans rfl
        have f2 := blk_frozen hbn.out 2
        have q2 : W1.cell? ⟨b, 2, none⟩ = some (.int .i64 x2) := (hbW.out.cell (p := ⟨b, 2, none⟩) hblt).trans q2'
        have hne : wr.heap.size ≠ b := Nat.ne_of_gt hblt
        clear q0' q1' q2'
        generalize hz : wrap64 (x2.tdiv 2) = z at *
        clear hz
        go_wp2_with fail
        refine (HM.out _).mono ?_
        rintro _ w2 ⟨rfl, hb⟩
        have HB2 := Lib.hid (btrans (btrans hB.out hbW.out) hb)
        have hb2' := Lib.hid (blk_below (blk_below hb2.out hbW.out) hb)
        have hb6 := Lib.hid (blk_below (blk_below hb5.out hbW.out) hb)
        have hb3 := Lib.hid (blk_below (hbn.out) hb)
        clear hb e0 e1 e2 f2 q2
        have e0 : w2.cell? ⟨wr.heap.size, 0, none⟩ = some (.int .i64 x0) := (blk_cell hb3.out 0).trans rfl
        have e1 : w2.cell? ⟨wr.heap.size, 1, none⟩ = some (.int .i64 x1) := (blk_cell hb3.out 1).trans rfl
        have e2 : w2.cell? ⟨wr.heap.size, 2, none⟩ = some (.int .i64 z) := (blk_cell hb3.out 2).trans rfl
        have d0 : w2.cell? ⟨w.heap.size, 0, none⟩ = some (.int .i64 0) := (blk_cell hb2'.out 0).trans rfl
        have d1 : w2.cell? ⟨w.heap.size, 1, none⟩ = some (.int .i64 0) := (blk_cell hb2'.out 1).trans rfl
        have d2 : w2.cell? ⟨w.heap.size, 2, none⟩ = some (.int .i64 0) := (blk_cell hb2'.out 2).trans rfl
        have y0 := blk_frozen hb2'.out 0
        have y1 := blk_frozen hb2'.out 1
        have y2 := blk_frozen hb2'.out 2
        have c0 : w2.cell? ⟨w.heap.size + 1, 0, none⟩ = some (.int .i64 0) := (blk_cell hb6.out 0).trans rfl
        have c1 : w2.cell? ⟨w.heap.size + 1, 1, none⟩ = some (.int .i64 0) := (blk_cell hb6.out 1).trans rfl
        have c2 : w2.cell? ⟨w.heap.size + 1, 2, none⟩ = some (.int .i64 0) := (blk_cell hb6.out 2).trans rfl
        clear hne
        cases t
        · rw [if_neg (by simp)] at HF2
          obtain rfl := Option.some.inj HF2.out
          go_wp2_with fail
          (try simp only [Exit.inBlock, Exit.then])
          refine bodyPost_ret (results_cell2 rfl _ _ w.heap.size _ _ _ _ rfl (blk_put (blk_put (blk_put hb2'.out 0 (.int .i64 0) rfl) 1 (.int .i64 0) rfl) 2 (.int .i64 0) rfl) Tryd.underlying23 rfl (by kernel_rfl)) rfl ?_
          exact ⟨rfl, bset (bset (bset HB2.out (Nat.le_refl _) _) (Nat.le_refl _) _) (Nat.le_refl _) _⟩
        · rw [if_pos rfl] at HF2
          obtain rfl := Option.some.inj HF2.out
          go_wp2_with fail
          (try simp only [Exit.inBlock, Exit.then])
          refine bodyPost_ret (results_cell2 rfl _ _ w.heap.size _ _ _ _ rfl (blk_put (blk_put (blk_put hb2'.out 0 (.int .i64 x0) rfl) 1 (.int .i64 x1) rfl) 2 (.int .i64 z) rfl) Tryd.underlying23 rfl (by kernel_rfl)) rfl ?_
          exact ⟨rfl, bset (bset (bset HB2.out (Nat.le_refl _) _) (Nat.le_refl _) _) (Nat.le_refl _) _⟩
end Go.Proofs.YtiacjnmkomfdaaaDoor.RefGet

/-
  What ports.Send and ports.Take return.
  Conditions: the messages lie in memory as told.
-/
import Derived.Test.YtfeifmjihdfadaaPort
namespace Go.Proofs.Ytfeifmjihdfadaa.Port
set_option maxRecDepth 100000
set_option linter.unusedVariables false
set_option linter.unusedSimpArgs false
open Go.RowKit Go.Proofs.YtfeifmjihdfadaaW.PrintWords Go.Proofs.YtfeifmjihdfadaaW.PrintMore

def sendL (d : Int) (m : List Int) (x : Int) : List Int := if d ≤ m.length then m else m ++ [x]
def sendN (d : Int) (m : List Int) (lost : Int) : Int := if d ≤ m.length then wrap64 (lost + 1) else lost
def sendE (d : Int) (m : List Int) : Int := if d ≤ m.length then 2 else 0

/-- The tail of what is read. -/
theorem tail_run {w : World} {ad : Addr} {c : Nat} {m : List Int} (h : (Kd.int .i64).C w (some ad) m.length m) (hp : 0 < m.length) (hc : m.length ≤ c) :
    ∃ A1 : Addr, (∀ W : World, (Instr.slice 22 (.slice (some ad) m.length c) (some (.int .i64 1)) none none).run Try.prog W = .ok (.slice (some A1) (m.length - 1) (c - 1)) W) ∧
      (Kd.int .i64).C w (some A1) (m.drop 1).length (m.drop 1) ∧ A1.block = ad.block ∧ (ad.spot = none → A1.spot = none) := by
  have h1 := Kd.C_drop (m := 1) h hp hc
  have hi3 : (Try.prog.info? 3).map (fun i => i.size) = some 1 := rfl
  obtain ⟨i0, hi, hsz⟩ := Option.map_eq_some_iff.1 hi3
  have hel : Try.prog.elem 22 = 3 := by simp [Program.elem, Try.underlying22]
  have h2 : ∀ W : World, (Instr.slice 22 (.slice (some ad) m.length c) (some (.int .i64 1)) none none).run Try.prog W = .ok (.slice (some (if c = 1 then ad else ad.add 1)) (m.length - 1) (c - 1)) W := by
    intro W
    rw [run_slice_l W 22 (some ad) m.length c (by rw [hel]; exact Try.underlying22) .i64 1 (by omega) (by omega), hel]
    simp [sizeOf, typeInfo, hi, hsz, sliced, Result.andThen]
    split <;> rfl
  by_cases he : c = 1
  · rw [if_pos he] at h1
    exact ⟨ad, fun W => by rw [h2 W, if_pos he], h1, rfl, fun h => h⟩
  · rw [if_neg he] at h1
    exact ⟨ad.add 1, fun W => by rw [h2 W, if_neg he], h1, by unfold Addr.add; split <;> rfl, fun h => by unfold Addr.add; split <;> simp_all⟩
theorem C_move {w w1 : World} {A : Option Addr} {n : Nat} {l : List Int} (h : (Kd.int .i64).C w A n l) (hm : ∀ ad, A = some ad → w1.heap[ad.block]? = w.heap[ad.block]?) : (Kd.int .i64).C w1 A n l := by
  refine ⟨h.1, h.2.1, fun hp => ?_⟩
  obtain ⟨ad, rfl, hc⟩ := h.2.2 hp
  refine ⟨ad, rfl, fun j p hj => ?_⟩
  obtain ⟨c, h1, h2, h3⟩ := hc j p hj
  refine ⟨c, h1, h2, fun i u hu => ?_⟩
  have hb : (ad.add (j * (Kd.int .i64).sz + i)).block = ad.block := by unfold Addr.add; split <;> rfl
  exact (World.cell?_of_block (by rw [hb]; exact hm ad rfl)).trans (h3 i u hu)
theorem Rd.move {w w1 : World} {base : Nat} {v : Value} {l : List Int} (h : Rd w base v l) (hm : ∀ k, v.ownBlock = some k → w1.heap[k]? = w.heap[k]?) : Rd w1 base v l := by
  obtain ⟨A, c, rfl, h1, h2, h3, h4⟩ := h
  have hm' : ∀ ad, A = some ad → w1.heap[ad.block]? = w.heap[ad.block]? := fun ad ha => hm _ (by subst ha; rfl)
  refine ⟨A, c, rfl, h1, h2, C_move h3 hm', fun ad ha => ⟨(h4 ad ha).1, ?_, (h4 ad ha).2.2.1, ?_⟩⟩
  · obtain ⟨o, ho⟩ : ∃ o, w.heap[ad.block]? = some o := ⟨w.heap[ad.block]'(h4 ad ha).2.1, Array.getElem?_eq_getElem (h4 ad ha).2.1⟩
    exact blk_lt ((hm' ad ha).trans ho)
  · obtain ⟨cur, hcur⟩ := (h4 ad ha).2.2.2
    exact ⟨cur, (hm' ad ha).trans hcur⟩
theorem Rd.lt {w : World} {base : Nat} {v : Value} {l : List Int} (h : Rd w base v l) : ∀ k, v.ownBlock = some k → base ≤ k ∧ k < w.heap.size := by
  obtain ⟨A, c, rfl, h1, h2, h3, h4⟩ := h
  intro k hk
  rcases A with _ | ad
  · cases hk
  · have : ad.block = k := by simpa [Value.ownBlock] using hk
    subst this
    exact ⟨(h4 ad rfl).1, (h4 ad rfl).2.1⟩
theorem Rd.below {w w1 : World} {base : Nat} {v : Value} {l : List Int} (h : Rd w base v l) (hb : Below w.heap.size w w1) : Rd w1 base v l :=
  h.move fun k hk => hb.block k (h.lt k hk).2
theorem Rd.set {w : World} {base : Nat} {v : Value} {l : List Int} (h : Rd w base v l) {q i : Nat} (hq : ∀ k, v.ownBlock = some k → k ≠ q) (u : Value) : Rd (w.setCell ⟨q, i, none⟩ u) base v l :=
  h.move fun k hk => Below.heap_setCell w ⟨q, i, none⟩ u k (hq k hk)
theorem Rd.set3 {w : World} {base : Nat} {v : Value} {l : List Int} (h : Rd w base v l) {q : Nat} (hq : ∀ k, v.ownBlock = some k → k ≠ q) (a b c : Value) : Rd (((w.setCell ⟨q, 0, none⟩ a).setCell ⟨q, 1, none⟩ b).setCell ⟨q, 2, none⟩ c) base v l :=
  ((h.set hq a).set hq b).set hq c
theorem Rd.grown {w w1 : World} {base : Nat} {v : Value} {l : List Int} {row : Option Nat} (h : Rd w base v l) (hg : w.grownBy w1 row) (hr : ∀ k, v.ownBlock = some k → some k ≠ row) : Rd w1 base v l :=
  h.move fun k hk => hg.block k (h.lt k hk).2 (hr k hk)
theorem Rd.lower {w : World} {base base' : Nat} {v : Value} {l : List Int} (h : Rd w base v l) (hb : base' ≤ base) : Rd w base' v l := by
  obtain ⟨A, c, h0, h1, h2, h3, h4⟩ := h
  exact ⟨A, c, h0, h1, h2, h3, fun ad ha => ⟨Nat.le_trans hb (h4 ad ha).1, (h4 ad ha).2⟩⟩
theorem addr0 (ad : Addr) : ad.add 0 = ad := by unfold Addr.add; split <;> simp_all
theorem fresh_of {W : World} {v v1 : Value} {b : Nat} (HA : v1.ownBlock = v.ownBlock ∨ ∃ b, v1.ownBlock = some b ∧ W.heap.size ≤ b) (HN : ∀ k, v.ownBlock = some k → b ≤ k) (hW : b ≤ W.heap.size) : ∀ k, v1.ownBlock = some k → b ≤ k := by
  intro k hk
  rcases HA with h | ⟨b', h, hb⟩
  · exact HN k (h ▸ hk)
  · rw [h] at hk
    injection hk with hk
    omega
set_option maxHeartbeats 2000000 in
theorem send_any (d lost x : Int) (A : Option Addr) (c : Nat) (m : List Int) (w : World) (hr : (Kd.int .i64).C w A m.length m) (hc : m.length ≤ c) (hn : A = none → c = 0) (hl : m.length ≤ 1000000) :
    Calls Try.prog 11 #[.agg #[.int .i64 d, .slice A m.length c, .int .i64 lost], .int .i64 x] w fun e w' => ∃ v, e = .returned (.tuple #[.agg #[.int .i64 d, v, .int .i64 (sendN d m lost)], .int .i64 (sendE d m)]) ∧ Row w' w.heap.size v (sendL d m x) ∧ Below w.heap.size w w' := by
  have HR := Lib.hid hr
  clear hr
  unfold sendN sendE sendL
  go_enter Try.func11, Try.ntmps11
  go_wp2_with fail
  refine (own_any d lost A c m _ (Kd.C_below HR.out (balloc (balloc (Below.refl _ _) _) _)) hc hn hl).mono ?_
  rintro e w1 ⟨v, rfl, ho, hb⟩
  have hb' := (btrans (balloc (balloc (Below.refl _ _) _) _) hb)
  rw [alloc_size, alloc_size] at ho
  have hne : ∀ k, v.ownBlock = some k → w.heap.size + 1 + 1 ≤ k := fun k hk => (ho.lt k hk).1
  have b0 := blk_below (two_blk w _ _).1 hb
  have b1 := blk_below (two_blk w _ _).2 hb
  obtain ⟨A', c', rfl, h1, h2, h3⟩ := ho.slice
  have HO := Lib.hid ((ho.lower (show w.heap.size ≤ w.heap.size + 1 + 1 by omega)).set3 (q := w.heap.size) (fun k hk => by have := hne k hk; omega) (.int .i64 d) (.slice A' m.length c') (.int .i64 lost))
  have HB := Lib.hid (put3 hb' (Nat.le_refl _) (.int .i64 d) (.slice A' m.length c') (.int .i64 lost))
  have HN := Lib.hid hne
  have B0 := Lib.hid (blk_put (blk_put (blk_put b0 0 (.int .i64 d) rfl) 1 (.slice A' m.length c') rfl) 2 (.int .i64 lost) rfl)
  have B1 := Lib.hid (blk_far (blk_far (blk_far b1 (p := ⟨w.heap.size, 0, none⟩) (by simp) (.int .i64 d)) (p := ⟨w.heap.size, 1, none⟩) (by simp) (.slice A' m.length c')) (p := ⟨w.heap.size, 2, none⟩) (by simp) (.int .i64 lost))
  obtain ⟨p0, p1, p2, z0, z1, z2, pl⟩ := qf b0
  clear ho hb hb' hne b0 b1
  go_upto_region 2 with fail
  generalize (((w1.setCell ⟨w.heap.size, 0, none⟩ (.int .i64 d)).setCell ⟨w.heap.size, 1, none⟩ (.slice A' m.length c')).setCell ⟨w.heap.size, 2, none⟩ (.int .i64 lost)) = W at *
  clear p0 p1 p2 z0 z1 z2 pl
  obtain ⟨p0, p1, p2, z0, z1, z2, pl⟩ := qf B0.out
  obtain ⟨y0, y1, y2, x0, x1, x2, yl⟩ := qf B1.out
  by_cases hd : d ≤ m.length
  · have HO2 := Lib.hid (HO.out.set (q := w.heap.size) (i := 2) (fun k hk => by have := HN.out k hk; omega) (.int .i64 (wrap64 (lost + 1))))
    have HB2 := Lib.hid (HB.out.setCell (p := ⟨w.heap.size, 2, none⟩) (Nat.le_refl _) (.int .i64 (wrap64 (lost + 1))))
    have B02 := Lib.hid (blk_put B0.out 2 (.int .i64 (wrap64 (lost + 1))) rfl)
    have B12 := Lib.hid (blk_far B1.out (p := ⟨w.heap.size, 2, none⟩) (by simp) (.int .i64 (wrap64 (lost + 1))))
    go_upto_region 4 with fail
    generalize W.setCell ⟨w.heap.size, 2, none⟩ (.int .i64 (wrap64 (lost + 1))) = W2 at *
    clear p0 p1 p2 z0 z1 z2 pl y0 y1 y2 x0 x1 x2 yl
    obtain ⟨p0, p1, p2, z0, z1, z2, pl⟩ := qf B02.out
    obtain ⟨y0, y1, y2, x0, x1, x2, yl⟩ := qf B12.out
    go_wp2_with fail
    refine bodyPost_ret (results_list (rs := [.cell 4 24, .tmp 5]) rfl (by simp) (.cell (w.heap.size + 1) 24 _ (0, 0) _ rfl (blk_put (blk_put (blk_put B12.out 0 (.int .i64 d) rfl) 1 (.slice A' m.length c') rfl) 2 (.int .i64 (wrap64 (lost + 1))) rfl) Try.underlying24 rfl (by kernel_rfl) (.tmp .nil))) rfl ?_
    simp only [if_pos hd]
    exact ⟨_, rfl, HO2.out.set3 (fun k hk => by have := HN.out k hk; omega) _ _ _, put3 HB2.out (Nat.le_succ _) _ _ _⟩
  · go_wp2_with ((with_reducible refine gate_builtin (b := .append) (xs := #[.tmp 20, .tmp 22]) rfl ?_); at_builtin; refine append_ev rfl (.tmp 20) (.tmp 22) rfl (v := .slice A' m.length c') rfl rfl (HO.out.below (balloc (Below.refl _ _) (.cells #[.int .i64 x] 3))) ((blk_cell (blk_new _ _) 0).trans rfl) (by have := HB.out.size; rw [alloc_size]; omega) hl ?_; intro v1 w2 ho hg hat; obtain ⟨A1, c1, rfl, k1, k2, k3⟩ := ho.slice; obtain ⟨p0, p1, p2, z0, z1, z2, pl⟩ := qf (blk_grown (blk_alloc B0.out _) hg (fun h => by have := HN.out _ h.symm; omega)); have D1 := Lib.hid (blk_grown (blk_alloc B1.out _) hg (fun h => by have := HN.out _ h.symm; omega)); obtain ⟨y0, y1, y2, x0, x1, x2, yl⟩ := qf D1.out; have HA := Lib.hid hat; have HG := Lib.hid hg; have HO2 := Lib.hid ho; clear ho hg hat)
    have HN2 := fresh_of HA.out HN.out (by rw [alloc_size]; omega)
    have hlen : (m ++ [x]).length = m.length + 1 := by simp
    rw [hlen] at HO2 HN2
    refine bodyPost_ret (results_list (rs := [.cell 4 24, .tmp 5]) rfl (by simp) (.cell (w.heap.size + 1) 24 _ (0, 0) _ rfl (blk_put (blk_put (blk_put (blk_far D1.out (p := ⟨w.heap.size, 1, none⟩) (by simp) (.slice A1 (m.length + 1) c1)) 0 (.int .i64 d) rfl) 1 (.slice A1 (m.length + 1) c1) rfl) 2 (.int .i64 lost) rfl) Try.underlying24 rfl (by kernel_rfl) (.tmp .nil))) rfl ?_
    simp only [if_neg (Int.not_le.2 hd)]
    exact ⟨_, rfl, (HO2.out.set (fun k hk => by have := HN2 k hk; omega) _).set3 (fun k hk => by have := HN2 k hk; omega) _ _ _, put3 (((balloc HB.out _).grown HG.out (by rw [alloc_size]; omega) (fun k hk => by have := HN.out k hk; omega)).setCell (Nat.le_refl _) _) (Nat.le_succ _) _ _ _⟩

/-- What ports.Take returns. -/
def takeL (m : List Int) : List Int := m.drop 1
def takeE (m : List Int) : Int := if m.length = 0 then 2 else 0
def takeV (m : List Int) : Int := rd m 0
set_option maxHeartbeats 2000000 in
theorem take_any (d lost : Int) (A : Option Addr) (c : Nat) (m : List Int) (w : World) (hr : (Kd.int .i64).C w A m.length m) (hc : m.length ≤ c) (hn : A = none → c = 0) (hl : m.length ≤ 1000000) :
    Calls Try.prog 13 #[.agg #[.int .i64 d, .slice A m.length c, .int .i64 lost]] w fun e w' => ∃ v, e = .returned (.tuple #[.agg #[.int .i64 d, v, .int .i64 lost], .int .i64 (takeE m), .int .i64 (takeV m)]) ∧ Rd w' w.heap.size v (takeL m) ∧ Below w.heap.size w w' := by
  have HR := Lib.hid hr
  clear hr
  unfold takeE takeV takeL
  go_enter Try.func13, Try.ntmps13
  go_wp2_with fail
  refine (own_any d lost A c m _ (Kd.C_below HR.out (balloc (balloc (Below.refl _ _) _) _)) hc hn hl).mono ?_
  rintro e w1 ⟨v, rfl, ho, hb⟩
  have hb' := (btrans (balloc (balloc (Below.refl _ _) _) _) hb)
  rw [alloc_size, alloc_size] at ho
  have hne : ∀ k, v.ownBlock = some k → w.heap.size + 1 + 1 ≤ k := fun k hk => (ho.lt k hk).1
  have b0 := blk_below (two_blk w _ _).1 hb
  have b1 := blk_below (two_blk w _ _).2 hb
  obtain ⟨A', c', rfl, h1, h2, h3⟩ := ho.slice
  have HO := Lib.hid ((ho.lower (show w.heap.size ≤ w.heap.size + 1 + 1 by omega)).set3 (q := w.heap.size) (fun k hk => by have := hne k hk; omega) (.int .i64 d) (.slice A' m.length c') (.int .i64 lost))
  have HB := Lib.hid (put3 hb' (Nat.le_refl _) (.int .i64 d) (.slice A' m.length c') (.int .i64 lost))
  have HN := Lib.hid hne
  have B0 := Lib.hid (blk_put (blk_put (blk_put b0 0 (.int .i64 d) rfl) 1 (.slice A' m.length c') rfl) 2 (.int .i64 lost) rfl)
  have B1 := Lib.hid (blk_far (blk_far (blk_far b1 (p := ⟨w.heap.size, 0, none⟩) (by simp) (.int .i64 d)) (p := ⟨w.heap.size, 1, none⟩) (by simp) (.slice A' m.length c')) (p := ⟨w.heap.size, 2, none⟩) (by simp) (.int .i64 lost))
  obtain ⟨p0, p1, p2, z0, z1, z2, pl⟩ := qf b0
  clear ho hb hb' hne b0 b1
  go_upto_region 2 with fail
  generalize (((w1.setCell ⟨w.heap.size, 0, none⟩ (.int .i64 d)).setCell ⟨w.heap.size, 1, none⟩ (.slice A' m.length c')).setCell ⟨w.heap.size, 2, none⟩ (.int .i64 lost)) = W at *
  clear p0 p1 p2 z0 z1 z2 pl
  obtain ⟨p0, p1, p2, z0, z1, z2, pl⟩ := qf B0.out
  obtain ⟨y0, y1, y2, x0, x1, x2, yl⟩ := qf B1.out
  by_cases hz : m.length = 0
  · have hd : ((m.length : Int) == 0) = true := by simp [hz]
    go_wp2_with fail
    refine bodyPost_ret (results_list (rs := [.cell 2 24, .tmp 3, .tmp 4]) rfl (by simp) (.cell (w.heap.size + 1) 24 _ (0, 0) _ rfl (blk_put (blk_put (blk_put B1.out 0 (.int .i64 d) rfl) 1 (.slice A' 0 c') rfl) 2 (.int .i64 lost) rfl) Try.underlying24 rfl (by kernel_rfl) (.tmp (.tmp .nil)))) rfl ?_
    obtain rfl := List.eq_nil_of_length_eq_zero hz
    exact ⟨_, rfl, (HO.out.set3 (fun k hk => by have := HN.out k hk; omega) _ _ _).rd, put3 HB.out (Nat.le_succ _) _ _ _⟩
  · have hd : ((m.length : Int) == 0) = false := by rw [beq_eq_false_iff_ne]; omega
    obtain ⟨ad, rfl, hc0⟩ := Kd.at_int HO.out.C 0 (Int.le_refl _) (by omega)
    rw [show ad.add (Int.toNat 0) = ad from addr0 ad] at hc0
    obtain ⟨A1, hsl, hC1, hA1, hAs⟩ := tail_run HO.out.C (by omega) h1
    have HC1 := Lib.hid hC1
    have hlt : (0 : Int) < (m.length : Int) := by omega
    go_wp2_with fail
    have hlen : (m.drop 1).length = m.length - 1 := List.length_drop
    have hbk : ∀ k, (Value.slice (some A1) (m.length - 1) (c' - 1)).ownBlock = some k → w.heap.size + 1 + 1 ≤ k := by
      intro k hk
      have : A1.block = k := by simpa [Value.ownBlock] using hk
      exact HN.out k (by simp [Value.ownBlock]; omega)
    have hR : Rd W w.heap.size (.slice (some A1) (m.length - 1) (c' - 1)) (m.drop 1) := by
      rw [← hlen]
      refine ⟨_, _, rfl, by omega, fun h => (by cases h), HC1.out, fun ad' ha => ?_⟩
      injection ha with ha
      subst ha
      obtain ⟨q1, q2, q3, q4⟩ : w.heap.size ≤ ad.block ∧ ad.block < W.heap.size ∧ ad.spot = none ∧ ∃ cur, W.heap[ad.block]? = some (.cells cur 3 (0, 0)) := by
        obtain ⟨A9, c9, he9, _, _, _, h9⟩ := HO.out.rd
        injection he9 with he9
        exact h9 ad he9.symm
      rw [hA1]
      exact ⟨q1, q2, hAs q3, q4⟩
    refine bodyPost_ret (results_list (rs := [.cell 2 24, .tmp 3, .tmp 4]) rfl (by simp) (.cell (w.heap.size + 1) 24 _ (0, 0) _ rfl (blk_put (blk_put (blk_put (blk_far B1.out (p := ⟨w.heap.size, 1, none⟩) (by simp) (.slice (some A1) (m.length - 1) (c' - 1))) 0 (.int .i64 d) rfl) 1 (.slice (some A1) (m.length - 1) (c' - 1)) rfl) 2 (.int .i64 lost) rfl) Try.underlying24 rfl (by kernel_rfl) (.tmp (.tmp .nil)))) rfl ?_
    refine ⟨_, rfl, ?_, put3 (HB.out.setCell (Nat.le_refl _) _) (Nat.le_succ _) _ _ _⟩
    rw [List.drop_one] at hR
    exact (hR.set (fun k hk => by have := hbk k hk; omega) _).set3 (fun k hk => by have := hbk k hk; omega) _ _ _
end Go.Proofs.Ytfeifmjihdfadaa.Port

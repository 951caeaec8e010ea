/-
  What the reference's Send, Take, Move answer.
  Conditions: the messages lie in memory as told.
-/
import Derived.Test.YtfeifmjihdfadaaPortB
namespace Go.Proofs.Ytfeifmjihdfadaa.Port
set_option maxRecDepth 100000
set_option linter.unusedVariables false
set_option linter.unusedSimpArgs false
open Go.RowKit Go.Proofs.YtfeifmjihdfadaaW.PrintWords Go.Proofs.YtfeifmjihdfadaaW.PrintMore

set_option maxHeartbeats 2000000 in
theorem refsend_any (d lost x : Int) (A : Option Addr) (c : Nat) (m : List Int) (w : World) (hr : (Kd.int .i64).C w A m.length m) (hl : m.length ≤ 100000) :
    Calls Try.prog 12 #[.agg #[.int .i64 d, .slice A m.length c, .int .i64 lost], .int .i64 x] w fun e w' => ∃ v, e = .returned (.tuple #[.agg #[.int .i64 d, v, .int .i64 (sendN d m lost)], .int .i64 (sendE d m)]) ∧ Row w' w.heap.size v (sendL d m x) ∧ Below w.heap.size w w' := by
  have HR := Lib.hid hr
  have HL := Lib.hid hl
  clear hr hl
  unfold sendN sendE sendL
  go_enter Try.func12, Try.ntmps12
  go_upto_region 1 with fail
  have B0 := Lib.hid (two_blk w (.cells #[.int .i64 d, .slice A m.length c, .int .i64 lost] 24) (.cells #[.int .i64 0, .slice none 0 0, .int .i64 0] 24)).1
  have B1 := Lib.hid (two_blk w (.cells #[.int .i64 d, .slice A m.length c, .int .i64 lost] 24) (.cells #[.int .i64 0, .slice none 0 0, .int .i64 0] 24)).2
  have HB := Lib.hid (balloc (balloc (Below.refl w.heap.size w) (.cells #[.int .i64 d, .slice A m.length c, .int .i64 lost] 24)) (.cells #[.int .i64 0, .slice none 0 0, .int .i64 0] 24))
  have HS : Hid (((w.alloc (.cells #[.int .i64 d, .slice A m.length c, .int .i64 lost] 24)).alloc (.cells #[.int .i64 0, .slice none 0 0, .int .i64 0] 24)).heap.size = w.heap.size + 1 + 1) := Lib.hid (by simp only [alloc_size])
  generalize ((w.alloc (.cells #[.int .i64 d, .slice A m.length c, .int .i64 lost] 24)).alloc (.cells #[.int .i64 0, .slice none 0 0, .int .i64 0] 24)) = W0 at *
  obtain ⟨p0, p1, p2, z0, z1, z2, pl⟩ := qf B0.out
  go_upto_region 2 with ((with_reducible refine gate_builtin (b := .append) (xs := #[.const (.slice none 0 0), .tmp 7]) rfl ?_); at_builtin; refine copy_ev rfl (.tmp 7) rfl (ys := m) rfl (Kd.C_below HR.out HB.out) (by have := HL.out; omega) ?_; intro v1 w1 ho hb; obtain ⟨A', c', rfl, h1, h2, h3⟩ := ho.slice; have HO1 := Lib.hid ho; have HB1 := Lib.hid hb; obtain ⟨p0', p1', p2', z0', z1', z2', pl'⟩ := qf (blk_below B0.out hb); clear ho hb)
  have HN : Hid (∀ k, (Value.slice A' m.length c').ownBlock = some k → w.heap.size + 1 + 1 ≤ k) := Lib.hid (fun k hk => by have := (HO1.out.lt k hk).1; have := HS.out; omega)
  have HO := Lib.hid ((HO1.out.lower HB.out.size).set (q := w.heap.size) (i := 1) (fun k hk => by have := HN.out k hk; omega) (.slice A' m.length c'))
  have C0 := Lib.hid (blk_put (blk_below B0.out HB1.out) 1 (.slice A' m.length c') rfl)
  have C1 := Lib.hid (blk_far (blk_below B1.out HB1.out) (p := ⟨w.heap.size, 1, none⟩) (by simp) (.slice A' m.length c'))
  have HC := Lib.hid ((btrans HB.out HB1.out).setCell (p := ⟨w.heap.size, 1, none⟩) (Nat.le_refl _) (.slice A' m.length c'))
  clear p0 p1 p2 z0 z1 z2 pl p0' p1' p2' z0' z1' z2' pl' B0 B1 HB
  have B0 := C0
  have B1 := C1
  have HB := HC
  clear C0 C1 HC
  generalize w1.setCell ⟨w.heap.size, 1, none⟩ (.slice A' m.length c') = W at *
  obtain ⟨p0, p1, p2, z0, z1, z2, pl⟩ := qf B0.out
  obtain ⟨y0, y1, y2, x0, x1, x2, yl⟩ := qf B1.out
  by_cases hd : d ≤ m.length
  · have HO2 := Lib.hid (HO.out.set (q := w.heap.size) (i := 2) (fun k hk => by have := HN.out k hk; omega) (.int .i64 (wrap64 (lost + 1))))
    have HB2 := Lib.hid (HB.out.setCell (p := ⟨w.heap.size, 2, none⟩) (Nat.le_refl _) (.int .i64 (wrap64 (lost + 1))))
    have B02 := Lib.hid (blk_put B0.out 2 (.int .i64 (wrap64 (lost + 1))) rfl)
    have B12 := Lib.hid (blk_far B1.out (p := ⟨w.heap.size, 2, none⟩) (by simp) (.int .i64 (wrap64 (lost + 1))))
    go_upto_region 4 with fail
    generalize W.setCell ⟨w.heap.size, 2, none⟩ (.int .i64 (wrap64 (lost + 1))) = W2 at *
    clear p0 p1 p2 z0 z1 z2 pl y0 y1 y2 x0 x1 x2 yl
    obtain ⟨p0, p1, p2, z0, z1, z2, pl⟩ := qf B02.out
    obtain ⟨y0, y1, y2, x0, x1, x2, yl⟩ := qf B12.out
    go_wp2_with fail
    refine bodyPost_ret (results_list (rs := [.cell 4 24, .tmp 5]) rfl (by simp) (.cell (w.heap.size + 1) 24 _ (0, 0) _ rfl (blk_put (blk_put (blk_put B12.out 0 (.int .i64 d) rfl) 1 (.slice A' m.length c') rfl) 2 (.int .i64 (wrap64 (lost + 1))) rfl) Try.underlying24 rfl (by kernel_rfl) (.tmp .nil))) rfl ?_
    simp only [if_pos hd]
    exact ⟨_, rfl, HO2.out.set3 (fun k hk => by have := HN.out k hk; omega) _ _ _, put3 HB2.out (Nat.le_succ _) _ _ _⟩
  · go_wp2_with ((with_reducible refine gate_builtin (b := .append) (xs := #[.tmp 22, .tmp 24]) rfl ?_); at_builtin; refine append_ev rfl (.tmp 22) (.tmp 24) rfl (v := .slice A' m.length c') rfl rfl (HO.out.below (balloc (Below.refl _ _) (.cells #[.int .i64 x] 3))) ((blk_cell (blk_new _ _) 0).trans rfl) (by have := HB.out.size; rw [alloc_size]; omega) (by have := HL.out; omega) ?_; intro v1 w2 ho hg hat; obtain ⟨A1, c1, rfl, k1, k2, k3⟩ := ho.slice; obtain ⟨p0, p1, p2, z0, z1, z2, pl⟩ := qf (blk_grown (blk_alloc B0.out _) hg (fun h => by have := HN.out _ h.symm; omega)); have D1 := Lib.hid (blk_grown (blk_alloc B1.out _) hg (fun h => by have := HN.out _ h.symm; omega)); obtain ⟨y0, y1, y2, x0, x1, x2, yl⟩ := qf D1.out; have HA := Lib.hid hat; have HG := Lib.hid hg; have HO2 := Lib.hid ho; clear ho hg hat)
    have HN2 := fresh_of HA.out HN.out (by rw [alloc_size]; omega)
    have hlen : (m ++ [x]).length = m.length + 1 := by simp
    rw [hlen] at HO2 HN2
    refine bodyPost_ret (results_list (rs := [.cell 4 24, .tmp 5]) rfl (by simp) (.cell (w.heap.size + 1) 24 _ (0, 0) _ rfl (blk_put (blk_put (blk_put (blk_far D1.out (p := ⟨w.heap.size, 1, none⟩) (by simp) (.slice A1 (m.length + 1) c1)) 0 (.int .i64 d) rfl) 1 (.slice A1 (m.length + 1) c1) rfl) 2 (.int .i64 lost) rfl) Try.underlying24 rfl (by kernel_rfl) (.tmp .nil))) rfl ?_
    simp only [if_neg (Int.not_le.2 hd)]
    exact ⟨_, rfl, (HO2.out.set (fun k hk => by have := HN2 k hk; omega) _).set3 (fun k hk => by have := HN2 k hk; omega) _ _ _, put3 (((balloc HB.out _).grown HG.out (by rw [alloc_size]; omega) (fun k hk => by have := HN.out k hk; omega)).setCell (Nat.le_refl _) _) (Nat.le_succ _) _ _ _⟩

set_option maxHeartbeats 2000000 in
theorem reftake_nil (d lost : Int) (A : Option Addr) (c : Nat) (w : World) :
    Calls Try.prog 14 #[.agg #[.int .i64 d, .slice A 0 c, .int .i64 lost]] w fun e w' => e = .returned (.tuple #[.agg #[.int .i64 d, .slice A 0 c, .int .i64 lost], .int .i64 2, .int .i64 0]) ∧ Below w.heap.size w w' := by
  go_enter Try.func14, Try.ntmps14
  go_upto_region 1 with fail
  have B0 := Lib.hid (two_blk w (.cells #[.int .i64 d, .slice A 0 c, .int .i64 lost] 24) (.cells #[.int .i64 0, .slice none 0 0, .int .i64 0] 24)).1
  have B1 := Lib.hid (two_blk w (.cells #[.int .i64 d, .slice A 0 c, .int .i64 lost] 24) (.cells #[.int .i64 0, .slice none 0 0, .int .i64 0] 24)).2
  have HB := Lib.hid (balloc (balloc (Below.refl w.heap.size w) (.cells #[.int .i64 d, .slice A 0 c, .int .i64 lost] 24)) (.cells #[.int .i64 0, .slice none 0 0, .int .i64 0] 24))
  generalize ((w.alloc (.cells #[.int .i64 d, .slice A 0 c, .int .i64 lost] 24)).alloc (.cells #[.int .i64 0, .slice none 0 0, .int .i64 0] 24)) = W0 at *
  obtain ⟨p0, p1, p2, z0, z1, z2, pl⟩ := qf B0.out
  obtain ⟨y0, y1, y2, x0, x1, x2, yl⟩ := qf B1.out
  go_wp2_with fail
  refine bodyPost_ret (results_list (rs := [.cell 2 24, .tmp 3, .tmp 4]) rfl (by simp) (.cell (w.heap.size + 1) 24 _ (0, 0) _ rfl (blk_put (blk_put (blk_put B1.out 0 (.int .i64 d) rfl) 1 (.slice A 0 c) rfl) 2 (.int .i64 lost) rfl) Try.underlying24 rfl (by kernel_rfl) (.tmp (.tmp .nil)))) rfl ?_
  exact ⟨rfl, put3 HB.out (Nat.le_succ _) _ _ _⟩

set_option maxHeartbeats 2000000 in
theorem reftake_cons (d lost : Int) (A : Option Addr) (c : Nat) (m : List Int) (w : World) (hr : (Kd.int .i64).C w A m.length m) (hc : m.length ≤ c) (hp : 0 < m.length) (hl : m.length ≤ 100000) :
    Calls Try.prog 14 #[.agg #[.int .i64 d, .slice A m.length c, .int .i64 lost]] w fun e w' => ∃ v, e = .returned (.tuple #[.agg #[.int .i64 d, v, .int .i64 lost], .int .i64 0, .int .i64 (rd m 0)]) ∧ Row w' w.heap.size v (m.drop 1) ∧ Below w.heap.size w w' := by
  have HR := Lib.hid hr
  have HL := Lib.hid hl
  have HC := Lib.hid hc
  clear hr hl hc
  go_enter Try.func14, Try.ntmps14
  go_upto_region 1 with fail
  have B0 := Lib.hid (two_blk w (.cells #[.int .i64 d, .slice A m.length c, .int .i64 lost] 24) (.cells #[.int .i64 0, .slice none 0 0, .int .i64 0] 24)).1
  have B1 := Lib.hid (two_blk w (.cells #[.int .i64 d, .slice A m.length c, .int .i64 lost] 24) (.cells #[.int .i64 0, .slice none 0 0, .int .i64 0] 24)).2
  have HB := Lib.hid (balloc (balloc (Below.refl w.heap.size w) (.cells #[.int .i64 d, .slice A m.length c, .int .i64 lost] 24)) (.cells #[.int .i64 0, .slice none 0 0, .int .i64 0] 24))
  have HS : Hid (((w.alloc (.cells #[.int .i64 d, .slice A m.length c, .int .i64 lost] 24)).alloc (.cells #[.int .i64 0, .slice none 0 0, .int .i64 0] 24)).heap.size = w.heap.size + 1 + 1) := Lib.hid (by simp only [alloc_size])
  generalize ((w.alloc (.cells #[.int .i64 d, .slice A m.length c, .int .i64 lost] 24)).alloc (.cells #[.int .i64 0, .slice none 0 0, .int .i64 0] 24)) = W0 at *
  obtain ⟨p0, p1, p2, z0, z1, z2, pl⟩ := qf B0.out
  have hd : ((m.length : Int) == 0) = false := by rw [beq_eq_false_iff_ne]; omega
  obtain ⟨ad, rfl, hc0⟩ := Kd.at_int (Kd.C_below HR.out HB.out) 0 (Int.le_refl _) (by omega)
  rw [show ad.add (Int.toNat 0) = ad from addr0 ad] at hc0
  obtain ⟨A1, hsl, hC1, hA1⟩ := tail_run HR.out (by omega) HC.out
  have HC1 := Lib.hid hC1
  have hlt : (0 : Int) < (m.length : Int) := by omega
  have hlen : m.length - 1 = (m.drop 1).length := by rw [List.length_drop]
  obtain ⟨L, hL⟩ : ∃ L, L = m.drop 1 := ⟨_, rfl⟩
  have HLL : Hid (L.length ≤ 100000) := Lib.hid (by have := HL.out; rw [hL, List.length_drop]; omega)
  rw [hlen] at hsl
  rw [← hL] at hsl HC1
  have HLq := Lib.hid hL
  clear hlen hL hC1
  go_upto_region 5 with ((with_reducible refine gate_builtin (b := .append) (xs := #[.const (.slice none 0 0), .tmp 17]) rfl ?_); at_builtin; refine copy_ev rfl (.tmp 17) rfl (ys := L) rfl (Kd.C_below HC1.out HB.out) (by have := HLL.out; omega) ?_; intro v1 w1 ho hb; obtain ⟨A', c', rfl, h1, h2, h3⟩ := ho.slice; have HO1 := Lib.hid ho; have HB1 := Lib.hid hb; obtain ⟨p0', p1', p2', z0', z1', z2', pl'⟩ := qf (blk_below B0.out hb); clear ho hb)
  have HN : Hid (∀ k, (Value.slice A' L.length c').ownBlock = some k → w.heap.size + 1 + 1 ≤ k) := Lib.hid (fun k hk => by have := (HO1.out.lt k hk).1; have := HS.out; omega)
  have HO := Lib.hid ((HO1.out.lower HB.out.size).set (q := w.heap.size) (i := 1) (fun k hk => by have := HN.out k hk; omega) (.slice A' L.length c'))
  have C0 := Lib.hid (blk_put (blk_below B0.out HB1.out) 1 (.slice A' L.length c') rfl)
  have C1 := Lib.hid (blk_far (blk_below B1.out HB1.out) (p := ⟨w.heap.size, 1, none⟩) (by simp) (.slice A' L.length c'))
  have HC2 := Lib.hid ((btrans HB.out HB1.out).setCell (p := ⟨w.heap.size, 1, none⟩) (Nat.le_refl _) (.slice A' L.length c'))
  clear p0 p1 p2 z0 z1 z2 pl p0' p1' p2' z0' z1' z2' pl' B0 B1 HB
  generalize w1.setCell ⟨w.heap.size, 1, none⟩ (.slice A' L.length c') = W at *
  obtain ⟨p0, p1, p2, z0, z1, z2, pl⟩ := qf C0.out
  obtain ⟨y0, y1, y2, x0, x1, x2, yl⟩ := qf C1.out
  go_wp2_with fail
  refine bodyPost_ret (results_list (rs := [.cell 2 24, .tmp 3, .tmp 4]) rfl (by simp) (.cell (w.heap.size + 1) 24 _ (0, 0) _ rfl (blk_put (blk_put (blk_put C1.out 0 (.int .i64 d) rfl) 1 (.slice A' L.length c') rfl) 2 (.int .i64 lost) rfl) Try.underlying24 rfl (by kernel_rfl) (.tmp (.tmp .nil)))) rfl ?_
  have hh := HO.out.set3 (q := w.heap.size + 1) (fun k hk => by have := HN.out k hk; omega) (.int .i64 d) (.slice A' L.length c') (.int .i64 lost)
  refine ⟨_, rfl, ?_, put3 HC2.out (Nat.le_succ _) _ _ _⟩
  first | (rw [← HLq.out]; exact hh) | (rw [← List.drop_one, ← HLq.out]; exact hh)
end Go.Proofs.Ytfeifmjihdfadaa.Port

/-
  What the reference's Same answers of two queues that are the same; the chapter's example.
  Conditions: the messages lie in memory as told.
-/
import Derived.Test.YtfeifmjihdfadaaPortM
namespace Go.Proofs.Ytfeifmjihdfadaa.Port
set_option maxRecDepth 100000
set_option linter.unusedVariables false
set_option linter.unusedSimpArgs false
open Go.RowKit Go.Proofs.YtfeifmjihdfadaaW.PrintWords Go.Proofs.YtfeifmjihdfadaaW.PrintMore

theorem Rd.C {w : World} {base : Nat} {A : Option Addr} {c : Nat} {l : List Int} (h : Rd w base (.slice A l.length c) l) : (Kd.int .i64).C w A l.length l := by
  obtain ⟨A1, c1, he, h1, h2, h3, h4⟩ := h
  injection he with he1 he2 he3
  subst he1
  exact h3
theorem at_nat {w : World} {A : Option Addr} {m : List Int} (h : (Kd.int .i64).C w A m.length m) (k : Nat) (hk : k < m.length) : ∃ ad, A = some ad ∧ w.cell? (ad.add k) = some (.int .i64 (rd m k)) := by
  obtain ⟨ad, h1, h2⟩ := Kd.at_int h (k : Int) (by omega) (by omega)
  exact ⟨ad, h1, by simpa using h2⟩

set_option maxHeartbeats 1000000 in
theorem same01_any (A0 A1 : Option Addr) (c0 c1 : Nat) (m : List Int) (w : World) (h0 : (Kd.int .i64).C w A0 m.length m) (h1 : (Kd.int .i64).C w A1 m.length m) (hl : m.length ≤ 1000000) :
    Calls Try.prog 16 #[.slice A0 m.length c0, .slice A1 m.length c1] w fun e w' => e = .returned (.bool true) ∧ Below w.heap.size w w' := by
  have H0 := Lib.hid h0
  have H1 := Lib.hid h1
  clear h0 h1
  have hne : ((m.length : Int) != (m.length : Int)) = false := by simp
  go_enter Try.func16, Try.ntmps16
  go_wp2_with fail
  go_loopw [5] (fun i wr_ => ∃ k : Nat, k ≤ m.length ∧ i = .int .i64 k ∧ Hid (Below w.heap.size w wr_)) (fun i _ => m.length - (intOf i).toNat)
  case atStart => exact ⟨0, Nat.zero_le _, rfl, Lib.hid (Below.refl _ _)⟩
  case round =>
    obtain ⟨k, hk, rfl, hB⟩ := hrel
    by_cases hlt : k < m.length
    · obtain ⟨ad0, rfl, e0⟩ := at_nat (Kd.C_below H0.out hB.out) k hlt
      obtain ⟨ad1, rfl, e1⟩ := at_nat (Kd.C_below H1.out hB.out) k hlt
      have hlt' : (k : Int) < (m.length : Int) := by omega
      have hnn : (0 : Int) ≤ (k : Int) := by omega
      have hwr : wrap64 ((k : Int) + 1) = (k : Int) + 1 := by unfold wrap64; omega
      go_wp2_with fail
      go_quiet (fail)
      go_wp2_with fail
      exact ⟨⟨k + 1, by omega, by simp, Lib.hid (bdrewN hB.out nq)⟩, by simp [intOf]; omega⟩
    · have hke : k = m.length := by omega
      subst hke
      go_wp2_with fail
      go_ret
      exact ⟨rfl, hB.out⟩

theorem same18_any (d lost : Int) (A0 A1 : Option Addr) (c0 c1 : Nat) (m : List Int) (w : World) (h0 : (Kd.int .i64).C w A0 m.length m) (h1 : (Kd.int .i64).C w A1 m.length m) (hl : m.length ≤ 1000000) :
    Calls Try.prog 10 #[.agg #[.int .i64 d, .slice A0 m.length c0, .int .i64 lost], .agg #[.int .i64 d, .slice A1 m.length c1, .int .i64 lost]] w fun e w' => e = .returned (.bool true) ∧ Below w.heap.size w w' := by
  have hS := fun W h h' => same01_any A0 A1 c0 c1 m W h h' hl
  have HS := Lib.hid hS
  have HB := fun o o' => (balloc (balloc (Below.refl w.heap.size w) o) o')
  have H := fun o o' => HS.out _ (Kd.C_below h0 (HB o o')) (Kd.C_below h1 (HB o o'))
  have HH := Lib.hid H
  have HBH := Lib.hid HB
  clear hS h0 h1 H HB
  have hd : (d == d) = true := by simp
  have hls : (lost == lost) = true := by simp
  go_enter Try.func10, Try.ntmps10
  go_wp2_with fail
  refine (HH.out _ _).mono ?_
  rintro e w1 ⟨rfl, hb⟩
  obtain ⟨p0, p1, p2, z0, z1, z2, pl⟩ := qf (blk_below (two_blk w _ _).1 hb)
  obtain ⟨y0, y1, y2, x0, x1, x2, yl⟩ := qf (blk_below (two_blk w _ _).2 hb)
  have HB2 := Lib.hid (btrans (HBH.out _ _) hb)
  clear hb
  go_wp2_with fail
  go_ret
  exact ⟨rfl, HB2.out⟩

theorem Row.of_blk {W : World} {g : Nat} (l : List Int) {cur : Array Value} (h : W.heap[g]? = some (.cells cur 3 (0, 0))) (hc : cur.toList = l.map (Value.int .i64)) (hl : l.length ≤ 1000000) : Row W g (.slice (some ⟨g, 0, none⟩) l.length l.length) l := by
  have hs : cur.size = l.length := by rw [← Array.length_toList, hc, List.length_map]
  have hm : maxLen = 9223372036854775807 := rfl
  exact .inr ⟨g, _, cur, rfl, Nat.le_refl _, h, Nat.le_refl _, by omega, by omega, by rw [hc]; exact List.take_of_length_le (by simp)⟩

set_option maxHeartbeats 1000000 in
theorem awake_any (w : World) : Calls Try.prog 8 #[] w fun e w' => e = .returned (.bool true) ∧ Below w.heap.size w w' := by
  have hB := fun o o' => (balloc (balloc (Below.refl w.heap.size w) o) o')
  have r1 := Row.of_blk [1, 2, 3] (two_blk w (.cells #[.int .i64 1, .int .i64 2, .int .i64 3] 3) (.cells #[.int .i64 9] 3)).1 rfl (by decide)
  have r2 := Row.of_blk [9] (two_blk w (.cells #[.int .i64 1, .int .i64 2, .int .i64 3] 3) (.cells #[.int .i64 9] 3)).2 rfl (by decide)
  have hM := move_any 3 0 2 0 _ _ 3 1 [1, 2, 3] [9] _ r1.C (by decide) (fun h => by cases h) (by decide) r2.C (by decide) (fun h => by cases h) (by decide)
  rw [show movN [1, 2, 3] [9] 2 = 1 from rfl] at hM
  simp only [List.length_cons, List.length_nil, Nat.zero_add, Nat.reduceAdd, List.drop_one, List.tail_cons, List.take_succ_cons, List.take_zero, List.cons_append, List.nil_append] at hM
  have HM := Lib.hid hM
  have HB := Lib.hid hB
  clear hB r1 r2 hM
  go_enter Try.func8, Try.ntmps8
  go_wp2_with fail
  refine HM.out.mono ?_
  rintro e w1 ⟨v, v', rfl, rf, rt, hb⟩
  obtain ⟨A1, c1, rfl, h1, h2, h3, h4⟩ := rf
  obtain ⟨A2, c2, rfl, l1, l2, l3, l4⟩ := rt
  obtain ⟨ad1, rfl, e0⟩ := at_nat h3 0 (by decide)
  obtain ⟨ad2, rfl, f0⟩ := at_nat l3 0 (by decide)
  obtain ⟨_, hh, f1⟩ := at_nat l3 1 (by decide)
  obtain rfl := Option.some.inj hh
  rw [addr0] at e0 f0
  have HB2 := Lib.hid (btrans (HB.out _ _) hb)
  have k1 := (h4 _ rfl).2.1
  have k2 := (l4 _ rfl).2.1
  clear hb h3 l3 h4 l4 hh
  simp only [List.length_cons, List.length_nil, Nat.zero_add, Nat.reduceAdd] at *
  have e0' : w1.cell? ad1 = some (.int .i64 2) := e0
  have f0' : w1.cell? ad2 = some (.int .i64 9) := f0
  have f1' : w1.cell? ⟨ad2.block, ad2.off + 1, none⟩ = some (.int .i64 1) := f1
  clear e0 f0 f1
  go_wp2_with fail
  go_ret
  exact ⟨rfl, balloc (balloc HB2.out _) _⟩
end Go.Proofs.Ytfeifmjihdfadaa.Port

/-
  The law function CpuAdds, walked: it answers true. Conditions: the tables hold what the program's text lays; the two numbers are of 64 bits.
-/
import Derived.Test.YtlphgnfjemaliaaDoorCpuL
namespace Go.Proofs.YtlphgnfjemaliaaDoor.CpuD
set_option maxRecDepth 100000
set_option linter.unusedVariables false
open Go.RowKit Go.Proofs.YtlphgnfjemaliaaDoorW.PrintWords Go.Proofs.YtlphgnfjemaliaaDoor.Mem Go.Proofs.YtlphgnfjemaliaaDoor.CpuA Go.Proofs.YtlphgnfjemaliaaDoor.CpuB Go.Proofs.YtlphgnfjemaliaaDoor.CpuC Go.Proofs.YtlphgnfjemaliaaDoor.CpuS Go.Proofs.YtlphgnfjemaliaaDoor.CpuL Go.Proofs.YtlphgnfjemaliaaDoor.Instr

theorem wf64 {x : Int} (h : (Lit.int .i64 x).wf = true) : -9223372036854775808 ≤ x ∧ x ≤ 9223372036854775807 := by
  have := h
  simp [Lit.wf, IntKind.min, IntKind.max, IntKind.bits, IntKind.signed] at this
  omega
def codeA : List (Int × Int × Int) := [(3, 0, 1), (4, 0, 1), (5, 0, 2), (6, 0, 1)]
def zeroOut : Value := .agg #[.int .i64 0, .int .i64 (-1), .bool false, .bool false, .int .i64 0]
theorem ad0 (r y : Int) : coreV (stepC codeA ⟨0, regs4 r y 1 0⟩ [] [] 0) = .agg #[.int .i64 1, .int .i64 (wrap64 (r + y)), .int .i64 y, .int .i64 1, .int .i64 0] ∧ outV (stepO codeA ⟨0, regs4 r y 1 0⟩ [] [] 0) = zeroOut := ⟨rfl, rfl⟩
theorem ad1 (r y : Int) : coreV (stepC codeA ⟨1, regs4 r y 1 0⟩ [] [] 0) = .agg #[.int .i64 2, .int .i64 (wrap64 (r - y)), .int .i64 y, .int .i64 1, .int .i64 0] ∧ outV (stepO codeA ⟨1, regs4 r y 1 0⟩ [] [] 0) = zeroOut := ⟨rfl, rfl⟩
theorem ad2 (r y : Int) : coreV (stepC codeA ⟨2, regs4 r y 1 0⟩ [] [] 0) = .agg #[.int .i64 3, .int .i64 (wrap64 (r * 1)), .int .i64 y, .int .i64 1, .int .i64 0] ∧ outV (stepO codeA ⟨2, regs4 r y 1 0⟩ [] [] 0) = zeroOut := ⟨rfl, rfl⟩
theorem ad3 (r y : Int) (h : (Div.divI r y).2 = 0) : coreV (stepC codeA ⟨3, regs4 r y 1 0⟩ [] [] 0) = .agg #[.int .i64 4, .int .i64 (Div.divI r y).1, .int .i64 y, .int .i64 1, .int .i64 0] ∧ outV (stepO codeA ⟨3, regs4 r y 1 0⟩ [] [] 0) = zeroOut := by
  have hF : stepF codeA ⟨3, regs4 r y 1 0⟩ [] [] 0 = 0 := h
  exact ⟨by unfold stepC; rw [if_pos hF]; rfl, by unfold stepO; rw [if_pos hF]; rfl⟩
theorem ad3_bad (r y : Int) (h : ¬ (Div.divI r y).2 = 0) : coreV (stepC codeA ⟨3, regs4 r y 1 0⟩ [] [] 0) = .agg #[.int .i64 3, .int .i64 r, .int .i64 y, .int .i64 1, .int .i64 0] ∧
    outV (stepO codeA ⟨3, regs4 r y 1 0⟩ [] [] 0) = .agg #[.int .i64 (Div.divI r y).2, .int .i64 (-1), .bool false, .bool false, .int .i64 0] := by
  have hF : ¬ stepF codeA ⟨3, regs4 r y 1 0⟩ [] [] 0 = 0 := h
  exact ⟨by unfold stepC; rw [if_neg hF]; rfl, by unfold stepO; rw [if_neg hF]; rfl⟩
theorem put5_below {s : Nat} {w W : World} (h : Below s w W) {q : Nat} (hq : s ≤ q) (a b c d e : Value) : Below s w (((((W.setCell ⟨q, 0, none⟩ a).setCell ⟨q, 1, none⟩ b).setCell ⟨q, 2, none⟩ c).setCell ⟨q, 3, none⟩ d).setCell ⟨q, 4, none⟩ e) :=
  ((((h.setCell hq a).setCell hq b).setCell hq c).setCell hq d).setCell hq e
theorem put5_blk {W : World} {q : Nat} {t : TypeId} {x0 x1 x2 x3 x4 : Value} (h : W.heap[q]? = some (.cells #[x0, x1, x2, x3, x4] t (0, 0))) (a b c d e : Value) :
    (((((W.setCell ⟨q, 0, none⟩ a).setCell ⟨q, 1, none⟩ b).setCell ⟨q, 2, none⟩ c).setCell ⟨q, 3, none⟩ d).setCell ⟨q, 4, none⟩ e).heap[q]? = some (.cells #[a, b, c, d, e] t (0, 0)) :=
  blk_put (blk_put (blk_put (blk_put (blk_put h 0 a rfl) 1 b rfl) 2 c rfl) 3 d rfl) 4 e rfl
theorem put5_far {W : World} {q k : Nat} {t : TypeId} {cs : Array Value} (h : W.heap[k]? = some (.cells cs t (0, 0))) (hk : k ≠ q) (a b c d e : Value) :
    (((((W.setCell ⟨q, 0, none⟩ a).setCell ⟨q, 1, none⟩ b).setCell ⟨q, 2, none⟩ c).setCell ⟨q, 3, none⟩ d).setCell ⟨q, 4, none⟩ e).heap[k]? = some (.cells cs t (0, 0)) :=
  blk_far (blk_far (blk_far (blk_far (blk_far h hk a) hk b) hk c) hk d) hk e
/-- The first register, round by round. -/
def rr (x y : Int) : Nat → Int
  | 1 => wrap64 (x + y)
  | _ => x

set_option maxHeartbeats 4000000 in
theorem adds_any (x y : Int) (hx : -9223372036854775808 ≤ x ∧ x ≤ 9223372036854775807) (hy : -9223372036854775808 ≤ y ∧ y ≤ 9223372036854775807) (w : World) (hG : Glob w) :
    Calls Tryd.prog 8 #[.int .i64 x, .int .i64 y] w fun e w' => e = .returned (.bool true) ∧ Below w.heap.size w w' := by
  have hA := awake_any w hG
  have HA := Lib.hid hA
  have HG := Lib.hid hG
  have r2 : wrap64 (wrap64 (x + y) - y) = x := by unfold wrap64; omega
  have r3 : wrap64 (x * 1) = x := by unfold wrap64; omega
  have hS : ∀ k r W B, CodeAt W (some ⟨B, 0, none⟩) codeA → Glob W → _ := fun k r W B hc hg => step_any ⟨k, regs4 r y 1 0⟩ (some ⟨B, 0, none⟩) 4 codeA W hc hg none 0 [] none 0 [] 0 (Kd.C_nil _ _) (by simp) (regsAt_nil W)
  simp only [show ∀ (k r : Int), coreV ⟨k, regs4 r y 1 0⟩ = .agg #[.int .i64 k, .int .i64 r, .int .i64 y, .int .i64 1, .int .i64 0] from fun _ _ => rfl, show codeA.length = 4 from rfl] at hS
  have hS0 := fun W B => hS 0 x W B
  have hS1 := fun W B => hS 1 (wrap64 (x + y)) W B
  have hS2 := fun W B => hS 2 x W B
  have hS3 := fun W B => hS 3 x W B
  rw [(ad0 x y).1, (ad0 x y).2] at hS0
  rw [(ad1 (wrap64 (x + y)) y).1, (ad1 (wrap64 (x + y)) y).2, r2] at hS1
  rw [(ad2 x y).1, (ad2 x y).2, r3] at hS2
  unfold zeroOut at hS0 hS1 hS2
  have HS0 := Lib.hid hS0
  have HS1 := Lib.hid hS1
  have HS2 := Lib.hid hS2
  have HS3 := Lib.hid hS3
  have hD := fun W => Div.div_any x y W
  have HD := Lib.hid hD
  clear hA hG r2 r3 hS hS0 hS1 hS2 hS3 hx hy hD
  go_enter Tryd.func8, Tryd.ntmps8
  go_wp2_with fail
  refine HA.out.mono ?_
  rintro e w1 ⟨rfl, hb⟩
  have HB1 := Lib.hid hb
  clear hb
  go_wp2_with fail
  have hlc : ∀ wr : World, wr.heap[w1.heap.size + 1]? = some (.cells #[.int .i64 3, .int .i64 0, .int .i64 1, .int .i64 4, .int .i64 0, .int .i64 1, .int .i64 5, .int .i64 0, .int .i64 2, .int .i64 6, .int .i64 0, .int .i64 1] 31 (0, 0)) → CodeAt wr (some ⟨w1.heap.size + 1, 0, none⟩) codeA := fun wr h => codeAt_blk h codeA rfl (by decide)
  have HLC := Lib.hid hlc
  clear hlc
  go_loopw [8] (fun k_ wr_ => ∃ k : Nat, k ≤ 3 ∧ k_ = .int .i64 k ∧ Hid (Below w.heap.size w wr_) ∧ Hid (wr_.heap[w1.heap.size]? = some (.cells #[.int .i64 k, .int .i64 (rr x y k), .int .i64 y, .int .i64 1, .int .i64 0] 29 (0, 0))) ∧
    Hid (wr_.heap[w1.heap.size + 1]? = some (.cells #[.int .i64 3, .int .i64 0, .int .i64 1, .int .i64 4, .int .i64 0, .int .i64 1, .int .i64 5, .int .i64 0, .int .i64 2, .int .i64 6, .int .i64 0, .int .i64 1] 31 (0, 0)))) (fun k_ _ => 3 - (intOf k_).toNat)
  case atStart =>
    exact ⟨0, by omega, rfl, Lib.hid (balloc (balloc HB1.out _) _), Lib.hid (two_new1 w1 _ _), Lib.hid (two_new2 w1 _ _)⟩
  case round =>
    obtain ⟨k, hk, rfl, hB, hc, hcode⟩ := hrel
    have l1 := blk_lt hc.out
    have l2 := blk_lt hcode.out
    by_cases hlt : k < 3
    · have hk3 : k = 0 ∨ k = 1 ∨ k = 2 := by omega
      clear hk hlt
      rcases hk3 with rfl | rfl | rfl
      · have hc' := Lib.hid (show wr.heap[w1.heap.size]? = some (.cells #[.int .i64 0, .int .i64 (x), .int .i64 y, .int .i64 1, .int .i64 0] 29 (0, 0)) from hc.out)
        obtain ⟨y0, y1, y2, y3, y4⟩ := cells5 hc'.out
        go_wp2_with fail
        refine (HS0.out _ _ (HLC.out _ hcode.out) (HG.out.below hB.out)).mono ?_
        rintro e w2 ⟨u, rfl, hr2, hb2⟩
        have hc2 := Lib.hid (blk_below hc'.out hb2)
        have hcode2 := Lib.hid (blk_below hcode.out hb2)
        have hB2 := Lib.hid (btrans hB.out hb2)
        have lz := hb2.size
        have m1 : w1.heap.size < w2.heap.size := by omega
        have m2 : w1.heap.size ≤ w2.heap.size := by omega
        have m3 : w1.heap.size ≤ w2.heap.size + 1 := by omega
        have m4 : ¬ w1.heap.size = w2.heap.size := by omega
        have m5 : ¬ w1.heap.size = w2.heap.size + 1 := by omega
        clear hr2 hb2 y0 y1 y2 y3 y4 lz
        obtain ⟨y0, y1, y2, y3, y4⟩ := cells5 hc2.out
        have z0 := blk_frozen hc2.out 0
        have z1 := blk_frozen hc2.out 1
        have z2 := blk_frozen hc2.out 2
        have z3 := blk_frozen hc2.out 3
        have z4 := blk_frozen hc2.out 4
        go_wp2_with fail
        go_roundw
        case rel =>
          exact ⟨1, by omega, rfl, Lib.hid (balloc (balloc (put5_below hB2.out HB1.out.size _ _ _ _ _) _) _), Lib.hid (blk_alloc (blk_alloc (put5_blk hc2.out _ _ _ _ _) _) _), Lib.hid (blk_alloc (blk_alloc (put5_far hcode2.out (Nat.succ_ne_self _) _ _ _ _ _) _) _)⟩
        case measure => simp [intOf]
      · have hc' := Lib.hid (show wr.heap[w1.heap.size]? = some (.cells #[.int .i64 1, .int .i64 (wrap64 (x + y)), .int .i64 y, .int .i64 1, .int .i64 0] 29 (0, 0)) from hc.out)
        obtain ⟨y0, y1, y2, y3, y4⟩ := cells5 hc'.out
        go_wp2_with fail
        refine (HS1.out _ _ (HLC.out _ hcode.out) (HG.out.below hB.out)).mono ?_
        rintro e w2 ⟨u, rfl, hr2, hb2⟩
        have hc2 := Lib.hid (blk_below hc'.out hb2)
        have hcode2 := Lib.hid (blk_below hcode.out hb2)
        have hB2 := Lib.hid (btrans hB.out hb2)
        have lz := hb2.size
        have m1 : w1.heap.size < w2.heap.size := by omega
        have m2 : w1.heap.size ≤ w2.heap.size := by omega
        have m3 : w1.heap.size ≤ w2.heap.size + 1 := by omega
        have m4 : ¬ w1.heap.size = w2.heap.size := by omega
        have m5 : ¬ w1.heap.size = w2.heap.size + 1 := by omega
        clear hr2 hb2 y0 y1 y2 y3 y4 lz
        obtain ⟨y0, y1, y2, y3, y4⟩ := cells5 hc2.out
        have z0 := blk_frozen hc2.out 0
        have z1 := blk_frozen hc2.out 1
        have z2 := blk_frozen hc2.out 2
        have z3 := blk_frozen hc2.out 3
        have z4 := blk_frozen hc2.out 4
        go_wp2_with fail
        go_roundw
        case rel =>
          exact ⟨2, by omega, rfl, Lib.hid (balloc (balloc (put5_below hB2.out HB1.out.size _ _ _ _ _) _) _), Lib.hid (blk_alloc (blk_alloc (put5_blk hc2.out _ _ _ _ _) _) _), Lib.hid (blk_alloc (blk_alloc (put5_far hcode2.out (Nat.succ_ne_self _) _ _ _ _ _) _) _)⟩
        case measure => simp [intOf]
      · have hc' := Lib.hid (show wr.heap[w1.heap.size]? = some (.cells #[.int .i64 2, .int .i64 (x), .int .i64 y, .int .i64 1, .int .i64 0] 29 (0, 0)) from hc.out)
        obtain ⟨y0, y1, y2, y3, y4⟩ := cells5 hc'.out
        go_wp2_with fail
        refine (HS2.out _ _ (HLC.out _ hcode.out) (HG.out.below hB.out)).mono ?_
        rintro e w2 ⟨u, rfl, hr2, hb2⟩
        have hc2 := Lib.hid (blk_below hc'.out hb2)
        have hcode2 := Lib.hid (blk_below hcode.out hb2)
        have hB2 := Lib.hid (btrans hB.out hb2)
        have lz := hb2.size
        have m1 : w1.heap.size < w2.heap.size := by omega
        have m2 : w1.heap.size ≤ w2.heap.size := by omega
        have m3 : w1.heap.size ≤ w2.heap.size + 1 := by omega
        have m4 : ¬ w1.heap.size = w2.heap.size := by omega
        have m5 : ¬ w1.heap.size = w2.heap.size + 1 := by omega
        clear hr2 hb2 y0 y1 y2 y3 y4 lz
        obtain ⟨y0, y1, y2, y3, y4⟩ := cells5 hc2.out
        have z0 := blk_frozen hc2.out 0
        have z1 := blk_frozen hc2.out 1
        have z2 := blk_frozen hc2.out 2
        have z3 := blk_frozen hc2.out 3
        have z4 := blk_frozen hc2.out 4
        go_wp2_with fail
        go_roundw
        case rel =>
          exact ⟨3, by omega, rfl, Lib.hid (balloc (balloc (put5_below hB2.out HB1.out.size _ _ _ _ _) _) _), Lib.hid (blk_alloc (blk_alloc (put5_blk hc2.out _ _ _ _ _) _) _), Lib.hid (blk_alloc (blk_alloc (put5_far hcode2.out (Nat.succ_ne_self _) _ _ _ _ _) _) _)⟩
        case measure => simp [intOf]
    · have hk3 : k = 3 := by omega
      subst hk3
      clear hk hlt
      have hc' := Lib.hid (show wr.heap[w1.heap.size]? = some (.cells #[.int .i64 3, .int .i64 x, .int .i64 y, .int .i64 1, .int .i64 0] 29 (0, 0)) from hc.out)
      obtain ⟨y0, y1, y2, y3, y4⟩ := cells5 hc'.out
      have hS3 := HS3.out
      by_cases hf : (Div.divI x y).2 = 0
      · rw [(ad3 x y hf).1, (ad3 x y hf).2] at hS3
        unfold zeroOut at hS3
        have H3 := Lib.hid hS3
        clear hS3
        rw [hf] at HD
        clear hf
        generalize (Div.divI x y).1 = q at *
        go_wp2_with fail
        refine (H3.out _ _ (HLC.out _ hcode.out) (HG.out.below hB.out)).mono ?_
        rintro e w2 ⟨u, rfl, hr2, hb2⟩
        have hc2 := Lib.hid (blk_below hc'.out hb2)
        have hB2 := Lib.hid (btrans hB.out hb2)
        clear hr2 hb2 y0 y1 y2 y3 y4
        go_wp2_with fail
        refine (HD.out _).mono ?_
        rintro e w3 ⟨rfl, hb3⟩
        have n1 := Lib.hid (blk_below (two_new1 w2 (.cells #[.int .i64 4, .int .i64 q, .int .i64 y, .int .i64 1, .int .i64 0] 29) (.cells #[.int .i64 0, .int .i64 (-1), .bool false, .bool false, .int .i64 0] 34)) hb3)
        have n2 := Lib.hid (blk_below (two_new2 w2 (.cells #[.int .i64 4, .int .i64 q, .int .i64 y, .int .i64 1, .int .i64 0] 29) (.cells #[.int .i64 0, .int .i64 (-1), .bool false, .bool false, .int .i64 0] 34)) hb3)
        have hc3 := Lib.hid (blk_below (blk_alloc (blk_alloc hc2.out (.cells #[.int .i64 4, .int .i64 q, .int .i64 y, .int .i64 1, .int .i64 0] 29)) (.cells #[.int .i64 0, .int .i64 (-1), .bool false, .bool false, .int .i64 0] 34)) hb3)
        have hB3 := Lib.hid (btrans (balloc (balloc hB2.out (.cells #[.int .i64 4, .int .i64 q, .int .i64 y, .int .i64 1, .int .i64 0] 29)) (.cells #[.int .i64 0, .int .i64 (-1), .bool false, .bool false, .int .i64 0] 34)) hb3)
        obtain ⟨y0, y1, y2, y3, y4⟩ := cells5 hc3.out
        obtain ⟨p0, p1, p2, p3, p4⟩ := cells5 n1.out
        obtain ⟨q0, q1, q2, q3, q4⟩ := cells5 n2.out
        clear hb3
        go_wp2_with fail
        go_ret
        exact ⟨rfl, hB3.out⟩
      · rw [(ad3_bad x y hf).1, (ad3_bad x y hf).2] at hS3
        have H3 := Lib.hid hS3
        clear hS3
        have hf1 : ((Div.divI x y).2 == 0) = false := by simp [hf]
        have hf2 : ((Div.divI x y).2 != 0) = true := by simp [hf]
        clear hf
        generalize (Div.divI x y).2 = f at *
        generalize (Div.divI x y).1 = q at *
        go_wp2_with fail
        refine (H3.out _ _ (HLC.out _ hcode.out) (HG.out.below hB.out)).mono ?_
        rintro e w2 ⟨u, rfl, hr2, hb2⟩
        have hc2 := Lib.hid (blk_below hc'.out hb2)
        have hB2 := Lib.hid (btrans hB.out hb2)
        clear hr2 hb2 y0 y1 y2 y3 y4
        go_wp2_with fail
        refine (HD.out _).mono ?_
        rintro e w3 ⟨rfl, hb3⟩
        have n1 := Lib.hid (blk_below (two_new1 w2 (.cells #[.int .i64 3, .int .i64 x, .int .i64 y, .int .i64 1, .int .i64 0] 29) (.cells #[.int .i64 f, .int .i64 (-1), .bool false, .bool false, .int .i64 0] 34)) hb3)
        have n2 := Lib.hid (blk_below (two_new2 w2 (.cells #[.int .i64 3, .int .i64 x, .int .i64 y, .int .i64 1, .int .i64 0] 29) (.cells #[.int .i64 f, .int .i64 (-1), .bool false, .bool false, .int .i64 0] 34)) hb3)
        have hc3 := Lib.hid (blk_below (blk_alloc (blk_alloc hc2.out (.cells #[.int .i64 3, .int .i64 x, .int .i64 y, .int .i64 1, .int .i64 0] 29)) (.cells #[.int .i64 f, .int .i64 (-1), .bool false, .bool false, .int .i64 0] 34)) hb3)
        have hB3 := Lib.hid (btrans (balloc (balloc hB2.out (.cells #[.int .i64 3, .int .i64 x, .int .i64 y, .int .i64 1, .int .i64 0] 29)) (.cells #[.int .i64 f, .int .i64 (-1), .bool false, .bool false, .int .i64 0] 34)) hb3)
        obtain ⟨y0, y1, y2, y3, y4⟩ := cells5 hc3.out
        obtain ⟨p0, p1, p2, p3, p4⟩ := cells5 n1.out
        obtain ⟨q0, q1, q2, q3, q4⟩ := cells5 n2.out
        clear hb3
        go_wp2_with fail
        go_ret
        exact ⟨rfl, hB3.out⟩
end Go.Proofs.YtlphgnfjemaliaaDoor.CpuD

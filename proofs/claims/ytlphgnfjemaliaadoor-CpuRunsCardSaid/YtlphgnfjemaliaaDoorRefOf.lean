/-
  The reference's Of: a whole number's bits, brought between -2^53 and 2^53. Conditions: a 64-bit number.
-/
import Derived.Test.YtlphgnfjemaliaaDoorRealG
import Derived.LoopTactic
namespace Go.Proofs.YtlphgnfjemaliaaDoor.RefOf
open Go.RowKit Go.Proofs.YtlphgnfjemaliaaDoor.Flt Go.Proofs.YtlphgnfjemaliaaDoor.RealW Go.Proofs.YtlphgnfjemaliaaDoor.RealG

def L1 (a : Nat) (y q : Int) : Prop := (y = a ∧ q = 0) ∨ (a = 9007199254740992 ∧ y = 4503599627370496 ∧ q = 1)
/-- 'y' is 'a' with 'q' binary places taken away. -/
def Norm (a : Nat) (y q : Int) : Prop := (∃ j : Nat, y = (a * 2 ^ j : Nat) ∧ q = -(j : Int)) ∨ (a = 9007199254740992 ∧ y = 4503599627370496 ∧ q = 1)
theorem l1_halve {a : Nat} {y q : Int} (h : L1 a y q) (h1 : 9007199254740992 ≤ y) (h2 : y ≤ 9007199254740992) : L1 a (y / 2) (q + 1) := by
  rcases h with ⟨rfl, rfl⟩ | ⟨_, rfl, rfl⟩
  · exact .inr ⟨by omega, by omega, rfl⟩
  · omega
theorem l1_q {a : Nat} {y q : Int} (h : L1 a y q) (h1 : 9007199254740992 ≤ y) : q ≤ 0 := by
  rcases h with ⟨rfl, rfl⟩ | ⟨_, rfl, rfl⟩ <;> omega
theorem l1_norm {a : Nat} {y q : Int} (h : L1 a y q) : Norm a y q := by
  rcases h with ⟨rfl, rfl⟩ | h
  · exact .inl ⟨0, by simp, by simp⟩
  · exact .inr h
theorem norm_twice {a : Nat} {y q : Int} (h : Norm a y q) (h1 : y < 4503599627370496) : Norm a (y * 2) (q - 1) := by
  rcases h with ⟨j, rfl, rfl⟩ | ⟨_, rfl, rfl⟩
  · refine .inl ⟨j + 1, ?_, by omega⟩
    rw [Nat.pow_succ, ← Nat.mul_assoc]; omega
  · omega
theorem norm_low {a : Nat} {y q : Int} (h : Norm a y q) (h1 : y < 4503599627370496) (h0 : 0 < y) : -52 < q := by
  rcases h with ⟨j, rfl, rfl⟩ | ⟨_, rfl, rfl⟩
  · have ha : 0 < a := by
      rcases Nat.eq_zero_or_pos a with rfl | h
      · simp at h0
      · exact h
    by_cases hj : j < 52
    · omega
    · have h2 : 2 ^ 52 ≤ 2 ^ j := Nat.pow_le_pow_right (by omega) (by omega)
      have h3 : 1 * 2 ^ j ≤ a * 2 ^ j := Nat.mul_le_mul_right _ ha
      generalize a * 2 ^ j = c at *
      omega
  · omega
theorem norm_end {a : Nat} {y q : Int} (h : Norm a y q) (h1 : 4503599627370496 ≤ y) (h2 : y < 9007199254740992) : (q + 1075) * 4503599627370496 + y - 4503599627370496 = (ofN a : Int) := by
  rcases h with ⟨j, rfl, rfl⟩ | ⟨rfl, rfl, rfl⟩
  · have ha : a ≠ 0 := by rintro rfl; simp at h1
    have hl := log2_shift a j ha
    rw [log2_52 (a * 2 ^ j) (by omega) (by omega)] at hl
    have e4 : a * 4503599627370496 / 2 ^ a.log2 = a * 2 ^ j := by
      have : (4503599627370496 : Nat) = 2 ^ j * 2 ^ a.log2 := by rw [← Nat.pow_add, show j + a.log2 = 52 by omega]
      rw [this, ← Nat.mul_assoc, Nat.mul_div_cancel _ (Nat.two_pow_pos _)]
    unfold ofN
    rw [if_neg ha, e4]
    generalize a * 2 ^ j = c at *
    generalize a.log2 = L at *
    omega
  · have hl : (9007199254740992 : Nat).log2 = 53 := (Nat.log2_eq_iff (by omega)).2 ⟨by decide, by decide⟩
    have e4 : 9007199254740992 * 4503599627370496 / 2 ^ 53 = 4503599627370496 := Nat.mul_div_cancel_left _ (by omega)
    unfold ofN
    rw [if_neg (by omega), hl, e4]
    omega

theorem with_any (s : Bool) (x : Int) (r : Nat) (h : x = (r : Int)) (hr : r < 9223372036854775808) (w : World) :
    Calls Tryd.prog 68 #[.bool s, .int .i64 x] w fun e w' => e = .returned (.int .i64 (withX s r)) ∧ w = w' := by
  subst h
  have e1 : wrap64 (wrap64 ((r : Int) - 4611686018427387904) - 4611686018427387904) = withX true r := by unfold withX wrap64; rw [if_pos rfl]; omega
  have H := Lib.hid e1
  clear e1 hr
  cases s
  · go_enter Tryd.func68, Tryd.ntmps68
    go_wp2
    go_ret
    exact ⟨rfl, rfl⟩
  · go_enter Tryd.func68, Tryd.ntmps68
    go_wp2
    go_ret
    exact ⟨by rw [← H.out]; rfl, rfl⟩

theorem of_zero (w : World) :
    Calls Tryd.prog 45 #[.int .i64 0] w fun e w' => e = .returned (.int .i64 0) ∧ w = w' := by
  go_enter Tryd.func45, Tryd.ntmps45
  go_wp2_with fail
  go_ret
  exact ⟨rfl, rfl⟩

set_option maxHeartbeats 1000000 in
theorem of_high (n : Int) (h : 9007199254740992 < n) (w : World) :
    Calls Tryd.prog 45 #[.int .i64 (n)] w fun e w' => e = .returned (.int .i64 (withX false (ofN (9007199254740992)))) ∧ w = w' := by
  have hb : decide (n < 0) = false := decide_eq_false (by omega)
  go_enter Tryd.func45, Tryd.ntmps45
  go_wp2_with fail
  go_loop [0, 4] (fun x e => ∃ y q : Int, x = .int .i64 y ∧ e = .int .i64 q ∧ L1 (9007199254740992) y q ∧ 0 < y ∧ y ≤ 9007199254740992 ∧ 0 ≤ q ∧ q ≤ 1) (fun x _ => (intOf x).toNat)
  case atStart => exact ⟨_, 0, rfl, rfl, .inl ⟨rfl, rfl⟩, by omega, by omega, by omega, by omega⟩
  case round =>
    obtain ⟨y, q, rfl, rfl, hN, hy0, hy1, hq0, hq1⟩ := hrel
    by_cases h1 : 9007199254740992 ≤ y
    · have hN2 := l1_halve hN h1 hy1
      have hq2 := l1_q hN h1
      clear hN
      go_wp2_with fail
      go_round
      case rel => exact ⟨y / 2, q + 1, rfl, rfl, hN2, by omega, by omega, by omega, by omega⟩
      case measure => simp [intOf]; omega
    · have hN2 := l1_norm hN
      clear hN
      go_wp2_with fail
      go_loop [0, 4] (fun x e => ∃ y q : Int, x = .int .i64 y ∧ e = .int .i64 q ∧ Norm (9007199254740992) y q ∧ 0 < y ∧ y < 9007199254740992 ∧ -60 ≤ q ∧ q ≤ 1) (fun x _ => 9007199254740992 - (intOf x).toNat)
      case atStart => exact ⟨_, _, rfl, rfl, hN2, by omega, by omega, by omega, by omega⟩
      case round =>
        clear hN2 hy0 hy1 hq0 hq1 h1
        obtain ⟨y2, q2, rfl, rfl, hN, hy0, hy1, hq0, hq1⟩ := hrel
        by_cases h2 : y2 < 4503599627370496
        · have hN2 := norm_twice hN h2
          have hq2 := norm_low hN h2 hy0
          clear hN
          go_wp2_with fail
          go_round
          case rel => exact ⟨y2 * 2, q2 - 1, rfl, rfl, hN2, by omega, by omega, by omega, by omega⟩
          case measure => simp [intOf]; omega
        · have hE := Lib.hid (norm_end hN (by omega) hy1)
          have hL := Lib.hid (ofN_le (9007199254740992) (by omega))
          clear hN
          go_wp2_with (go_at_call 68; refine (with_any _ _ _ hE.out (Nat.lt_of_le_of_lt hL.out (by omega)) _).mono ?_; rintro e w' ⟨rfl, rfl⟩)
          go_ret
          exact ⟨rfl, rfl⟩

set_option maxHeartbeats 1000000 in
theorem of_pos (a : Nat) (h0 : 0 < a) (h : a ≤ 9007199254740992) (w : World) :
    Calls Tryd.prog 45 #[.int .i64 (a)] w fun e w' => e = .returned (.int .i64 (withX false (ofN (a)))) ∧ w = w' := by
  have hb : decide ((a : Int) < 0) = false := decide_eq_false (by omega)
  go_enter Tryd.func45, Tryd.ntmps45
  go_wp2_with fail
  go_loop [0, 4] (fun x e => ∃ y q : Int, x = .int .i64 y ∧ e = .int .i64 q ∧ L1 (a) y q ∧ 0 < y ∧ y ≤ 9007199254740992 ∧ 0 ≤ q ∧ q ≤ 1) (fun x _ => (intOf x).toNat)
  case atStart => exact ⟨_, 0, rfl, rfl, .inl ⟨rfl, rfl⟩, by omega, by omega, by omega, by omega⟩
  case round =>
    obtain ⟨y, q, rfl, rfl, hN, hy0, hy1, hq0, hq1⟩ := hrel
    by_cases h1 : 9007199254740992 ≤ y
    · have hN2 := l1_halve hN h1 hy1
      have hq2 := l1_q hN h1
      clear hN
      go_wp2_with fail
      go_round
      case rel => exact ⟨y / 2, q + 1, rfl, rfl, hN2, by omega, by omega, by omega, by omega⟩
      case measure => simp [intOf]; omega
    · have hN2 := l1_norm hN
      clear hN
      go_wp2_with fail
      go_loop [0, 4] (fun x e => ∃ y q : Int, x = .int .i64 y ∧ e = .int .i64 q ∧ Norm (a) y q ∧ 0 < y ∧ y < 9007199254740992 ∧ -60 ≤ q ∧ q ≤ 1) (fun x _ => 9007199254740992 - (intOf x).toNat)
      case atStart => exact ⟨_, _, rfl, rfl, hN2, by omega, by omega, by omega, by omega⟩
      case round =>
        clear hN2 hy0 hy1 hq0 hq1 h1
        obtain ⟨y2, q2, rfl, rfl, hN, hy0, hy1, hq0, hq1⟩ := hrel
        by_cases h2 : y2 < 4503599627370496
        · have hN2 := norm_twice hN h2
          have hq2 := norm_low hN h2 hy0
          clear hN
          go_wp2_with fail
          go_round
          case rel => exact ⟨y2 * 2, q2 - 1, rfl, rfl, hN2, by omega, by omega, by omega, by omega⟩
          case measure => simp [intOf]; omega
        · have hE := Lib.hid (norm_end hN (by omega) hy1)
          have hL := Lib.hid (ofN_le (a) (by omega))
          clear hN
          go_wp2_with (go_at_call 68; refine (with_any _ _ _ hE.out (Nat.lt_of_le_of_lt hL.out (by omega)) _).mono ?_; rintro e w' ⟨rfl, rfl⟩)
          go_ret
          exact ⟨rfl, rfl⟩

set_option maxHeartbeats 1000000 in
theorem of_neg (a : Nat) (h0 : 0 < a) (h : a ≤ 9007199254740992) (w : World) :
    Calls Tryd.prog 45 #[.int .i64 (-(a : Int))] w fun e w' => e = .returned (.int .i64 (withX true (ofN (a)))) ∧ w = w' := by
  have hb : decide (-(a : Int) < 0) = true := decide_eq_true (by omega)
  go_enter Tryd.func45, Tryd.ntmps45
  go_wp2_with fail
  go_loop [0, 4] (fun x e => ∃ y q : Int, x = .int .i64 y ∧ e = .int .i64 q ∧ L1 (a) y q ∧ 0 < y ∧ y ≤ 9007199254740992 ∧ 0 ≤ q ∧ q ≤ 1) (fun x _ => (intOf x).toNat)
  case atStart => exact ⟨_, 0, rfl, rfl, .inl ⟨by omega, rfl⟩, by omega, by omega, by omega, by omega⟩
  case round =>
    obtain ⟨y, q, rfl, rfl, hN, hy0, hy1, hq0, hq1⟩ := hrel
    by_cases h1 : 9007199254740992 ≤ y
    · have hN2 := l1_halve hN h1 hy1
      have hq2 := l1_q hN h1
      clear hN
      go_wp2_with fail
      go_round
      case rel => exact ⟨y / 2, q + 1, rfl, rfl, hN2, by omega, by omega, by omega, by omega⟩
      case measure => simp [intOf]; omega
    · have hN2 := l1_norm hN
      clear hN
      go_wp2_with fail
      go_loop [0, 4] (fun x e => ∃ y q : Int, x = .int .i64 y ∧ e = .int .i64 q ∧ Norm (a) y q ∧ 0 < y ∧ y < 9007199254740992 ∧ -60 ≤ q ∧ q ≤ 1) (fun x _ => 9007199254740992 - (intOf x).toNat)
      case atStart => exact ⟨_, _, rfl, rfl, hN2, by omega, by omega, by omega, by omega⟩
      case round =>
        clear hN2 hy0 hy1 hq0 hq1 h1
        obtain ⟨y2, q2, rfl, rfl, hN, hy0, hy1, hq0, hq1⟩ := hrel
        by_cases h2 : y2 < 4503599627370496
        · have hN2 := norm_twice hN h2
          have hq2 := norm_low hN h2 hy0
          clear hN
          go_wp2_with fail
          go_round
          case rel => exact ⟨y2 * 2, q2 - 1, rfl, rfl, hN2, by omega, by omega, by omega, by omega⟩
          case measure => simp [intOf]; omega
        · have hE := Lib.hid (norm_end hN (by omega) hy1)
          have hL := Lib.hid (ofN_le (a) (by omega))
          clear hN
          go_wp2_with (go_at_call 68; refine (with_any _ _ _ hE.out (Nat.lt_of_le_of_lt hL.out (by omega)) _).mono ?_; rintro e w' ⟨rfl, rfl⟩)
          go_ret
          exact ⟨rfl, rfl⟩

set_option maxHeartbeats 1000000 in
theorem of_low (n : Int) (h : n < -9007199254740992) (w : World) :
    Calls Tryd.prog 45 #[.int .i64 (n)] w fun e w' => e = .returned (.int .i64 (withX true (ofN (9007199254740992)))) ∧ w = w' := by
  have hb : decide (n < 0) = true := decide_eq_true (by omega)
  go_enter Tryd.func45, Tryd.ntmps45
  go_wp2_with fail
  go_loop [0, 4] (fun x e => ∃ y q : Int, x = .int .i64 y ∧ e = .int .i64 q ∧ L1 (9007199254740992) y q ∧ 0 < y ∧ y ≤ 9007199254740992 ∧ 0 ≤ q ∧ q ≤ 1) (fun x _ => (intOf x).toNat)
  case atStart => exact ⟨_, 0, rfl, rfl, .inl ⟨rfl, rfl⟩, by omega, by omega, by omega, by omega⟩
  case round =>
    obtain ⟨y, q, rfl, rfl, hN, hy0, hy1, hq0, hq1⟩ := hrel
    by_cases h1 : 9007199254740992 ≤ y
    · have hN2 := l1_halve hN h1 hy1
      have hq2 := l1_q hN h1
      clear hN
      go_wp2_with fail
      go_round
      case rel => exact ⟨y / 2, q + 1, rfl, rfl, hN2, by omega, by omega, by omega, by omega⟩
      case measure => simp [intOf]; omega
    · have hN2 := l1_norm hN
      clear hN
      go_wp2_with fail
      go_loop [0, 4] (fun x e => ∃ y q : Int, x = .int .i64 y ∧ e = .int .i64 q ∧ Norm (9007199254740992) y q ∧ 0 < y ∧ y < 9007199254740992 ∧ -60 ≤ q ∧ q ≤ 1) (fun x _ => 9007199254740992 - (intOf x).toNat)
      case atStart => exact ⟨_, _, rfl, rfl, hN2, by omega, by omega, by omega, by omega⟩
      case round =>
        clear hN2 hy0 hy1 hq0 hq1 h1
        obtain ⟨y2, q2, rfl, rfl, hN, hy0, hy1, hq0, hq1⟩ := hrel
        by_cases h2 : y2 < 4503599627370496
        · have hN2 := norm_twice hN h2
          have hq2 := norm_low hN h2 hy0
          clear hN
          go_wp2_with fail
          go_round
          case rel => exact ⟨y2 * 2, q2 - 1, rfl, rfl, hN2, by omega, by omega, by omega, by omega⟩
          case measure => simp [intOf]; omega
        · have hE := Lib.hid (norm_end hN (by omega) hy1)
          have hL := Lib.hid (ofN_le (9007199254740992) (by omega))
          clear hN
          go_wp2_with (go_at_call 68; refine (with_any _ _ _ hE.out (Nat.lt_of_le_of_lt hL.out (by omega)) _).mono ?_; rintro e w' ⟨rfl, rfl⟩)
          go_ret
          exact ⟨rfl, rfl⟩

theorem of_any (n : Int) (w : World) :
    Calls Tryd.prog 45 #[.int .i64 n] w fun e w' => e = .returned (.int .i64 (ofX n)) ∧ ∃ k, w' = w.drewN k := by
  have key : ∀ v : Int, v = ofX n → (Calls Tryd.prog 45 #[.int .i64 n] w fun e w' => e = .returned (.int .i64 v) ∧ w = w') →
      Calls Tryd.prog 45 #[.int .i64 n] w fun e w' => e = .returned (.int .i64 (ofX n)) ∧ ∃ k, w' = w.drewN k := by
    rintro v rfl h
    exact h.mono fun e w' ⟨h1, h2⟩ => ⟨h1, 0, h2.symm⟩
  rcases (show 9007199254740992 < n ∨ (0 < n ∧ n ≤ 9007199254740992) ∨ n = 0 ∨ (-9007199254740992 ≤ n ∧ n < 0) ∨ n < -9007199254740992 by omega) with h | h | h | h | h
  · have e : mnC (mxC n) = 9007199254740992 := by unfold mnC mxC; by_cases c1 : n < -9007199254740992 <;> simp only [c1, if_true, if_false] <;> (try (split <;> omega)) <;> omega
    exact key _ (by unfold ofX; rw [e]; rfl) (of_high n h w)
  · obtain ⟨a, rfl⟩ := Int.eq_ofNat_of_zero_le (show 0 ≤ n by omega)
    have e : mnC (mxC (a : Int)) = a := by unfold mnC mxC; by_cases c1 : (a : Int) < -9007199254740992 <;> simp only [c1, if_true, if_false] <;> (try (split <;> omega)) <;> omega
    refine key _ ?_ (of_pos a (by omega) (by omega) w)
    unfold ofX
    rw [e, show decide ((a : Int) < 0) = false from decide_eq_false (by omega), Int.natAbs_natCast]
  · subst h
    exact key _ rfl (of_zero w)
  · obtain ⟨a, ha⟩ := Int.eq_ofNat_of_zero_le (show 0 ≤ -n by omega)
    obtain rfl : n = -(a : Int) := by omega
    have e : mnC (mxC (-(a : Int))) = -(a : Int) := by unfold mnC mxC; by_cases c1 : (-(a : Int)) < -9007199254740992 <;> simp only [c1, if_true, if_false] <;> (try (split <;> omega)) <;> omega
    refine key _ ?_ (of_neg a (by omega) (by omega) w)
    unfold ofX
    rw [e, show decide (-(a : Int) < 0) = true from decide_eq_true (by omega), Int.natAbs_neg, Int.natAbs_natCast]
  · have e : mnC (mxC n) = -9007199254740992 := by unfold mnC mxC; by_cases c1 : n < -9007199254740992 <;> simp only [c1, if_true, if_false] <;> (try (split <;> omega)) <;> omega
    exact key _ (by unfold ofX; rw [e]; rfl) (of_low n h w)
end Go.Proofs.YtlphgnfjemaliaaDoor.RefOf

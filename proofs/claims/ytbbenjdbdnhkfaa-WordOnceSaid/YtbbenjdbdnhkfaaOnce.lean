/-
  The law WordOnce: what is got is put as the same bytes; without its last byte there must be more. The plain part
  and the walk of the law over the printed contracts. Conditions: bytes are 0 to 255.
-/
import Derived.Test.YtbbenjdbdnhkfaaPureG
import Derived.BigQuiet
namespace Go.Proofs.Ytbbenjdbdnhkfaa.Once
open Go.RowKit Go.Proofs.Ytbbenjdbdnhkfaa.Pr Go.Proofs.YtbbenjdbdnhkfaaW.PrintWords Go.Proofs.YtbbenjdbdnhkfaaW.PrintLast Go.Proofs.YtbbenjdbdnhkfaaW.PrintMore Go.Proofs.Ytbbenjdbdnhkfaa.PureW Go.Proofs.Ytbbenjdbdnhkfaa.PureG

/-- What was got are the bytes of a number; a part of them that lacks the last one gives none. -/
theorem getS_once (b : List Int) (hb : Bytes b) (d : Nat) : ∀ (i : Nat) (m : Int), (getS b d i m).2.2 = 0 →
    ∃ q : Nat, (getS b d i m).1 = m + (q : Int) * 2 ^ (7 * i) ∧ (getS b d i m).2.1 = (i : Int) + (digits q).length ∧ (b.drop i).take (digits q).length = digits q ∧ i + (digits q).length ≤ b.length ∧ (0 < i → 0 < q) ∧
      (getS b d i m).1 ≤ 1099511627776 ∧ getS (b.take (i + (digits q).length - 1)) d i m = (0, 0, 3) := by
  induction d with
  | zero => intro i m h; simp [getS] at h
  | succ d ih =>
    intro i m h
    have hc := hb.at_ i
    by_cases hl : b.length ≤ i
    · simp [getS, hl] at h
    · have hlt : i < b.length := by omega
      have hgd : b.getD i 0 = b[i] := by rw [List.getD_eq_getElem?_getD, List.getElem?_eq_getElem hlt, Option.getD_some]
      have hdrop : b.drop i = b.getD i 0 :: b.drop (i + 1) := by rw [hgd]; exact List.drop_eq_getElem_cons hlt
      simp only [getS, if_neg hl] at h ⊢
      by_cases hge : 128 ≤ b.getD i 0
      · simp only [if_pos hge] at h ⊢
        obtain ⟨q', h1, h2, h3, h4, h5, h6, h7⟩ := ih (i + 1) _ h
        have hq0 := h5 (by omega)
        obtain ⟨c, hcc⟩ : ∃ c : Nat, b.getD i 0 = ((c + 128 : Nat) : Int) ∧ c < 128 := ⟨(b.getD i 0 - 128).toNat, by omega, by omega⟩
        have hdig : digits (c + 128 * q') = b.getD i 0 :: digits q' := by
          rw [digits_ge (by omega), hcc.1, show (c + 128 * q') % 128 + 128 = c + 128 by omega, show (c + 128 * q') / 128 = q' by omega]
        have hp := digits_pos q'
        have ep : (2 : Int) ^ (7 * (i + 1)) = 128 * 2 ^ (7 * i) := by rw [show 7 * (i + 1) = 7 * i + 7 by omega, Int.pow_add]; omega
        refine ⟨c + 128 * q', ?_, ?_, ?_, ?_, by omega, h6, ?_⟩
        · rw [h1, ep, ← Int.mul_assoc, Int.add_assoc, ← Int.add_mul]
          congr 2; omega
        · rw [h2, hdig, List.length_cons]; omega
        · rw [hdig, List.length_cons, hdrop, List.take_succ_cons, h3]
        · rw [hdig, List.length_cons]; omega
        · rw [hdig, List.length_cons]
          have e1 : i + ((digits q').length + 1) - 1 = i + 1 + (digits q').length - 1 := by omega
          rw [e1]
          have ht : (b.take (i + 1 + (digits q').length - 1)).getD i 0 = b.getD i 0 := by
            rw [List.getD_eq_getElem?_getD, List.getElem?_take, if_pos (by omega), List.getD_eq_getElem?_getD]
          rw [if_neg (by rw [List.length_take]; omega), ht, if_pos hge]
          exact h7
      · simp only [if_neg hge] at h ⊢
        by_cases hz : (b.getD i 0 = 0 ∧ 0 < i) ∨ ¬ (m + b.getD i 0 % 128 * 2 ^ (7 * i) ≤ 1099511627776)
        · rw [if_pos hz] at h; simp at h
        · rw [if_neg hz] at h ⊢
          obtain ⟨c, hcc⟩ : ∃ c : Nat, b.getD i 0 = (c : Int) ∧ c < 128 := ⟨(b.getD i 0).toNat, by omega, by omega⟩
          have hdig : digits c = [b.getD i 0] := by rw [digits_lt hcc.2, hcc.1]
          refine ⟨c, ?_, ?_, ?_, ?_, by omega, by simp only; omega, ?_⟩
          · simp only; rw [hcc.1, show (c : Int) % 128 = c by omega]
          · simp only; rw [hdig]; simp
          · rw [hdig, hdrop]; simp
          · rw [hdig]; simp; omega
          · rw [hdig]
            simp only [List.length_singleton, Nat.add_sub_cancel]
            rw [if_pos (by rw [List.length_take]; omega)]

theorem getS_bad (b : List Int) (d : Nat) : ∀ (i : Nat) (m : Int), (getS b d i m).2.2 ≠ 0 → (getS b d i m).1 = 0 ∧ (getS b d i m).2.1 = 0 := by
  induction d with
  | zero => intro i m h; simp [getS]
  | succ d ih =>
    intro i m h
    simp only [getS] at h ⊢
    by_cases h1 : b.length ≤ i
    · rw [if_pos h1]; exact ⟨rfl, rfl⟩
    · rw [if_neg h1] at h ⊢
      by_cases h2 : 128 ≤ b.getD i 0
      · rw [if_pos h2] at h ⊢; exact ih _ _ h
      · rw [if_neg h2] at h ⊢
        by_cases h3 : (b.getD i 0 = 0 ∧ 0 < i) ∨ ¬ (m + b.getD i 0 % 128 * 2 ^ (7 * i) ≤ 1099511627776)
        · rw [if_pos h3]; exact ⟨rfl, rfl⟩
        · rw [if_neg h3] at h; simp at h

/-- What the law asks of what was got. -/
theorem once_facts (b : List Int) (hb : Bytes b) (h : (getS b 6 0 0).2.2 = 0) : ∃ (n K : Nat), getS b 6 0 0 = ((n : Int), (K : Int), 0) ∧ 1 ≤ K ∧ K ≤ b.length ∧ putS n = (b.take K, 0) ∧ getS (b.take (K - 1)) 6 0 0 = (0, 0, 3) := by
  obtain ⟨q, h1, h2, h3, h4, _, h6, h7⟩ := getS_once b hb 6 0 0 h
  have hp := digits_pos q
  have e1 : (getS b 6 0 0).1 = (q : Int) := by rw [h1]; simp
  have e2 : (getS b 6 0 0).2.1 = ((digits q).length : Int) := by rw [h2]; simp
  rw [List.drop_zero] at h3
  rw [Nat.zero_add] at h4 h7
  refine ⟨q, (digits q).length, ?_, hp, h4, ?_, h7⟩
  · exact Prod.ext e1 (Prod.ext e2 h)
  · unfold putS
    rw [if_pos (by omega), h3, Int.toNat_natCast]

theorem awake_w (w : World) : Calls Try.prog 12 #[] w fun e w' => e = .returned (.bool true) ∧ Below w.heap.size w w' := by
  obtain ⟨k, h⟩ := awake_ev.rounds
  exact quarterdecklaw01_awake.calls k true w h

theorem once_long (A : Option Addr) (c : Nat) (b : List Int) (w : World) (hl : 2000 < b.length) :
    Calls Try.prog 9 #[.slice A b.length c] w fun e w' => e = .returned (.bool true) ∧ Below w.heap.size w w' := by
  have h1 : decide ((2000 : Int) < (b.length : Int)) = true := decide_eq_true (by omega)
  clear hl
  go_enter Try.func9, Try.ntmps9
  go_wp2_with (go_at_call 12; refine (awake_w _).mono ?_; rintro e w1 ⟨rfl, hb1⟩)
  go_ret
  exact ⟨rfl, hb1⟩

theorem once_bad (A : Option Addr) (c : Nat) (b : List Int) (w : World) (hr : Kd.C (Kd.int .u8) w A b.length b) (hc : b.length ≤ c) (hl : ¬ 2000 < b.length) (hb : Bytes b) (e0 : Int) (he : e0 ≠ 0) (hg : getS b 6 0 0 = (0, 0, e0)) :
    Calls Try.prog 9 #[.slice A b.length c] w fun e w' => e = .returned (.bool true) ∧ Below w.heap.size w w' := by
  have h1 : decide ((2000 : Int) < (b.length : Int)) = false := decide_eq_false (by omega)
  have h2 : (e0 != 0) = true := by simp [he]
  obtain ⟨k, hk⟩ := (get_ev b hb).rounds
  rw [hg] at hk
  have HK := Aside0.mk hk
  have HR := Aside0.mk hr
  have HC := Aside0.mk hc
  clear hr hc hl hk hg hb he
  go_enter Try.func9, Try.ntmps9
  go_wp2_with (first
    | (go_at_call 12; refine (awake_w _).mono ?_; rintro e w1 ⟨rfl, hb1⟩; have HB := Aside0.mk hb1; clear hb1)
    | (go_at_call 19; refine (word_Get.calls k A c b 0 0 e0 _ (Kd.C_below HR.out HB.out) HC.out HK.out).mono ?_; rintro e w2 ⟨rfl, ⟨nd, rfl⟩⟩))
  go_ret
  exact ⟨rfl, pw_below_drewN HB.out _⟩

set_option maxHeartbeats 1000000 in
theorem once_good (A : Option Addr) (c : Nat) (b : List Int) (w : World) (hr : Kd.C (Kd.int .u8) w A b.length b) (hc : b.length ≤ c) (hl : ¬ 2000 < b.length) (hb : Bytes b) (n K : Nat) (hg : getS b 6 0 0 = ((n : Int), (K : Int), 0)) (hK1 : 1 ≤ K) (hK2 : K ≤ b.length)
    (hput : putS n = (b.take K, 0)) (hcut : getS (b.take (K - 1)) 6 0 0 = (0, 0, 3)) :
    Calls Try.prog 9 #[.slice A b.length c] w fun e w' => e = .returned (.bool true) ∧ Below w.heap.size w w' := by
  have h1 : decide ((2000 : Int) < (b.length : Int)) = false := decide_eq_false (by omega)
  have h2 : decide ((K : Int) < 1) = false := decide_eq_false (by omega)
  have h3 : decide ((b.length : Int) < (K : Int)) = false := decide_eq_false (by omega)
  have hK3 : K ≤ 2000 := by omega
  obtain ⟨k, hk⟩ := (get_ev b hb).rounds
  obtain ⟨k2, hk2⟩ := (put_ev n).rounds
  obtain ⟨k3, hk3⟩ := (get_ev (b.take (K - 1)) (hb.take _)).rounds
  rw [hg] at hk
  rw [hput] at hk2
  rw [hcut] at hk3
  have HK := Aside0.mk hk
  have HK2 := Aside0.mk hk2
  have HK3 := Aside0.mk hk3
  have HR := Aside0.mk hr
  have HC := Aside0.mk hc
  clear hr hc hl hk hk2 hk3 hg hb hput hcut
  go_enter Try.func9, Try.ntmps9
  go_wp2_with fail
  refine (awake_w _).mono ?_
  rintro e w1 ⟨rfl, hb1⟩
  have HB := Aside0.mk hb1
  clear hb1
  go_wp2_with fail
  refine (word_Get.calls k A c b n K 0 _ (Kd.C_below HR.out HB.out) HC.out HK.out).mono ?_
  rintro e w2 ⟨rfl, ⟨nd, rfl⟩⟩
  go_wp2_with fail
  refine (word_Put.calls k2 n (b.take K) 0 _ HK2.out).mono ?_
  rintro e w3 ⟨v, rfl, ho, hb3⟩
  have HB3 := Aside0.mk (below_step (pw_below_drewN HB.out _) hb3)
  have HO := Aside0.mk ho
  clear HB ho hb3
  obtain ⟨i0, hi0, hz0, hsz, hby⟩ := info_parts info5
  obtain ⟨hs1, hA1, hC1⟩ := print_take_of (P := Try.prog) (Value.int .u8) 0 26 5 .i64 Try.underlying26 hi0 hsz A c b ((K : Int) - 1) (by omega) (by omega) HC.out
  obtain ⟨hs2, hA2, hC2⟩ := print_take_of (P := Try.prog) (Value.int .u8) 0 26 5 .i64 Try.underlying26 hi0 hsz A c b (K : Int) (by omega) (by omega) HC.out
  have e1 : ((K : Int) - 1).toNat = K - 1 := by omega
  rw [e1] at hs1 hA1 hC1
  rw [Int.toNat_natCast] at hs2 hA2 hC2
  have HR1 := Aside0.mk (Kd.C_of_reads (h1 := fun _ => rfl) (hA1 _ (Kd.reads_of_C HR.out)))
  have HR2 := Aside0.mk (Kd.C_of_reads (h1 := fun _ => rfl) (hA2 _ (Kd.reads_of_C HR.out)))
  have el1 : (b.take (K - 1)).length = K - 1 := by rw [List.length_take]; omega
  have el2 : (b.take K).length = K := by rw [List.length_take]; omega
  have hG := fun (W : World) (hC : Kd.C (Kd.int .u8) W A (b.take (K - 1)).length (b.take (K - 1))) => word_Get.calls k3 A c (b.take (K - 1)) 0 0 3 W hC hC1 HK3.out
  have hcv2 := fun (W : World) (hC : Kd.C (Kd.int .u8) W A (b.take K).length (b.take K)) => Kd.C_string (P := Try.prog) (w := W) (c := c) Try.underlying26 Try.underlying5 Try.underlying9 hC
  rw [el1] at hs1 hG
  rw [el2] at hs2 hcv2
  have HG := Aside0.mk hG
  have HCV2 := Aside0.mk hcv2
  rw [el1] at HR1
  rw [el2] at HR2
  clear hA1 hA2 hC1 hC2 e1 el1 el2 hi0 hsz hz0 hby hG hcv2
  go_wp2_with fail
  refine (HG.out _ (Kd.C_below HR1.out HB3.out)).mono ?_
  rintro e w2 ⟨rfl, ⟨nd2, rfl⟩⟩
  have hcv := fun m => own_string (P := Try.prog) (w := w3.drewN m) Try.underlying26 Try.underlying5 Try.underlying9 (Kd.own_of_R (Kd.R_drewN HO.out m))
  have hcv2 := fun m => HCV2.out (w3.drewN m) (Kd.C_drewN (Kd.C_below HR2.out HB3.out) m)
  go_wp2_with fail
  go_quiet (fail)
  go_wp2_with fail
  go_ret
  exact ⟨rfl, pw_below_drewN (pw_below_drewN HB3.out _) _⟩

theorem walk (a0 : Option Addr) (len0 cap0 : Nat) (z0 : List Int) (w : World) (w0 : (a0 = none ∧ len0 = 0 ∧ cap0 = 0 ∧ z0 = []) ∨ ∃ x, a0 = some x ∧ len0 ≤ cap0 ∧ cap0 ≤ maxLen ∧ z0.length = cap0 ∧ (∀ i, i < z0.length → w.cell? (x.add i) = some (.int .u8 (z0.getD i 0))) ∧ ∀ n ∈ z0, (Lit.int .u8 n).wf = true)
    (_y0 : len0 * 1 ≤ 140737488351232) :
    Calls Try.prog 9 #[.slice a0 len0 cap0] w fun e w' => e = .returned (.bool true) ∧ Below w.heap.size w w' := by
  obtain ⟨b, rfl, hr0, _, hw0, hc⟩ := ReadsInt.ofRowC w0
  have hb := wf8 hw0
  have hr := Kd.C_of_reads (d := (0 : Int)) (h1 := fun _ => rfl) hr0
  by_cases hl : 2000 < b.length
  · exact once_long _ _ b w hl
  · by_cases he : (getS b 6 0 0).2.2 = 0
    · obtain ⟨n, K, h1, h2, h3, h4, h5⟩ := once_facts b hb he
      exact once_good _ _ b w hr hc hl hb n K h1 h2 h3 h4 h5
    · have := getS_bad b 6 0 0 he
      exact once_bad _ _ b w hr hc hl hb _ he (Prod.ext this.1 (Prod.ext this.2 rfl))
end Go.Proofs.Ytbbenjdbdnhkfaa.Once

/-
  Plain lemmas on the printed Get, GetAll and Same of package word and its reference. No program in sight.
  Conditions: bytes are 0 to 255 where a lemma says so.
-/
import Derived.Test.YtbbenjdbdnhkfaaPureW
namespace Go.Proofs.Ytbbenjdbdnhkfaa.PureG
open Go.RowKit Go.Proofs.Ytbbenjdbdnhkfaa.Pr Go.Proofs.YtbbenjdbdnhkfaaW.PrintWords Go.Proofs.YtbbenjdbdnhkfaaW.PrintLast Go.Proofs.YtbbenjdbdnhkfaaW.PrintMore Go.Proofs.Ytbbenjdbdnhkfaa.PureW

/-- All numbers of a list are bytes. -/
def Bytes (b : List Int) : Prop := ∀ x ∈ b, 0 ≤ x ∧ x < 256
theorem Bytes.at_ {b : List Int} (h : Bytes b) (i : Nat) : 0 ≤ b.getD i 0 ∧ b.getD i 0 < 256 := by
  by_cases hi : i < b.length
  · rw [List.getD_eq_getElem?_getD, List.getElem?_eq_getElem hi, Option.getD_some]; exact h _ (List.getElem_mem hi)
  · rw [List.getD_eq_getElem?_getD, List.getElem?_eq_none (by omega)]; simp
theorem Bytes.drop {b : List Int} (h : Bytes b) (k : Nat) : Bytes (b.drop k) := fun x hx => h x (List.mem_of_mem_drop hx)
theorem Bytes.take {b : List Int} (h : Bytes b) (k : Nat) : Bytes (b.take k) := fun x hx => h x (List.mem_of_mem_take hx)
theorem wf8 {b : List Int} (h : ∀ x ∈ b, (Lit.int .u8 x).wf = true) : Bytes b := by
  intro x hx
  have := h x hx
  simp [Lit.wf, IntKind.min, IntKind.max, IntKind.bits, IntKind.signed] at this
  omega

/-- The number that bytes begin with: from byte 'i' on, 'n' being what the bytes ahead of it give, at most 'd' bytes more. -/
def getS (b : List Int) : Nat → Nat → Int → Int × Int × Int
  | 0, _, _ => (0, 0, 2)
  | d + 1, i, n =>
    if b.length ≤ i then (0, 0, 3)
    else if 128 ≤ b.getD i 0 then getS b d (i + 1) (n + b.getD i 0 % 128 * 2 ^ (7 * i))
    else if (b.getD i 0 = 0 ∧ 0 < i) ∨ ¬ (n + b.getD i 0 % 128 * 2 ^ (7 * i) ≤ 1099511627776) then (0, 0, 2)
    else (n + b.getD i 0 % 128 * 2 ^ (7 * i), i + 1, 0)

theorem or_join (n c : Int) (i : Nat) (hi : i ≤ 5) (hn0 : 0 ≤ n) (hn : n < 2 ^ (7 * i)) (hc0 : 0 ≤ c) (hc : c < 128) : Go.bits .or .i64 n (c * 2 ^ (7 * i)) = n + c * 2 ^ (7 * i) := by
  obtain ⟨a, rfl⟩ := Int.eq_ofNat_of_zero_le hn0
  obtain ⟨m, rfl⟩ := Int.eq_ofNat_of_zero_le hc0
  have ha : a < 2 ^ (7 * i) := by exact_mod_cast hn
  have hp : 2 ^ (7 * i) ≤ 2 ^ 35 := Nat.pow_le_pow_right (by omega) (by omega)
  have hw : ∀ n : Int, 0 ≤ n → n < 2 ^ 63 → IntKind.i64.wrap n = n := fun n h0 h1 => by rw [IntKind.wrap_i64]; omega
  have hm : m * 2 ^ (7 * i) < 2 ^ 63 := by
    have : m * 2 ^ (7 * i) ≤ 127 * 2 ^ 35 := Nat.mul_le_mul (by omega) hp
    omega
  have e : ((m : Int) * 2 ^ (7 * i)) = ((m * 2 ^ (7 * i) : Nat) : Int) := by rw [Int.natCast_mul]; simp
  rw [e, (bits_nat .i64 63 (by decide) hw a _ (by omega) hm).2, Nat.or_comm, Nat.mul_comm m, ← Nat.two_pow_add_eq_or_of_lt ha m]
  rw [Int.natCast_add, Int.add_comm]

theorem shl_c (c : Int) (i : Nat) (hi : i ≤ 5) (hc0 : 0 ≤ c) (hc : c < 128) : shl .i64 c (wrap64 (7 * (i : Int))) = c * 2 ^ (7 * i) := by
  rw [w64 (by omega) (by omega)]
  unfold shl
  have e1 : (7 * (i : Int)).toNat = 7 * i := by omega
  have e2 : min (7 * i) IntKind.i64.bits = 7 * i := by have : IntKind.i64.bits = 64 := rfl; omega
  rw [e1, e2, IntKind.wrap_i64]
  have hp : (2 : Int) ^ (7 * i) ≤ 2 ^ 35 := by exact_mod_cast (Nat.pow_le_pow_right (by omega) (by omega) : 2 ^ (7 * i) ≤ 2 ^ 35)
  have hp0 : (0 : Int) < 2 ^ (7 * i) := by exact_mod_cast Nat.two_pow_pos (7 * i)
  have h1 : c * 2 ^ (7 * i) ≤ 127 * 2 ^ 35 := Int.mul_le_mul (by omega) hp (by omega) (by omega)
  have h2 : 0 ≤ c * 2 ^ (7 * i) := Int.mul_nonneg hc0 (by omega)
  omega

theorem next_lt (n c : Int) (i : Nat) (hn : n < 2 ^ (7 * i)) (hc : c < 128) : n + c * 2 ^ (7 * i) < 2 ^ (7 * (i + 1)) := by
  have hp0 : (0 : Int) < 2 ^ (7 * i) := by exact_mod_cast Nat.two_pow_pos (7 * i)
  have e : (2 : Int) ^ (7 * (i + 1)) = 128 * 2 ^ (7 * i) := by rw [show 7 * (i + 1) = 7 * i + 7 by omega, Int.pow_add]; omega
  have h1 : c * 2 ^ (7 * i) ≤ 127 * 2 ^ (7 * i) := Int.mul_le_mul_of_nonneg_right (by omega) (by omega)
  rw [e]; omega

theorem next_ge (n c : Int) (i : Nat) (hn : 0 ≤ n) (hc : 0 ≤ c) : 0 ≤ n + c * 2 ^ (7 * i) := by
  have hp0 : (0 : Int) < 2 ^ (7 * i) := by exact_mod_cast Nat.two_pow_pos (7 * i)
  have := Int.mul_nonneg hc (show (0 : Int) ≤ 2 ^ (7 * i) by omega)
  omega

theorem rd_nat (b : List Int) (i : Nat) : rd b i = b.getD i 0 := by unfold rd; rw [Int.toNat_natCast]

theorem get_l0 (b : List Int) (hb : Bytes b) (d : Nat) : ∀ (i : Nat) (n : Int), i + d = 6 → 0 ≤ n → n < 2 ^ (7 * i) → Ev (fun k => word_Get.l0 k b n i) (getS b d i n) := by
  induction d with
  | zero =>
    intro i n hd h0 h1
    refine Ev.step (f := fun _ => some (0, 0, 2)) (fun k => ?_) (Ev.now _)
    simp only [word_Get.l0]; rw [if_neg (by omega)]
  | succ d ih =>
    intro i n hd h0 h1
    have hc := hb.at_ i
    by_cases hl : b.length ≤ i
    · refine Ev.step (f := fun _ => some (0, 0, 3)) (fun k => ?_) ?_
      · simp only [word_Get.l0]; rw [if_pos (by omega), if_pos (by omega)]
      · simp only [getS, if_pos hl]; exact Ev.now _
    · simp only [getS, if_neg hl]
      have e0 : Int.tmod (rd b i) 128 = b.getD i 0 % 128 := by rw [rd_nat, Int.tmod_eq_emod_of_nonneg hc.1]
      have e1 : wrap64 (Int.tmod (rd b i) 128) = b.getD i 0 % 128 := by rw [e0]; exact w64 (by omega) (by omega)
      have e2 : Go.bits .or .i64 n (shl .i64 (b.getD i 0 % 128) (wrap64 (7 * (i : Int)))) = n + b.getD i 0 % 128 * 2 ^ (7 * i) := by
        rw [shl_c _ i (by omega) (by omega) (by omega)]; exact or_join n _ i (by omega) h0 h1 (by omega) (by omega)
      have hn := next_ge n (b.getD i 0 % 128) i h0 (by omega)
      have hn' := next_lt n (b.getD i 0 % 128) i h1 (by omega)
      by_cases hge : 128 ≤ b.getD i 0
      · simp only [if_pos hge]
        refine Ev.step (f := fun k => word_Get.l0 k b (n + b.getD i 0 % 128 * 2 ^ (7 * i)) ((i + 1 : Nat) : Int)) (fun k => ?_) (ih (i + 1) _ (by omega) hn hn')
        simp only [word_Get.l0]
        rw [if_pos (by omega), if_neg (by omega), if_pos (by omega), if_pos (by omega), if_pos (by rw [w64 (by omega) (by omega)]; omega), if_pos (by rw [rd_nat]; omega), e1, e2, w64 (x := (i : Int) + 1) (by omega) (by omega)]
        rfl
      · simp only [if_neg hge]
        generalize n + b.getD i 0 % 128 * 2 ^ (7 * i) = m at *
        refine Ev.step (f := fun k => word_Get.j1 k m i (if b.getD i 0 = 0 then decide ((i : Int) > 0) else false)) (fun k => ?_) ?_
        · simp only [word_Get.l0]
          rw [if_pos (by omega), if_neg (by omega), if_pos (by omega), if_pos (by omega), if_pos (by rw [w64 (by omega) (by omega)]; omega), if_neg (by rw [rd_nat]; omega), e1, e2, rd_nat]
          split <;> rfl
        · by_cases hz : b.getD i 0 = 0 ∧ 0 < i
          · rw [if_pos hz.1, if_pos (Or.inl hz)]
            refine Ev.step (f := fun _ => some (0, 0, 2)) (fun k => ?_) (Ev.now _)
            simp only [word_Get.j1]; rw [if_pos (by simp; omega)]
          · have hf : (if b.getD i 0 = 0 then decide ((i : Int) > 0) else false) = false := by
              by_cases h : b.getD i 0 = 0
              · rw [if_pos h]; simp; omega
              · rw [if_neg h]
            rw [hf]
            by_cases hm : m ≤ 1099511627776
            · rw [if_neg (by omega)]
              refine Ev.step (f := fun _ => some (m, (i : Int) + 1, 0)) (fun k => ?_) (Ev.now _)
              simp only [word_Get.j1, may_eq, Option.bind_some, Bool.false_eq_true, if_false]
              rw [if_pos (by simp; omega), w64 (by omega) (by omega)]
            · rw [if_pos (Or.inr hm)]
              refine Ev.step (f := fun _ => some (0, 0, 2)) (fun k => ?_) (Ev.now _)
              simp only [word_Get.j1, may_eq, Option.bind_some, Bool.false_eq_true, if_false]
              rw [if_neg (by simp; omega)]

theorem get_ev (b : List Int) (hb : Bytes b) : Ev (fun k => word_Get.f k b) (getS b 6 0 0) := by
  unfold word_Get.f
  exact get_l0 b hb 6 0 0 (by omega) (by omega) (by decide)

theorem refget_l0 (b : List Int) (hb : Bytes b) (d : Nat) : ∀ (i : Nat) (n : Int), i + d = 6 → 0 ≤ n → n < 2 ^ (7 * i) → Ev (fun k => quarterdeckref01_Get.l0 k b n (2 ^ (7 * i)) i) (getS b d i n) := by
  induction d with
  | zero =>
    intro i n hd h0 h1
    refine Ev.step (f := fun _ => some (0, 0, 2)) (fun k => ?_) (Ev.now _)
    simp only [quarterdeckref01_Get.l0]; rw [if_neg (by omega)]
  | succ d ih =>
    intro i n hd h0 h1
    have hc := hb.at_ i
    by_cases hl : b.length ≤ i
    · refine Ev.step (f := fun _ => some (0, 0, 3)) (fun k => ?_) ?_
      · simp only [quarterdeckref01_Get.l0]; rw [if_pos (by omega), if_pos (by omega)]
      · simp only [getS, if_pos hl]; exact Ev.now _
    · simp only [getS, if_neg hl]
      have hr : wrap64 (rd b i) = b.getD i 0 := by rw [rd_nat]; exact w64 (by omega) (by omega)
      have e0 : Int.tmod (b.getD i 0) 128 = b.getD i 0 % 128 := Int.tmod_eq_emod_of_nonneg hc.1
      have hn := next_ge n (b.getD i 0 % 128) i h0 (by omega)
      have hn' := next_lt n (b.getD i 0 % 128) i h1 (by omega)
      have hp : (2 : Int) ^ (7 * (i + 1)) ≤ 2 ^ 42 := by exact_mod_cast (Nat.pow_le_pow_right (by omega) (by omega) : 2 ^ (7 * (i + 1)) ≤ 2 ^ 42)
      have hp' : (0 : Int) < 2 ^ (7 * i) := by exact_mod_cast Nat.two_pow_pos (7 * i)
      have ep : (2 : Int) ^ (7 * (i + 1)) = 2 ^ (7 * i) * 128 := by rw [show 7 * (i + 1) = 7 * i + 7 by omega, Int.pow_add]; rfl
      have e1 : wrap64 (b.getD i 0 % 128 * 2 ^ (7 * i)) = b.getD i 0 % 128 * 2 ^ (7 * i) := w64 (by omega) (by omega)
      have e2 : wrap64 (n + b.getD i 0 % 128 * 2 ^ (7 * i)) = n + b.getD i 0 % 128 * 2 ^ (7 * i) := w64 (by omega) (by omega)
      have e3 : wrap64 ((2 : Int) ^ (7 * i) * 128) = 2 ^ (7 * (i + 1)) := by rw [ep]; exact w64 (by omega) (by omega)
      by_cases hge : 128 ≤ b.getD i 0
      · simp only [if_pos hge]
        refine Ev.step (f := fun k => quarterdeckref01_Get.l0 k b (n + b.getD i 0 % 128 * 2 ^ (7 * i)) (2 ^ (7 * (i + 1))) ((i + 1 : Nat) : Int)) (fun k => ?_) (ih (i + 1) _ (by omega) hn hn')
        simp only [quarterdeckref01_Get.l0]
        rw [if_pos (by omega), if_neg (by omega), if_pos (by omega), if_pos (by omega), if_neg (by rw [hr]; omega), hr, e0, e1, e2, e3, w64 (x := (i : Int) + 1) (by omega) (by omega)]
        rfl
      · simp only [if_neg hge]
        generalize hm' : n + b.getD i 0 % 128 * 2 ^ (7 * i) = m at *
        refine Ev.step (f := fun _ => some (if (b.getD i 0 = 0 ∧ 0 < i) ∨ ¬ (m ≤ 1099511627776) then ((0 : Int), (0 : Int), (2 : Int)) else (m, (i : Int) + 1, 0))) (fun k => ?_) (Ev.now _)
        simp only [quarterdeckref01_Get.l0]
        rw [if_pos (by omega), if_neg (by omega), if_pos (by omega), if_pos (by omega), if_pos (by rw [hr]; omega), hr, e0, e1, hm', e2, refmay_eq, Option.bind_some, w64 (x := (i : Int) + 1) (by omega) (by omega)]
        by_cases hz : b.getD i 0 = 0
        · rw [if_pos hz]
          by_cases hi : 0 < i
          · rw [if_pos (by omega), if_pos (Or.inl ⟨hz, hi⟩)]
          · rw [if_neg (by omega)]
            by_cases hm : m ≤ 1099511627776
            · rw [if_pos (by simp; omega), if_neg (by omega)]
            · rw [if_neg (by simp; omega), if_pos (Or.inr hm)]
        · rw [if_neg hz]
          by_cases hm : m ≤ 1099511627776
          · rw [if_pos (by simp; omega), if_neg (by omega)]
          · rw [if_neg (by simp; omega), if_pos (Or.inr hm)]

theorem refget_ev (b : List Int) (hb : Bytes b) : Ev (fun k => quarterdeckref01_Get.f k b) (getS b 6 0 0) := by
  unfold quarterdeckref01_Get.f
  exact refget_l0 b hb 6 0 0 (by omega) (by omega) (by decide)

/-- What was got lies in the bytes. -/
theorem getS_k (b : List Int) (d : Nat) : ∀ (i : Nat) (n : Int), (getS b d i n).2.2 = 0 → (i : Int) + 1 ≤ (getS b d i n).2.1 ∧ (getS b d i n).2.1 ≤ b.length := by
  induction d with
  | zero => intro i n h; simp [getS] at h
  | succ d ih =>
    intro i n h
    by_cases hl : b.length ≤ i
    · simp [getS, hl] at h
    · simp only [getS, if_neg hl] at h ⊢
      by_cases hge : 128 ≤ b.getD i 0
      · simp only [if_pos hge] at h ⊢
        have := ih (i + 1) _ h
        omega
      · simp only [if_neg hge] at h ⊢
        by_cases hz : (b.getD i 0 = 0 ∧ 0 < i) ∨ ¬ (n + b.getD i 0 % 128 * 2 ^ (7 * i) ≤ 1099511627776)
        · rw [if_pos hz] at h; simp at h
        · rw [if_neg hz]; simp only; omega

/-- The numbers that bytes are, at most 'd' of them. -/
def getAllS : Nat → List Int → List Int → List Int × Int
  | 0, _, acc => (acc, 0)
  | d + 1, b, acc => if b.length = 0 then (acc, 0) else if (getS b 6 0 0).2.2 = 0 then getAllS d (b.drop (getS b 6 0 0).2.1.toNat) (acc ++ [(getS b 6 0 0).1]) else ([], (getS b 6 0 0).2.2)

theorem getall_l0 (d : Nat) : ∀ b acc : List Int, Bytes b → b.length ≤ d → acc.length + b.length < 17592186044416 → Ev (fun k => word_GetAll.l0 k b acc) (getAllS d b acc) := by
  induction d with
  | zero =>
    intro b acc hb hd ha
    refine Ev.step (f := fun _ => some (acc, 0)) (fun k => ?_) (Ev.now _)
    simp only [word_GetAll.l0]; rw [if_neg (by omega)]
  | succ d ih =>
    intro b acc hb hd ha
    by_cases hl : b.length = 0
    · simp only [getAllS, if_pos hl]
      refine Ev.step (f := fun _ => some (acc, 0)) (fun k => ?_) (Ev.now _)
      simp only [word_GetAll.l0]; rw [if_neg (by omega)]
    · simp only [getAllS, if_neg hl]
      have hk := getS_k b 6 0 0
      refine Ev.step (f := fun k => (word_Get.f k b).bind fun g => if g.2.2 = 0 then (if acc.length < 17592186044416 then (if 0 ≤ g.2.1 then (if g.2.1 ≤ (b.length : Int) then word_GetAll.l0 k (b.drop g.2.1.toNat) (acc ++ [g.1]) else none) else none) else none) else some (([] : List Int), g.2.2)) (fun k => ?_) ?_
      · simp only [word_GetAll.l0]; rw [if_pos (by omega)]
      · refine Ev.bind (get_ev b hb) ?_
        generalize getS b 6 0 0 = g at *
        by_cases h0 : g.2.2 = 0
        · have := hk h0
          have c1 : acc.length < 17592186044416 := by omega
          have c2 : 0 ≤ g.2.1 := by omega
          have c3 : g.2.1 ≤ (b.length : Int) := this.2
          simp only [if_pos h0, if_pos c1, if_pos c2, if_pos c3]
          exact ih _ _ (hb.drop _) (by rw [List.length_drop]; omega) (by rw [List.length_append, List.length_drop]; simp; omega)
        · simp only [if_neg h0]; exact Ev.now _

theorem refgetall_l0 (d : Nat) : ∀ b acc : List Int, Bytes b → b.length ≤ d → acc.length + b.length < 17592186044416 → Ev (fun k => quarterdeckref01_GetAll.l0 k b acc) (getAllS d b acc) := by
  induction d with
  | zero =>
    intro b acc hb hd ha
    refine Ev.step (f := fun _ => some (acc, 0)) (fun k => ?_) (Ev.now _)
    simp only [quarterdeckref01_GetAll.l0]; rw [if_neg (by omega)]
  | succ d ih =>
    intro b acc hb hd ha
    by_cases hl : b.length = 0
    · simp only [getAllS, if_pos hl]
      refine Ev.step (f := fun _ => some (acc, 0)) (fun k => ?_) (Ev.now _)
      simp only [quarterdeckref01_GetAll.l0]; rw [if_neg (by omega)]
    · simp only [getAllS, if_neg hl]
      have hk := getS_k b 6 0 0
      refine Ev.step (f := fun k => (quarterdeckref01_Get.f k b).bind fun g => if g.2.2 = 0 then (if acc.length < 17592186044416 then (if 0 ≤ g.2.1 then (if g.2.1 ≤ (b.length : Int) then quarterdeckref01_GetAll.l0 k (b.drop g.2.1.toNat) (acc ++ [g.1]) else none) else none) else none) else some (([] : List Int), g.2.2)) (fun k => ?_) ?_
      · simp only [quarterdeckref01_GetAll.l0]; rw [if_pos (by omega)]
      · refine Ev.bind (refget_ev b hb) ?_
        generalize getS b 6 0 0 = g at *
        by_cases h0 : g.2.2 = 0
        · have := hk h0
          have c1 : acc.length < 17592186044416 := by omega
          have c2 : 0 ≤ g.2.1 := by omega
          have c3 : g.2.1 ≤ (b.length : Int) := this.2
          simp only [if_pos h0, if_pos c1, if_pos c2, if_pos c3]
          exact ih _ _ (hb.drop _) (by rw [List.length_drop]; omega) (by rw [List.length_append, List.length_drop]; simp; omega)
        · simp only [if_neg h0]; exact Ev.now _

theorem getall_ev (b : List Int) (hb : Bytes b) (h : b.length < 17592186044416) : Ev (fun k => word_GetAll.f k b) (getAllS b.length b []) := by
  unfold word_GetAll.f; exact getall_l0 _ b [] hb (Nat.le_refl _) (by simpa using h)
theorem refgetall_ev (b : List Int) (hb : Bytes b) (h : b.length < 17592186044416) : Ev (fun k => quarterdeckref01_GetAll.f k b) (getAllS b.length b []) := by
  unfold quarterdeckref01_GetAll.f; exact refgetall_l0 _ b [] hb (Nat.le_refl _) (by simpa using h)

theorem getAllS_len (d : Nat) : ∀ b acc : List Int, (getAllS d b acc).1.length ≤ acc.length + d := by
  induction d with
  | zero => intro b acc; simp [getAllS]
  | succ d ih =>
    intro b acc
    simp only [getAllS]
    split
    · simp
    · split
      · have := ih (b.drop (getS b 6 0 0).2.1.toNat) (acc ++ [(getS b 6 0 0).1])
        rw [List.length_append] at this
        simp at this
        omega
      · simp

/-- A list is the same as itself. -/
theorem same_l0 (l : List Int) (h : l.length < 9223372036854775807) (d : Nat) : ∀ i : Nat, i + d = l.length → Ev (fun k => quarterdeckref01_Same.l0 k l l i) true := by
  induction d with
  | zero =>
    intro i hd
    refine Ev.step (f := fun _ => some true) (fun k => ?_) (Ev.now _)
    simp only [quarterdeckref01_Same.l0]; rw [if_neg (by omega)]
  | succ d ih =>
    intro i hd
    refine Ev.step (f := fun k => quarterdeckref01_Same.l0 k l l ((i + 1 : Nat) : Int)) (fun k => ?_) (ih (i + 1) (by omega))
    simp only [quarterdeckref01_Same.l0]
    rw [if_pos (by omega), if_pos (by omega), if_pos (by omega), if_pos trivial, w64 (by omega) (by omega)]
    rfl
theorem same_self (l : List Int) (h : l.length < 9223372036854775807) : Ev (fun k => quarterdeckref01_Same.f k l l) true := by
  unfold quarterdeckref01_Same.f
  simp only [if_true]
  exact same_l0 l h l.length 0 (by omega)

theorem gets_ev (b : List Int) (hb : Bytes b) : Ev (fun k => quarterdecklaw01_WordGets.f k b) true := by
  unfold quarterdecklaw01_WordGets.f
  refine Ev.bind awake_ev ?_
  simp only [if_true]
  by_cases h : (b.length : Int) > 2000
  · simp only [h, decide_true]
    exact Ev.step (f := fun _ => some true) (fun k => by simp only [quarterdecklaw01_WordGets.j0, if_true]) (Ev.now _)
  · simp only [h, decide_false]
    refine Ev.step (f := fun k => (word_Get.f k b).bind fun b1 => (quarterdeckref01_Get.f k b).bind fun b2 => (word_GetAll.f k b).bind fun b3 => (quarterdeckref01_GetAll.f k b).bind fun b4 => (quarterdeckref01_Same.f k b3.1 b4.1).bind fun t =>
      if t = true then (if b1.1 = b2.1 then (if b1.2.1 = b2.2.1 then (if b1.2.2 = b2.2.2 then some (b3.2 == b4.2) else some false) else some false) else some false) else some false) (fun k => ?_) ?_
    · simp only [quarterdecklaw01_WordGets.j0, Bool.false_eq_true, if_false]
    · refine Ev.bind (get_ev b hb) (Ev.bind (refget_ev b hb) (Ev.bind (getall_ev b hb (by omega)) (Ev.bind (refgetall_ev b hb (by omega)) (Ev.bind (same_self _ ?_) ?_))))
      · have := getAllS_len b.length b []
        simp at this; omega
      · simp only [if_true, beq_self_eq_true]
        exact Ev.now _

/-! ### Two lists, one behind the other -/
theorem putAllS_append (a b acc : List Int) : putAllS (a ++ b) acc = if (putAllS a acc).2 = 0 then putAllS b (putAllS a acc).1 else putAllS a acc := by
  induction a generalizing acc with
  | nil => simp [putAllS]
  | cons x a ih =>
    by_cases h : (putS x).2 = 0
    · have e : ∀ l, putAllS (x :: l) acc = putAllS l (acc ++ (putS x).1) := fun l => by simp only [putAllS]; rw [if_pos h]
      rw [List.cons_append, e, e]; exact ih _
    · have e : ∀ l, putAllS (x :: l) acc = ([], (putS x).2) := fun l => by simp only [putAllS]; rw [if_neg h]
      rw [List.cons_append, e, e, if_neg h]
theorem putS_err (a : Int) : (putS a).2 = 0 ∨ (putS a).2 = 1 := by unfold putS; split <;> simp
theorem putAllS_err (l acc : List Int) : (putAllS l acc).2 = 0 ∨ (putAllS l acc).2 = 1 := by
  induction l generalizing acc with
  | nil => simp [putAllS]
  | cons x l ih =>
    simp only [putAllS]
    split
    · exact ih _
    · exact putS_err x
theorem putAllS_acc (l acc : List Int) (h : (putAllS l []).2 = 0) : (putAllS l acc).2 = 0 ∧ (putAllS l acc).1 = acc ++ (putAllS l []).1 := by
  have key : ∀ (l acc pre : List Int), (putAllS l acc).2 = 0 → (putAllS l (pre ++ acc)).2 = 0 ∧ (putAllS l (pre ++ acc)).1 = pre ++ (putAllS l acc).1 := by
    intro l
    induction l with
    | nil => intro acc pre h; simp [putAllS]
    | cons x l ih =>
      intro acc pre h
      simp only [putAllS] at h ⊢
      by_cases hx : (putS x).2 = 0
      · rw [if_pos hx] at h; simp only [if_pos hx]; rw [List.append_assoc]; exact ih _ _ h
      · rw [if_neg hx] at h; exact absurd h hx
  have := key l [] acc h
  rwa [List.append_nil] at this
theorem putAllS_bad (l acc acc' : List Int) : (putAllS l acc).2 = (putAllS l acc').2 := by
  induction l generalizing acc acc' with
  | nil => simp [putAllS]
  | cons x l ih => simp only [putAllS]; split; exact ih _ _; rfl
theorem putAllS_len (l acc : List Int) : (putAllS l acc).1.length ≤ acc.length + 6 * l.length := by
  induction l generalizing acc with
  | nil => simp [putAllS]
  | cons x l ih =>
    simp only [putAllS, List.length_cons]
    split
    · have := ih (acc ++ (putS x).1)
      have h6 := putS_len x
      rw [List.length_append] at this
      omega
    · simp

theorem joins_ev (a b : List Int) : Ev (fun k => quarterdecklaw01_WordJoins.f k a b) true := by
  unfold quarterdecklaw01_WordJoins.f
  refine Ev.bind awake_ev ?_
  simp only [if_true]
  have stop : Ev (fun k => quarterdecklaw01_WordJoins.j0 k a b true true) true := Ev.step (f := fun _ => some true) (fun k => by simp only [quarterdecklaw01_WordJoins.j0, if_true]) (Ev.now _)
  by_cases ha : (a.length : Int) > 200
  · simp only [if_pos ha]; exact stop
  · simp only [if_neg ha]
    by_cases hb : (b.length : Int) > 200
    · simp only [hb, decide_true]; exact stop
    · simp only [hb, decide_false]
      have c1 : ([] : List Int).length + a.length < 17592186044416 := by simp; omega
      have c2 : a.length + b.length < 17592186044416 := by omega
      refine Ev.step (f := fun k => (word_PutAll.f k a).bind fun p => (word_PutAll.f k b).bind fun q => (word_PutAll.f k (a ++ b)).bind fun z =>
        if p.2 = 0 then (if q.2 = 0 then (if z.2 = 0 then (if (strOfNums p.1).size + (strOfNums q.1).size ≤ 9223372036854775807 then some ((strOfNums z.1).toList == ((strOfNums p.1) ++ (strOfNums q.1)).toList) else none) else some false) else some (z.2 == 1)) else some (z.2 == 1)) (fun k => ?_) ?_
      · simp only [quarterdecklaw01_WordJoins.j0, Bool.false_eq_true, if_false, if_pos c1, Option.bind_some, List.nil_append, if_pos c2]
      · refine Ev.bind (putall_ev a (by omega)) (Ev.bind (putall_ev b (by omega)) (Ev.bind (putall_ev (a ++ b) (by rw [List.length_append]; omega)) ?_))
        have hj := putAllS_append a b []
        have la := putAllS_len a []
        have lb := putAllS_len b []
        have eb := putAllS_bad b [] (putAllS a []).1
        have fb := putAllS_acc b (putAllS a []).1
        have xa := putAllS_err a []
        have xb := putAllS_err b []
        simp only [List.length_nil] at la lb
        generalize putAllS (a ++ b) [] = z at *
        generalize putAllS a [] = p at *
        generalize putAllS b [] = q at *
        by_cases h1 : p.2 = 0
        · rw [if_pos h1] at hj
          simp only [if_pos h1]
          by_cases h2 : q.2 = 0
          · obtain ⟨f1, f2⟩ := fb h2
            have hz2 : z.2 = 0 := by rw [hj]; exact f1
            have hz1 : z.1 = p.1 ++ q.1 := by rw [hj]; exact f2
            simp only [if_pos h2, if_pos hz2]
            rw [if_pos (by rw [strOfNums_size, strOfNums_size]; omega), hz1]
            have : (strOfNums (p.1 ++ q.1)).toList = (strOfNums p.1 ++ strOfNums q.1).toList := by
              congr 1
              apply ByteArray.ext
              rw [ByteArray.data_append]
              simp [strOfNums]
            rw [this, beq_self_eq_true]; exact Ev.now _
          · have hz : z.2 = 1 := by rw [hj, ← eb]; omega
            simp only [if_neg h2, hz, beq_self_eq_true]; exact Ev.now _
        · rw [if_neg h1] at hj
          have hz : z.2 = 1 := by rw [hj]; omega
          simp only [if_neg h1, hz, beq_self_eq_true]; exact Ev.now _

/-! ### What was put is got back -/
theorem digits_bytes (n : Nat) : Bytes (digits n) := by
  intro x hx
  obtain ⟨i, hi, rfl⟩ := List.getElem_of_mem hx
  have := digits_at n i hi
  rw [List.getD_eq_getElem?_getD, List.getElem?_eq_getElem hi, Option.getD_some] at this
  omega

/-- From byte 'i' on the bytes are those of 'q', and others behind them. -/
theorem getS_back (b : List Int) (q : Nat) : ∀ (d i : Nat) (m : Int) (rest : List Int), b.drop i = digits q ++ rest → i + d = 6 → 0 ≤ m → (0 < i → 0 < q) → m + (q : Int) * 2 ^ (7 * i) ≤ 1099511627776 →
    getS b d i m = (m + (q : Int) * 2 ^ (7 * i), (i : Int) + (digits q).length, 0) := by
  induction q using Nat.strongRecOn with
  | ind q ih =>
    intro d i m rest hb hd hm hq hle
    have hlen : i + (digits q).length ≤ b.length := by
      have := congrArg List.length hb
      rw [List.length_drop, List.length_append] at this
      have := digits_pos q
      omega
    have hat : ∀ j, j < (digits q).length → b.getD (i + j) 0 = (digits q).getD j 0 := by
      intro j hj
      have h1 : (b.drop i)[j]? = (digits q ++ rest)[j]? := by rw [hb]
      rw [List.getElem?_drop, List.getElem?_append_left hj] at h1
      rw [List.getD_eq_getElem?_getD, List.getD_eq_getElem?_getD, h1]
    have hp := digits_pos q
    have h0 := hat 0 hp
    rw [Nat.add_zero] at h0
    have hp1 : (1 : Int) ≤ 2 ^ (7 * i) := by exact_mod_cast Nat.one_le_two_pow
    have hd6 : 0 < d := by
      rcases Nat.eq_zero_or_pos d with h | h
      · subst h
        have hi : i = 6 := by omega
        subst hi
        have hq0 := hq (by omega)
        have : (1 : Int) * 2 ^ (7 * 6) ≤ (q : Int) * 2 ^ (7 * 6) := Int.mul_le_mul_of_nonneg_right (by omega) (by decide)
        omega
      · exact h
    obtain ⟨d, rfl⟩ : ∃ e, d = e + 1 := ⟨d - 1, by omega⟩
    by_cases hs : q < 128
    · rw [digits_lt hs] at h0 hlen ⊢
      simp only [List.getD_cons_zero, List.length_singleton] at h0 hlen ⊢
      simp only [getS]
      rw [if_neg (by omega), h0, if_neg (by omega), show (q : Int) % 128 = q by omega, if_neg (by omega)]
      rfl
    · rw [digits_ge hs] at h0 hlen hb ⊢
      simp only [List.getD_cons_zero, List.length_cons] at h0 hlen ⊢
      simp only [getS]
      have e128 : (((q % 128 + 128 : Nat) : Int)) % 128 = (q : Int) % 128 := by omega
      rw [if_neg (by omega), h0, if_pos (by omega), e128]
      have hdrop : b.drop (i + 1) = digits (q / 128) ++ rest := by
        rw [← List.drop_drop, hb, List.cons_append, List.drop_succ_cons, List.drop_zero]
      have ep : (2 : Int) ^ (7 * (i + 1)) = 128 * 2 ^ (7 * i) := by rw [show 7 * (i + 1) = 7 * i + 7 by omega, Int.pow_add]; omega
      have esum : m + (q : Int) % 128 * 2 ^ (7 * i) + ((q / 128 : Nat) : Int) * 2 ^ (7 * (i + 1)) = m + (q : Int) * 2 ^ (7 * i) := by
        rw [ep, ← Int.mul_assoc, Int.add_assoc, ← Int.add_mul]
        congr 2; omega
      have hnn : 0 ≤ (q : Int) % 128 * 2 ^ (7 * i) := Int.mul_nonneg (by omega) (by omega)
      rw [ih (q / 128) (by omega) d (i + 1) _ rest hdrop (by omega) (by omega) (by omega) (by rw [esum]; exact hle), esum]
      congr 2
      omega

theorem get_digits (q : Nat) (hq : q ≤ 1099511627776) (rest : List Int) : getS (digits q ++ rest) 6 0 0 = ((q : Int), ((digits q).length : Int), 0) := by
  have := getS_back (digits q ++ rest) q 6 0 0 rest rfl (by omega) (by omega) (by omega) (by simpa using (by omega : (q : Int) ≤ 1099511627776))
  simpa using this

theorem getall_back (l : List Int) : ∀ acc : List Int, (putAllS l []).2 = 0 → ∀ d, (putAllS l []).1.length ≤ d → getAllS d (putAllS l []).1 acc = (acc ++ l, 0) := by
  induction l with
  | nil => intro acc _ d _; cases d <;> simp [putAllS, getAllS]
  | cons x l ih =>
    intro acc h d hd
    simp only [putAllS, List.nil_append] at h hd ⊢
    by_cases hx : (putS x).2 = 0
    · rw [if_pos hx] at h hd ⊢
      have hx2 : 0 ≤ x ∧ x ≤ 1099511627776 := by
        unfold putS at hx
        by_cases c : 0 ≤ x ∧ x ≤ 1099511627776
        · exact c
        · rw [if_neg c] at hx; simp at hx
      have hpx : (putS x).1 = digits x.toNat := by unfold putS; rw [if_pos hx2]
      have hl0 : (putAllS l []).2 = 0 := by rw [putAllS_bad l [] (putS x).1]; exact h
      obtain ⟨_, hacc⟩ := putAllS_acc l (putS x).1 hl0
      rw [hacc, hpx] at hd ⊢
      have hp := digits_pos x.toNat
      rw [List.length_append] at hd
      obtain ⟨d, rfl⟩ : ∃ e, d = e + 1 := ⟨d - 1, by omega⟩
      simp only [getAllS]
      rw [if_neg (by rw [List.length_append]; omega), get_digits x.toNat (by omega)]
      simp only [if_true]
      rw [Int.toNat_natCast, List.drop_left, show ((x.toNat : Nat) : Int) = x by omega, ih (acc ++ [x]) hl0 d (by omega)]
      simp
    · rw [if_neg hx] at h; exact absurd h hx

theorem putAllS_bytes (l : List Int) : ∀ acc : List Int, Bytes acc → Bytes (putAllS l acc).1 := by
  induction l with
  | nil => intro acc h; exact h
  | cons x l ih =>
    intro acc h
    simp only [putAllS]
    split
    · refine ih _ ?_
      intro y hy
      rcases List.mem_append.1 hy with hy | hy
      · exact h y hy
      · unfold putS at hy
        split at hy
        · exact digits_bytes _ y hy
        · simp at hy
    · intro y hy; simp at hy

theorem putAllS_nil (l acc : List Int) (h : (putAllS l acc).2 ≠ 0) : (putAllS l acc).1 = [] := by
  induction l generalizing acc with
  | nil => simp [putAllS] at h
  | cons x l ih =>
    simp only [putAllS] at h ⊢
    by_cases hx : (putS x).2 = 0
    · rw [if_pos hx] at h ⊢; exact ih _ h
    · rw [if_neg hx]

theorem back_j1 (l : List Int) (h : l.length ≤ 500) : Ev (fun k => quarterdecklaw01_WordBack.j1 k l) true := by
  refine Ev.step (f := fun k => (word_PutAll.f k l).bind fun p => if p.2 = 0 then ((word_GetAll.f k p.1).bind fun g => (quarterdeckref01_Same.f k l g.1).bind fun t => if g.2 = 0 then some t else some false) else some ((p.1.length : Int) == 0)) (fun k => by simp only [quarterdecklaw01_WordBack.j1]) ?_
  refine Ev.bind (putall_ev l h) ?_
  by_cases h0 : (putAllS l []).2 = 0
  · simp only [if_pos h0]
    have hlen := putAllS_len l []
    simp only [List.length_nil] at hlen
    have hg := getall_ev (putAllS l []).1 (putAllS_bytes l [] (fun y hy => by simp at hy)) (by omega)
    rw [getall_back l [] h0 _ (Nat.le_refl _), List.nil_append] at hg
    refine Ev.bind hg (Ev.bind (same_self l (by omega)) ?_)
    simp only [if_true]
    exact Ev.now _
  · simp only [if_neg h0]
    rw [putAllS_nil l [] h0]
    exact Ev.now _

theorem back_ev (a : Int) (l rest : List Int) (hrest : Bytes rest) : Ev (fun k => quarterdecklaw01_WordBack.f k a l rest) true := by
  unfold quarterdecklaw01_WordBack.f
  refine Ev.bind awake_ev ?_
  simp only [if_true]
  have stop : Ev (fun k => quarterdecklaw01_WordBack.j0 k a l rest true true) true := Ev.step (f := fun _ => some true) (fun k => by simp only [quarterdecklaw01_WordBack.j0, if_true]) (Ev.now _)
  by_cases h1 : (l.length : Int) > 500
  · simp only [if_pos h1]; exact stop
  · simp only [if_neg h1]
    by_cases h2 : (rest.length : Int) > 2000
    · simp only [h2, decide_true]; exact stop
    · simp only [h2, decide_false]
      refine Ev.step (f := fun k => (word_Put.f k a).bind fun p => if p.2 = 0 then (if ([] : List Int).length + p.1.length < 140737488355328 then (if p.1.length + rest.length < 140737488355328 then ((word_Get.f k (p.1 ++ rest)).bind fun g =>
        if g.2.2 = 0 then (if g.1 = a then (if g.2.1 = (p.1.length : Int) then quarterdecklaw01_WordBack.j1 k l else some false) else some false) else some false) else none) else none) else quarterdecklaw01_WordBack.j1 k l) (fun k => ?_) ?_
      · simp only [quarterdecklaw01_WordBack.j0, Bool.false_eq_true, if_false, Option.bind_some, List.nil_append]
      · refine Ev.bind (put_ev a) ?_
        have h6 := putS_len a
        by_cases hp : (putS a).2 = 0
        · have ha : 0 ≤ a ∧ a ≤ 1099511627776 := by
            unfold putS at hp
            by_cases c : 0 ≤ a ∧ a ≤ 1099511627776
            · exact c
            · rw [if_neg c] at hp; simp at hp
          have hpx : (putS a).1 = digits a.toNat := by unfold putS; rw [if_pos ha]
          rw [hpx] at h6
          have c1 : ([] : List Int).length + (digits a.toNat).length < 140737488355328 := by simp; omega
          have c2 : (digits a.toNat).length + rest.length < 140737488355328 := by omega
          simp only [if_pos hp, hpx, if_pos c1, if_pos c2]
          have hb : Bytes (digits a.toNat ++ rest) := by
            intro y hy
            rcases List.mem_append.1 hy with hy | hy
            · exact digits_bytes _ y hy
            · exact hrest y hy
          have hg := get_ev _ hb
          rw [get_digits a.toNat (by omega), show ((a.toNat : Nat) : Int) = a by omega] at hg
          refine Ev.bind hg ?_
          simp only [if_true]
          exact back_j1 l (by omega)
        · simp only [if_neg hp]
          exact back_j1 l (by omega)
end Go.Proofs.Ytbbenjdbdnhkfaa.PureG

/-
  Plain lemmas on the printed functions of package word and its reference, over chapter 04's own print. No program in sight.
  Conditions: bytes are 0 to 255 where a lemma says so.
-/
import Derived.Test.YtiacjnmkomfdaaaDoorPr7
import Derived.Lib.Bytes
namespace Go.Proofs.YtiacjnmkomfdaaaDoor.PureWI
open Go.RowKit Go.Proofs.YtiacjnmkomfdaaaDoor.Pr Go.Proofs.YtiacjnmkomfdaaaDoorW.PrintWords Go.Proofs.YtiacjnmkomfdaaaDoorW.PrintLast Go.Proofs.YtiacjnmkomfdaaaDoorW.PrintMore
set_option linter.unusedSimpArgs false

theorem w64 {x : Int} (h0 : -9223372036854775808 ≤ x) (h1 : x ≤ 9223372036854775807) : wrap64 x = x := by unfold wrap64; omega
theorem may_eq (n : Int) : word_may.f n = some (decide (0 ≤ n ∧ n ≤ 1099511627776)) := by
  unfold word_may.f
  by_cases h : n ≥ 0
  · rw [if_pos h]; simp; omega
  · rw [if_neg h]; simp; omega
theorem refmay_eq (n : Int) : quarterdeckref01_May.f n = some (decide (0 ≤ n ∧ n ≤ 1099511627776)) := by
  unfold quarterdeckref01_May.f
  by_cases h : n ≥ 0
  · rw [if_pos h]; simp; omega
  · rw [if_neg h]; simp; omega
/-- A number as bytes. -/
def digits (n : Nat) : List Int := if n < 128 then [(n : Int)] else ((n % 128 + 128 : Nat) : Int) :: digits (n / 128)
  termination_by n
theorem digits_lt {n : Nat} (h : n < 128) : digits n = [(n : Int)] := by rw [digits, if_pos h]
theorem digits_ge {n : Nat} (h : ¬ n < 128) : digits n = ((n % 128 + 128 : Nat) : Int) :: digits (n / 128) := by rw [digits, if_neg h]
theorem or_128 : ∀ c : Fin 256, Go.bits .or .u8 ((c.val : Nat) : Int) 128 = ((c.val % 128 + 128 : Nat) : Int) := by decide +kernel
theorem or_byte (n : Nat) : Go.bits .or .u8 ((n : Int) % 256) 128 = ((n % 128 + 128 : Nat) : Int) := by
  have h := or_128 ⟨n % 256, Nat.mod_lt _ (by omega)⟩
  simp only at h
  rw [show ((n : Int) % 256) = ((n % 256 : Nat) : Int) by omega, h]
  omega
theorem put_l0 (n : Nat) : ∀ acc : List Int, acc.length + n < 140737488355328 → Ev (fun k => word_Put.l0 k n acc) (acc ++ digits n, 0) := by
  induction n using Nat.strongRecOn with
  | ind n ih =>
    intro acc hb
    by_cases h : n < 128
    · refine Ev.step (f := fun _ => some (acc ++ digits n, 0)) (fun k => ?_) (Ev.now _)
      simp only [word_Put.l0]
      rw [if_neg (by omega), if_pos (by omega), digits_lt h, show ((n : Int) % 256) = n by omega]
    · refine Ev.step (f := fun k => word_Put.l0 k ((n / 128 : Nat) : Int) (acc ++ [((n % 128 + 128 : Nat) : Int)])) (fun k => ?_) ?_
      · simp only [word_Put.l0]
        rw [if_pos (by omega), if_pos (by omega), or_byte, show (n : Int) / 128 = ((n / 128 : Nat) : Int) by omega]
      · have := ih (n / 128) (by omega) (acc ++ [((n % 128 + 128 : Nat) : Int)]) (by simp; omega)
        rw [digits_ge h]
        simpa using this
theorem refput_l0 (n : Nat) (hn : n ≤ 1099511627776) : ∀ acc : List Int, acc.length + n < 140737488355328 → Ev (fun k => quarterdeckref01_Put.l0 k n acc) (acc ++ digits n, 0) := by
  induction n using Nat.strongRecOn with
  | ind n ih =>
    intro acc hb
    by_cases h : n < 128
    · refine Ev.step (f := fun _ => some (acc ++ digits n, 0)) (fun k => ?_) (Ev.now _)
      simp only [quarterdeckref01_Put.l0]
      rw [if_neg (by omega), if_pos (by omega), digits_lt h, show ((n : Int) % 256) = n by omega]
    · refine Ev.step (f := fun k => quarterdeckref01_Put.l0 k ((n / 128 : Nat) : Int) (acc ++ [((n % 128 + 128 : Nat) : Int)])) (fun k => ?_) ?_
      · simp only [quarterdeckref01_Put.l0]
        have e1 : Int.tdiv (n : Int) 128 = ((n / 128 : Nat) : Int) := by rw [Int.tdiv_eq_ediv_of_nonneg (by omega)]; omega
        have e2 : Int.tmod (n : Int) 128 = ((n % 128 : Nat) : Int) := by rw [Int.tmod_eq_emod_of_nonneg (by omega)]; omega
        rw [if_pos (by omega), if_pos (by omega), e1, e2, w64 (by omega) (by omega)]
        rw [show (((n % 128 : Nat) : Int) + 128) % 256 = ((n % 128 + 128 : Nat) : Int) by omega]
      · have := ih (n / 128) (by omega) (by omega) (acc ++ [((n % 128 + 128 : Nat) : Int)]) (by simp; omega)
        rw [digits_ge h]
        simpa using this
/-- What Put gives. -/
def putS (a : Int) : List Int × Int := if 0 ≤ a ∧ a ≤ 1099511627776 then (digits a.toNat, 0) else ([], 1)
theorem put_ev (a : Int) : Ev (fun k => word_Put.f k a) (putS a) := by
  unfold putS word_Put.f
  simp only [may_eq, Option.bind_some]
  by_cases h : 0 ≤ a ∧ a ≤ 1099511627776
  · simp only [h, and_self, decide_true, if_true]
    have := put_l0 a.toNat [] (by simp; omega)
    rw [show ((a.toNat : Nat) : Int) = a by omega] at this
    simpa using this
  · simp only [h, decide_false, Bool.false_eq_true, if_false]
    exact Ev.now _
theorem refput_ev (a : Int) : Ev (fun k => quarterdeckref01_Put.f k a) (putS a) := by
  unfold putS quarterdeckref01_Put.f
  simp only [refmay_eq, Option.bind_some]
  by_cases h : 0 ≤ a ∧ a ≤ 1099511627776
  · simp only [h, and_self, decide_true, if_true]
    have := refput_l0 a.toNat (by omega) [] (by simp; omega)
    rw [show ((a.toNat : Nat) : Int) = a by omega] at this
    simpa using this
  · simp only [h, decide_false, Bool.false_eq_true, if_false]
    exact Ev.now _
theorem wf64 {x : Int} (h : (Lit.int .i64 x).wf = true) : -9223372036854775808 ≤ x ∧ x ≤ 9223372036854775807 := by
  have := h
  simp [Lit.wf, IntKind.min, IntKind.max, IntKind.bits, IntKind.signed] at this
  omega
theorem digits_len (d : Nat) : ∀ n : Nat, n < 2 ^ (7 * (d + 1)) → (digits n).length ≤ d + 1 := by
  induction d with
  | zero => intro n h; rw [digits_lt (by simpa using h)]; simp
  | succ d ih =>
    intro n h
    by_cases h1 : n < 128
    · rw [digits_lt h1]; simp
    · rw [digits_ge h1, List.length_cons]
      have : n / 128 < 2 ^ (7 * (d + 1)) := by
        rw [Nat.div_lt_iff_lt_mul (by omega)]
        rw [show 7 * (d + 1 + 1) = 7 * (d + 1) + 7 by omega, Nat.pow_add] at h
        exact h
      have := ih _ this
      omega
theorem digits_pos (n : Nat) : 0 < (digits n).length := by
  by_cases h : n < 128
  · rw [digits_lt h]; simp
  · rw [digits_ge h]; simp
theorem digits_len6 {n : Nat} (h : n ≤ 1099511627776) : (digits n).length ≤ 6 := digits_len 5 n (by omega)
theorem digits_at (n : Nat) : ∀ i, i < (digits n).length → 0 ≤ (digits n).getD i 0 ∧ (digits n).getD i 0 < 256 ∧ ((digits n).getD i 0 < 128 ↔ i + 1 = (digits n).length) := by
  induction n using Nat.strongRecOn with
  | ind n ih =>
    intro i hi
    by_cases h : n < 128
    · rw [digits_lt h] at hi ⊢
      simp at hi
      subst hi
      simp; omega
    · rw [digits_ge h] at hi ⊢
      have hp := digits_pos (n / 128)
      cases i with
      | zero => simp only [List.getD_cons_zero, List.length_cons]; omega
      | succ i =>
        have := ih (n / 128) (by omega) i (by simpa using hi)
        simp only [List.getD_cons_succ, List.length_cons]
        omega
theorem putS_len (a : Int) : (putS a).1.length ≤ 6 := by
  unfold putS
  split
  · exact digits_len6 (by omega)
  · simp
/-- What PutAll gives, from number 'i' on. -/
def putAllS : List Int → List Int → List Int × Int
  | [], acc => (acc, 0)
  | a :: l, acc => if (putS a).2 = 0 then putAllS l (acc ++ (putS a).1) else ([], (putS a).2)
theorem putall_l0 (d : Nat) : ∀ (l acc : List Int) (i : Nat), i + d = l.length → acc.length + 6 * d < 140737488355328 → l.length < 9223372036854775807 →
    Ev (fun k => word_PutAll.l0 k acc l l.length i) (putAllS (l.drop i) acc) := by
  induction d with
  | zero =>
    intro l acc i hd hb hm
    rw [List.drop_of_length_le (by omega)]
    refine Ev.step (f := fun _ => some (acc, 0)) (fun k => ?_) (Ev.now _)
    simp only [word_PutAll.l0]
    rw [if_neg (by omega)]
  | succ d ih =>
    intro l acc i hd hb hm
    have hlt : i < l.length := by omega
    rw [List.drop_eq_getElem_cons hlt]
    have hrd : rd l i = l[i] := by unfold rd; rw [Int.toNat_natCast]; simp [List.getD_eq_getElem?_getD, hlt]
    have h6 := putS_len l[i]
    refine Ev.step (f := fun k => (word_Put.f k (rd l i)).bind fun b => if b.2 = 0 then (if acc.length + b.1.length < 140737488355328 then word_PutAll.l0 k (acc ++ b.1) l l.length (wrap64 ((i : Int) + 1)) else none) else some (([] : List Int), b.2)) (fun k => ?_) ?_
    · simp only [word_PutAll.l0]
      rw [if_pos (by omega), if_pos (by omega), if_pos (by omega)]
    · rw [hrd]
      refine Ev.bind (put_ev _) ?_
      simp only [putAllS]
      by_cases h0 : (putS l[i]).2 = 0
      · simp only [if_pos h0]
        have : acc.length + (putS l[i]).1.length < 140737488355328 := by omega
        simp only [if_pos this]
        rw [w64 (x := (i : Int) + 1) (by omega) (by omega), show (i : Int) + 1 = ((i + 1 : Nat) : Int) by omega]
        exact ih l (acc ++ (putS l[i]).1) (i + 1) (by omega) (by rw [List.length_append]; omega) hm
      · simp only [if_neg h0]
        exact Ev.now _
theorem putall_ev (l : List Int) (h : l.length ≤ 500) : Ev (fun k => word_PutAll.f k l) (putAllS l []) := by
  unfold word_PutAll.f
  have := putall_l0 l.length l [] 0 (by omega) (by simp; omega) (by omega)
  simpa using this
theorem refputall_l0 (d : Nat) : ∀ (l acc : List Int) (i : Nat), i + d = l.length → acc.length + 6 * d < 140737488355328 → l.length < 9223372036854775807 →
    Ev (fun k => quarterdeckref01_PutAll.l0 k l acc i) (putAllS (l.drop i) acc) := by
  induction d with
  | zero =>
    intro l acc i hd hb hm
    rw [List.drop_of_length_le (by omega)]
    refine Ev.step (f := fun _ => some (acc, 0)) (fun k => ?_) (Ev.now _)
    simp only [quarterdeckref01_PutAll.l0]
    rw [if_neg (by omega)]
  | succ d ih =>
    intro l acc i hd hb hm
    have hlt : i < l.length := by omega
    rw [List.drop_eq_getElem_cons hlt]
    have hrd : rd l i = l[i] := by unfold rd; rw [Int.toNat_natCast]; simp [List.getD_eq_getElem?_getD, hlt]
    have h6 := putS_len l[i]
    refine Ev.step (f := fun k => (quarterdeckref01_Put.f k (rd l i)).bind fun b => if b.2 = 0 then (if acc.length + b.1.length < 140737488355328 then quarterdeckref01_PutAll.l0 k l (acc ++ b.1) (wrap64 ((i : Int) + 1)) else none) else some (([] : List Int), b.2)) (fun k => ?_) ?_
    · simp only [quarterdeckref01_PutAll.l0]
      rw [if_pos (by omega), if_pos (by omega)]
    · rw [hrd]
      refine Ev.bind (refput_ev _) ?_
      simp only [putAllS]
      by_cases h0 : (putS l[i]).2 = 0
      · simp only [if_pos h0]
        have : acc.length + (putS l[i]).1.length < 140737488355328 := by omega
        simp only [if_pos this]
        rw [w64 (x := (i : Int) + 1) (by omega) (by omega), show (i : Int) + 1 = ((i + 1 : Nat) : Int) by omega]
        exact ih l (acc ++ (putS l[i]).1) (i + 1) (by omega) (by rw [List.length_append]; omega) hm
      · simp only [if_neg h0]
        exact Ev.now _
theorem refputall_ev (l : List Int) (h : l.length ≤ 500) : Ev (fun k => quarterdeckref01_PutAll.f k l) (putAllS l []) := by
  unfold quarterdeckref01_PutAll.f
  have := refputall_l0 l.length l [] 0 (by omega) (by simp; omega) (by omega)
  simpa using this

/-- All numbers of a list are bytes. -/
def Bytes (b : List Int) : Prop := ∀ x ∈ b, 0 ≤ x ∧ x < 256
theorem Bytes.at_ {b : List Int} (h : Bytes b) (i : Nat) : 0 ≤ b.getD i 0 ∧ b.getD i 0 < 256 := by
  by_cases hi : i < b.length
  · rw [List.getD_eq_getElem?_getD, List.getElem?_eq_getElem hi, Option.getD_some]; exact h _ (List.getElem_mem hi)
  · rw [List.getD_eq_getElem?_getD, List.getElem?_eq_none (by omega)]; simp
theorem Bytes.drop {b : List Int} (h : Bytes b) (k : Nat) : Bytes (b.drop k) := fun x hx => h x (List.mem_of_mem_drop hx)
theorem Bytes.take {b : List Int} (h : Bytes b) (k : Nat) : Bytes (b.take k) := fun x hx => h x (List.mem_of_mem_take hx)
theorem wf8 {b : List Int} (h : ∀ x ∈ b, (Lit.int .u8 x).wf = true) : Bytes b := by
  intro x hx
  have := h x hx
  simp [Lit.wf, IntKind.min, IntKind.max, IntKind.bits, IntKind.signed] at this
  omega
/-- The number that bytes begin with: from byte 'i' on, 'n' being what the bytes ahead of it give, at most 'd' bytes more. -/
def getS (b : List Int) : Nat → Nat → Int → Int × Int × Int
  | 0, _, _ => (0, 0, 2)
  | d + 1, i, n =>
    if b.length ≤ i then (0, 0, 3)
    else if 128 ≤ b.getD i 0 then getS b d (i + 1) (n + b.getD i 0 % 128 * 2 ^ (7 * i))
    else if (b.getD i 0 = 0 ∧ 0 < i) ∨ ¬ (n + b.getD i 0 % 128 * 2 ^ (7 * i) ≤ 1099511627776) then (0, 0, 2)
    else (n + b.getD i 0 % 128 * 2 ^ (7 * i), i + 1, 0)
theorem or_join (n c : Int) (i : Nat) (hi : i ≤ 5) (hn0 : 0 ≤ n) (hn : n < 2 ^ (7 * i)) (hc0 : 0 ≤ c) (hc : c < 128) : Go.bits .or .i64 n (c * 2 ^ (7 * i)) = n + c * 2 ^ (7 * i) := by
  obtain ⟨a, rfl⟩ := Int.eq_ofNat_of_zero_le hn0
  obtain ⟨m, rfl⟩ := Int.eq_ofNat_of_zero_le hc0
  have ha : a < 2 ^ (7 * i) := by exact_mod_cast hn
  have hp : 2 ^ (7 * i) ≤ 2 ^ 35 := Nat.pow_le_pow_right (by omega) (by omega)
  have hw : ∀ n : Int, 0 ≤ n → n < 2 ^ 63 → IntKind.i64.wrap n = n := fun n h0 h1 => by rw [IntKind.wrap_i64]; omega
  have hm : m * 2 ^ (7 * i) < 2 ^ 63 := by
    have : m * 2 ^ (7 * i) ≤ 127 * 2 ^ 35 := Nat.mul_le_mul (by omega) hp
    omega
  have e : ((m : Int) * 2 ^ (7 * i)) = ((m * 2 ^ (7 * i) : Nat) : Int) := by rw [Int.natCast_mul]; simp
  rw [e, (bits_nat .i64 63 (by decide) hw a _ (by omega) hm).2, Nat.or_comm, Nat.mul_comm m, ← Nat.two_pow_add_eq_or_of_lt ha m]
  rw [Int.natCast_add, Int.add_comm]
theorem shl_c (c : Int) (i : Nat) (hi : i ≤ 5) (hc0 : 0 ≤ c) (hc : c < 128) : shl .i64 c (wrap64 (7 * (i : Int))) = c * 2 ^ (7 * i) := by
  rw [w64 (by omega) (by omega)]
  unfold shl
  have e1 : (7 * (i : Int)).toNat = 7 * i := by omega
  have e2 : min (7 * i) IntKind.i64.bits = 7 * i := by have : IntKind.i64.bits = 64 := rfl; omega
  rw [e1, e2, IntKind.wrap_i64]
  have hp : (2 : Int) ^ (7 * i) ≤ 2 ^ 35 := by exact_mod_cast (Nat.pow_le_pow_right (by omega) (by omega) : 2 ^ (7 * i) ≤ 2 ^ 35)
  have hp0 : (0 : Int) < 2 ^ (7 * i) := by exact_mod_cast Nat.two_pow_pos (7 * i)
  have h1 : c * 2 ^ (7 * i) ≤ 127 * 2 ^ 35 := Int.mul_le_mul (by omega) hp (by omega) (by omega)
  have h2 : 0 ≤ c * 2 ^ (7 * i) := Int.mul_nonneg hc0 (by omega)
  omega
theorem next_lt (n c : Int) (i : Nat) (hn : n < 2 ^ (7 * i)) (hc : c < 128) : n + c * 2 ^ (7 * i) < 2 ^ (7 * (i + 1)) := by
  have hp0 : (0 : Int) < 2 ^ (7 * i) := by exact_mod_cast Nat.two_pow_pos (7 * i)
  have e : (2 : Int) ^ (7 * (i + 1)) = 128 * 2 ^ (7 * i) := by rw [show 7 * (i + 1) = 7 * i + 7 by omega, Int.pow_add]; omega
  have h1 : c * 2 ^ (7 * i) ≤ 127 * 2 ^ (7 * i) := Int.mul_le_mul_of_nonneg_right (by omega) (by omega)
  rw [e]; omega
theorem next_ge (n c : Int) (i : Nat) (hn : 0 ≤ n) (hc : 0 ≤ c) : 0 ≤ n + c * 2 ^ (7 * i) := by
  have hp0 : (0 : Int) < 2 ^ (7 * i) := by exact_mod_cast Nat.two_pow_pos (7 * i)
  have := Int.mul_nonneg hc (show (0 : Int) ≤ 2 ^ (7 * i) by omega)
  omega
theorem rd_nat (b : List Int) (i : Nat) : rd b i = b.getD i 0 := by unfold rd; rw [Int.toNat_natCast]
theorem get_l0 (b : List Int) (hb : Bytes b) (d : Nat) : ∀ (i : Nat) (n : Int), i + d = 6 → 0 ≤ n → n < 2 ^ (7 * i) → Ev (fun k => word_Get.l0 k b n i) (getS b d i n) := by
  induction d with
  | zero =>
    intro i n hd h0 h1
    refine Ev.step (f := fun _ => some (0, 0, 2)) (fun k => ?_) (Ev.now _)
    simp only [word_Get.l0]; rw [if_neg (by omega)]
  | succ d ih =>
    intro i n hd h0 h1
    have hc := hb.at_ i
    by_cases hl : b.length ≤ i
    · refine Ev.step (f := fun _ => some (0, 0, 3)) (fun k => ?_) ?_
      · simp only [word_Get.l0]; rw [if_pos (by omega), if_pos (by omega)]
      · simp only [getS, if_pos hl]; exact Ev.now _
    · simp only [getS, if_neg hl]
      have e0 : Int.tmod (rd b i) 128 = b.getD i 0 % 128 := by rw [rd_nat, Int.tmod_eq_emod_of_nonneg hc.1]
      have e1 : wrap64 (Int.tmod (rd b i) 128) = b.getD i 0 % 128 := by rw [e0]; exact w64 (by omega) (by omega)
      have e2 : Go.bits .or .i64 n (shl .i64 (b.getD i 0 % 128) (wrap64 (7 * (i : Int)))) = n + b.getD i 0 % 128 * 2 ^ (7 * i) := by
        rw [shl_c _ i (by omega) (by omega) (by omega)]; exact or_join n _ i (by omega) h0 h1 (by omega) (by omega)
      have hn := next_ge n (b.getD i 0 % 128) i h0 (by omega)
      have hn' := next_lt n (b.getD i 0 % 128) i h1 (by omega)
      by_cases hge : 128 ≤ b.getD i 0
      · simp only [if_pos hge]
        refine Ev.step (f := fun k => word_Get.l0 k b (n + b.getD i 0 % 128 * 2 ^ (7 * i)) ((i + 1 : Nat) : Int)) (fun k => ?_) (ih (i + 1) _ (by omega) hn hn')
        simp only [word_Get.l0]
        rw [if_pos (by omega), if_neg (by omega), if_pos (by omega), if_pos (by omega), if_pos (by rw [w64 (by omega) (by omega)]; omega), if_pos (by rw [rd_nat]; omega), e1, e2, w64 (x := (i : Int) + 1) (by omega) (by omega)]
        rfl
      · simp only [if_neg hge]
        generalize n + b.getD i 0 % 128 * 2 ^ (7 * i) = m at *
        refine Ev.step (f := fun k => word_Get.j1 k m i (if b.getD i 0 = 0 then decide ((i : Int) > 0) else false)) (fun k => ?_) ?_
        · simp only [word_Get.l0]
          rw [if_pos (by omega), if_neg (by omega), if_pos (by omega), if_pos (by omega), if_pos (by rw [w64 (by omega) (by omega)]; omega), if_neg (by rw [rd_nat]; omega), e1, e2, rd_nat]
          split <;> rfl
        · by_cases hz : b.getD i 0 = 0 ∧ 0 < i
          · rw [if_pos hz.1, if_pos (Or.inl hz)]
            refine Ev.step (f := fun _ => some (0, 0, 2)) (fun k => ?_) (Ev.now _)
            simp only [word_Get.j1]; rw [if_pos (by simp; omega)]
          · have hf : (if b.getD i 0 = 0 then decide ((i : Int) > 0) else false) = false := by
              by_cases h : b.getD i 0 = 0
              · rw [if_pos h]; simp; omega
              · rw [if_neg h]
            rw [hf]
            by_cases hm : m ≤ 1099511627776
            · rw [if_neg (by omega)]
              refine Ev.step (f := fun _ => some (m, (i : Int) + 1, 0)) (fun k => ?_) (Ev.now _)
              simp only [word_Get.j1, may_eq, Option.bind_some, Bool.false_eq_true, if_false]
              rw [if_pos (by simp; omega), w64 (by omega) (by omega)]
            · rw [if_pos (Or.inr hm)]
              refine Ev.step (f := fun _ => some (0, 0, 2)) (fun k => ?_) (Ev.now _)
              simp only [word_Get.j1, may_eq, Option.bind_some, Bool.false_eq_true, if_false]
              rw [if_neg (by simp; omega)]
theorem get_ev (b : List Int) (hb : Bytes b) : Ev (fun k => word_Get.f k b) (getS b 6 0 0) := by
  unfold word_Get.f
  exact get_l0 b hb 6 0 0 (by omega) (by omega) (by decide)
theorem refget_l0 (b : List Int) (hb : Bytes b) (d : Nat) : ∀ (i : Nat) (n : Int), i + d = 6 → 0 ≤ n → n < 2 ^ (7 * i) → Ev (fun k => quarterdeckref01_Get.l0 k b n (2 ^ (7 * i)) i) (getS b d i n) := by
  induction d with
  | zero =>
    intro i n hd h0 h1
    refine Ev.step (f := fun _ => some (0, 0, 2)) (fun k => ?_) (Ev.now _)
    simp only [quarterdeckref01_Get.l0]; rw [if_neg (by omega)]
  | succ d ih =>
    intro i n hd h0 h1
    have hc := hb.at_ i
    by_cases hl : b.length ≤ i
    · refine Ev.step (f := fun _ => some (0, 0, 3)) (fun k => ?_) ?_
      · simp only [quarterdeckref01_Get.l0]; rw [if_pos (by omega), if_pos (by omega)]
      · simp only [getS, if_pos hl]; exact Ev.now _
    · simp only [getS, if_neg hl]
      have hr : wrap64 (rd b i) = b.getD i 0 := by rw [rd_nat]; exact w64 (by omega) (by omega)
      have e0 : Int.tmod (b.getD i 0) 128 = b.getD i 0 % 128 := Int.tmod_eq_emod_of_nonneg hc.1
      have hn := next_ge n (b.getD i 0 % 128) i h0 (by omega)
      have hn' := next_lt n (b.getD i 0 % 128) i h1 (by omega)
      have hp : (2 : Int) ^ (7 * (i + 1)) ≤ 2 ^ 42 := by exact_mod_cast (Nat.pow_le_pow_right (by omega) (by omega) : 2 ^ (7 * (i + 1)) ≤ 2 ^ 42)
      have hp' : (0 : Int) < 2 ^ (7 * i) := by exact_mod_cast Nat.two_pow_pos (7 * i)
      have ep : (2 : Int) ^ (7 * (i + 1)) = 2 ^ (7 * i) * 128 := by rw [show 7 * (i + 1) = 7 * i + 7 by omega, Int.pow_add]; rfl
      have e1 : wrap64 (b.getD i 0 % 128 * 2 ^ (7 * i)) = b.getD i 0 % 128 * 2 ^ (7 * i) := w64 (by omega) (by omega)
      have e2 : wrap64 (n + b.getD i 0 % 128 * 2 ^ (7 * i)) = n + b.getD i 0 % 128 * 2 ^ (7 * i) := w64 (by omega) (by omega)
      have e3 : wrap64 ((2 : Int) ^ (7 * i) * 128) = 2 ^ (7 * (i + 1)) := by rw [ep]; exact w64 (by omega) (by omega)
      by_cases hge : 128 ≤ b.getD i 0
      · simp only [if_pos hge]
        refine Ev.step (f := fun k => quarterdeckref01_Get.l0 k b (n + b.getD i 0 % 128 * 2 ^ (7 * i)) (2 ^ (7 * (i + 1))) ((i + 1 : Nat) : Int)) (fun k => ?_) (ih (i + 1) _ (by omega) hn hn')
        simp only [quarterdeckref01_Get.l0]
        rw [if_pos (by omega), if_neg (by omega), if_pos (by omega), if_pos (by omega), if_neg (by rw [hr]; omega), hr, e0, e1, e2, e3, w64 (x := (i : Int) + 1) (by omega) (by omega)]
        rfl
      · simp only [if_neg hge]
        generalize hm' : n + b.getD i 0 % 128 * 2 ^ (7 * i) = m at *
        refine Ev.step (f := fun _ => some (if (b.getD i 0 = 0 ∧ 0 < i) ∨ ¬ (m ≤ 1099511627776) then ((0 : Int), (0 : Int), (2 : Int)) else (m, (i : Int) + 1, 0))) (fun k => ?_) (Ev.now _)
        simp only [quarterdeckref01_Get.l0]
        rw [if_pos (by omega), if_neg (by omega), if_pos (by omega), if_pos (by omega), if_pos (by rw [hr]; omega), hr, e0, e1, hm', e2, refmay_eq, Option.bind_some, w64 (x := (i : Int) + 1) (by omega) (by omega)]
        by_cases hz : b.getD i 0 = 0
        · rw [if_pos hz]
          by_cases hi : 0 < i
          · rw [if_pos (by omega), if_pos (Or.inl ⟨hz, hi⟩)]
          · rw [if_neg (by omega)]
            by_cases hm : m ≤ 1099511627776
            · rw [if_pos (by simp; omega), if_neg (by omega)]
            · rw [if_neg (by simp; omega), if_pos (Or.inr hm)]
        · rw [if_neg hz]
          by_cases hm : m ≤ 1099511627776
          · rw [if_pos (by simp; omega), if_neg (by omega)]
          · rw [if_neg (by simp; omega), if_pos (Or.inr hm)]
theorem refget_ev (b : List Int) (hb : Bytes b) : Ev (fun k => quarterdeckref01_Get.f k b) (getS b 6 0 0) := by
  unfold quarterdeckref01_Get.f
  exact refget_l0 b hb 6 0 0 (by omega) (by omega) (by decide)
/-- What was got lies in the bytes. -/
theorem getS_k (b : List Int) (d : Nat) : ∀ (i : Nat) (n : Int), (getS b d i n).2.2 = 0 → (i : Int) + 1 ≤ (getS b d i n).2.1 ∧ (getS b d i n).2.1 ≤ b.length := by
  induction d with
  | zero => intro i n h; simp [getS] at h
  | succ d ih =>
    intro i n h
    by_cases hl : b.length ≤ i
    · simp [getS, hl] at h
    · simp only [getS, if_neg hl] at h ⊢
      by_cases hge : 128 ≤ b.getD i 0
      · simp only [if_pos hge] at h ⊢
        have := ih (i + 1) _ h
        omega
      · simp only [if_neg hge] at h ⊢
        by_cases hz : (b.getD i 0 = 0 ∧ 0 < i) ∨ ¬ (n + b.getD i 0 % 128 * 2 ^ (7 * i) ≤ 1099511627776)
        · rw [if_pos hz] at h; simp at h
        · rw [if_neg hz]; simp only; omega
theorem putAllS_append (a b acc : List Int) : putAllS (a ++ b) acc = if (putAllS a acc).2 = 0 then putAllS b (putAllS a acc).1 else putAllS a acc := by
  induction a generalizing acc with
  | nil => simp [putAllS]
  | cons x a ih =>
    by_cases h : (putS x).2 = 0
    · have e : ∀ l, putAllS (x :: l) acc = putAllS l (acc ++ (putS x).1) := fun l => by simp only [putAllS]; rw [if_pos h]
      rw [List.cons_append, e, e]; exact ih _
    · have e : ∀ l, putAllS (x :: l) acc = ([], (putS x).2) := fun l => by simp only [putAllS]; rw [if_neg h]
      rw [List.cons_append, e, e, if_neg h]
theorem putS_err (a : Int) : (putS a).2 = 0 ∨ (putS a).2 = 1 := by unfold putS; split <;> simp
theorem putAllS_err (l acc : List Int) : (putAllS l acc).2 = 0 ∨ (putAllS l acc).2 = 1 := by
  induction l generalizing acc with
  | nil => simp [putAllS]
  | cons x l ih =>
    simp only [putAllS]
    split
    · exact ih _
    · exact putS_err x
theorem putAllS_acc (l acc : List Int) (h : (putAllS l []).2 = 0) : (putAllS l acc).2 = 0 ∧ (putAllS l acc).1 = acc ++ (putAllS l []).1 := by
  have key : ∀ (l acc pre : List Int), (putAllS l acc).2 = 0 → (putAllS l (pre ++ acc)).2 = 0 ∧ (putAllS l (pre ++ acc)).1 = pre ++ (putAllS l acc).1 := by
    intro l
    induction l with
    | nil => intro acc pre h; simp [putAllS]
    | cons x l ih =>
      intro acc pre h
      simp only [putAllS] at h ⊢
      by_cases hx : (putS x).2 = 0
      · rw [if_pos hx] at h; simp only [if_pos hx]; rw [List.append_assoc]; exact ih _ _ h
      · rw [if_neg hx] at h; exact absurd h hx
  have := key l [] acc h
  rwa [List.append_nil] at this
theorem putAllS_bad (l acc acc' : List Int) : (putAllS l acc).2 = (putAllS l acc').2 := by
  induction l generalizing acc acc' with
  | nil => simp [putAllS]
  | cons x l ih => simp only [putAllS]; split; exact ih _ _; rfl
theorem putAllS_len (l acc : List Int) : (putAllS l acc).1.length ≤ acc.length + 6 * l.length := by
  induction l generalizing acc with
  | nil => simp [putAllS]
  | cons x l ih =>
    simp only [putAllS, List.length_cons]
    split
    · have := ih (acc ++ (putS x).1)
      have h6 := putS_len x
      rw [List.length_append] at this
      omega
    · simp
theorem digits_bytes (n : Nat) : Bytes (digits n) := by
  intro x hx
  obtain ⟨i, hi, rfl⟩ := List.getElem_of_mem hx
  have := digits_at n i hi
  rw [List.getD_eq_getElem?_getD, List.getElem?_eq_getElem hi, Option.getD_some] at this
  omega
/-- From byte 'i' on the bytes are those of 'q', and others behind them. -/
theorem getS_back (b : List Int) (q : Nat) : ∀ (d i : Nat) (m : Int) (rest : List Int), b.drop i = digits q ++ rest → i + d = 6 → 0 ≤ m → (0 < i → 0 < q) → m + (q : Int) * 2 ^ (7 * i) ≤ 1099511627776 →
    getS b d i m = (m + (q : Int) * 2 ^ (7 * i), (i : Int) + (digits q).length, 0) := by
  induction q using Nat.strongRecOn with
  | ind q ih =>
    intro d i m rest hb hd hm hq hle
    have hlen : i + (digits q).length ≤ b.length := by
      have := congrArg List.length hb
      rw [List.length_drop, List.length_append] at this
      have := digits_pos q
      omega
    have hat : ∀ j, j < (digits q).length → b.getD (i + j) 0 = (digits q).getD j 0 := by
      intro j hj
      have h1 : (b.drop i)[j]? = (digits q ++ rest)[j]? := by rw [hb]
      rw [List.getElem?_drop, List.getElem?_append_left hj] at h1
      rw [List.getD_eq_getElem?_getD, List.getD_eq_getElem?_getD, h1]
    have hp := digits_pos q
    have h0 := hat 0 hp
    rw [Nat.add_zero] at h0
    have hp1 : (1 : Int) ≤ 2 ^ (7 * i) := by exact_mod_cast Nat.one_le_two_pow
    have hd6 : 0 < d := by
      rcases Nat.eq_zero_or_pos d with h | h
      · subst h
        have hi : i = 6 := by omega
        subst hi
        have hq0 := hq (by omega)
        have : (1 : Int) * 2 ^ (7 * 6) ≤ (q : Int) * 2 ^ (7 * 6) := Int.mul_le_mul_of_nonneg_right (by omega) (by decide)
        omega
      · exact h
    obtain ⟨d, rfl⟩ : ∃ e, d = e + 1 := ⟨d - 1, by omega⟩
    by_cases hs : q < 128
    · rw [digits_lt hs] at h0 hlen ⊢
      simp only [List.getD_cons_zero, List.length_singleton] at h0 hlen ⊢
      simp only [getS]
      rw [if_neg (by omega), h0, if_neg (by omega), show (q : Int) % 128 = q by omega, if_neg (by omega)]
      rfl
    · rw [digits_ge hs] at h0 hlen hb ⊢
      simp only [List.getD_cons_zero, List.length_cons] at h0 hlen ⊢
      simp only [getS]
      have e128 : (((q % 128 + 128 : Nat) : Int)) % 128 = (q : Int) % 128 := by omega
      rw [if_neg (by omega), h0, if_pos (by omega), e128]
      have hdrop : b.drop (i + 1) = digits (q / 128) ++ rest := by
        rw [← List.drop_drop, hb, List.cons_append, List.drop_succ_cons, List.drop_zero]
      have ep : (2 : Int) ^ (7 * (i + 1)) = 128 * 2 ^ (7 * i) := by rw [show 7 * (i + 1) = 7 * i + 7 by omega, Int.pow_add]; omega
      have esum : m + (q : Int) % 128 * 2 ^ (7 * i) + ((q / 128 : Nat) : Int) * 2 ^ (7 * (i + 1)) = m + (q : Int) * 2 ^ (7 * i) := by
        rw [ep, ← Int.mul_assoc, Int.add_assoc, ← Int.add_mul]
        congr 2; omega
      have hnn : 0 ≤ (q : Int) % 128 * 2 ^ (7 * i) := Int.mul_nonneg (by omega) (by omega)
      rw [ih (q / 128) (by omega) d (i + 1) _ rest hdrop (by omega) (by omega) (by omega) (by rw [esum]; exact hle), esum]
      congr 2
      omega
theorem get_digits (q : Nat) (hq : q ≤ 1099511627776) (rest : List Int) : getS (digits q ++ rest) 6 0 0 = ((q : Int), ((digits q).length : Int), 0) := by
  have := getS_back (digits q ++ rest) q 6 0 0 rest rfl (by omega) (by omega) (by omega) (by simpa using (by omega : (q : Int) ≤ 1099511627776))
  simpa using this
theorem putAllS_bytes (l : List Int) : ∀ acc : List Int, Bytes acc → Bytes (putAllS l acc).1 := by
  induction l with
  | nil => intro acc h; exact h
  | cons x l ih =>
    intro acc h
    simp only [putAllS]
    split
    · refine ih _ ?_
      intro y hy
      rcases List.mem_append.1 hy with hy | hy
      · exact h y hy
      · unfold putS at hy
        split at hy
        · exact digits_bytes _ y hy
        · simp at hy
    · intro y hy; simp at hy
theorem putAllS_nil (l acc : List Int) (h : (putAllS l acc).2 ≠ 0) : (putAllS l acc).1 = [] := by
  induction l generalizing acc with
  | nil => simp [putAllS] at h
  | cons x l ih =>
    simp only [putAllS] at h ⊢
    by_cases hx : (putS x).2 = 0
    · rw [if_pos hx] at h ⊢; exact ih _ h
    · rw [if_neg hx]

/-- What was got are the bytes of a number; a part of them that lacks the last one gives none. -/
theorem getS_once (b : List Int) (hb : Bytes b) (d : Nat) : ∀ (i : Nat) (m : Int), (getS b d i m).2.2 = 0 →
    ∃ q : Nat, (getS b d i m).1 = m + (q : Int) * 2 ^ (7 * i) ∧ (getS b d i m).2.1 = (i : Int) + (digits q).length ∧ (b.drop i).take (digits q).length = digits q ∧ i + (digits q).length ≤ b.length ∧ (0 < i → 0 < q) ∧
      (getS b d i m).1 ≤ 1099511627776 ∧ getS (b.take (i + (digits q).length - 1)) d i m = (0, 0, 3) := by
  induction d with
  | zero => intro i m h; simp [getS] at h
  | succ d ih =>
    intro i m h
    have hc := hb.at_ i
    by_cases hl : b.length ≤ i
    · simp [getS, hl] at h
    · have hlt : i < b.length := by omega
      have hgd : b.getD i 0 = b[i] := by rw [List.getD_eq_getElem?_getD, List.getElem?_eq_getElem hlt, Option.getD_some]
      have hdrop : b.drop i = b.getD i 0 :: b.drop (i + 1) := by rw [hgd]; exact List.drop_eq_getElem_cons hlt
      simp only [getS, if_neg hl] at h ⊢
      by_cases hge : 128 ≤ b.getD i 0
      · simp only [if_pos hge] at h ⊢
        obtain ⟨q', h1, h2, h3, h4, h5, h6, h7⟩ := ih (i + 1) _ h
        have hq0 := h5 (by omega)
        obtain ⟨c, hcc⟩ : ∃ c : Nat, b.getD i 0 = ((c + 128 : Nat) : Int) ∧ c < 128 := ⟨(b.getD i 0 - 128).toNat, by omega, by omega⟩
        have hdig : digits (c + 128 * q') = b.getD i 0 :: digits q' := by
          rw [digits_ge (by omega), hcc.1, show (c + 128 * q') % 128 + 128 = c + 128 by omega, show (c + 128 * q') / 128 = q' by omega]
        have hp := digits_pos q'
        have ep : (2 : Int) ^ (7 * (i + 1)) = 128 * 2 ^ (7 * i) := by rw [show 7 * (i + 1) = 7 * i + 7 by omega, Int.pow_add]; omega
        refine ⟨c + 128 * q', ?_, ?_, ?_, ?_, by omega, h6, ?_⟩
        · rw [h1, ep, ← Int.mul_assoc, Int.add_assoc, ← Int.add_mul]
          congr 2; omega
        · rw [h2, hdig, List.length_cons]; omega
        · rw [hdig, List.length_cons, hdrop, List.take_succ_cons, h3]
        · rw [hdig, List.length_cons]; omega
        · rw [hdig, List.length_cons]
          have e1 : i + ((digits q').length + 1) - 1 = i + 1 + (digits q').length - 1 := by omega
          rw [e1]
          have ht : (b.take (i + 1 + (digits q').length - 1)).getD i 0 = b.getD i 0 := by
            rw [List.getD_eq_getElem?_getD, List.getElem?_take, if_pos (by omega), List.getD_eq_getElem?_getD]
          rw [if_neg (by rw [List.length_take]; omega), ht, if_pos hge]
          exact h7
      · simp only [if_neg hge] at h ⊢
        by_cases hz : (b.getD i 0 = 0 ∧ 0 < i) ∨ ¬ (m + b.getD i 0 % 128 * 2 ^ (7 * i) ≤ 1099511627776)
        · rw [if_pos hz] at h; simp at h
        · rw [if_neg hz] at h ⊢
          obtain ⟨c, hcc⟩ : ∃ c : Nat, b.getD i 0 = (c : Int) ∧ c < 128 := ⟨(b.getD i 0).toNat, by omega, by omega⟩
          have hdig : digits c = [b.getD i 0] := by rw [digits_lt hcc.2, hcc.1]
          refine ⟨c, ?_, ?_, ?_, ?_, by omega, by simp only; omega, ?_⟩
          · simp only; rw [hcc.1, show (c : Int) % 128 = c by omega]
          · simp only; rw [hdig]; simp
          · rw [hdig, hdrop]; simp
          · rw [hdig]; simp; omega
          · rw [hdig]
            simp only [List.length_singleton, Nat.add_sub_cancel]
            rw [if_pos (by rw [List.length_take]; omega)]
theorem getS_bad (b : List Int) (d : Nat) : ∀ (i : Nat) (m : Int), (getS b d i m).2.2 ≠ 0 → (getS b d i m).1 = 0 ∧ (getS b d i m).2.1 = 0 := by
  induction d with
  | zero => intro i m h; simp [getS]
  | succ d ih =>
    intro i m h
    simp only [getS] at h ⊢
    by_cases h1 : b.length ≤ i
    · rw [if_pos h1]; exact ⟨rfl, rfl⟩
    · rw [if_neg h1] at h ⊢
      by_cases h2 : 128 ≤ b.getD i 0
      · rw [if_pos h2] at h ⊢; exact ih _ _ h
      · rw [if_neg h2] at h ⊢
        by_cases h3 : (b.getD i 0 = 0 ∧ 0 < i) ∨ ¬ (m + b.getD i 0 % 128 * 2 ^ (7 * i) ≤ 1099511627776)
        · rw [if_pos h3]; exact ⟨rfl, rfl⟩
        · rw [if_neg h3] at h; simp at h
/-- What the law asks of what was got. -/
theorem once_facts (b : List Int) (hb : Bytes b) (h : (getS b 6 0 0).2.2 = 0) : ∃ (n K : Nat), getS b 6 0 0 = ((n : Int), (K : Int), 0) ∧ 1 ≤ K ∧ K ≤ b.length ∧ putS n = (b.take K, 0) ∧ getS (b.take (K - 1)) 6 0 0 = (0, 0, 3) := by
  obtain ⟨q, h1, h2, h3, h4, _, h6, h7⟩ := getS_once b hb 6 0 0 h
  have hp := digits_pos q
  have e1 : (getS b 6 0 0).1 = (q : Int) := by rw [h1]; simp
  have e2 : (getS b 6 0 0).2.1 = ((digits q).length : Int) := by rw [h2]; simp
  rw [List.drop_zero] at h3
  rw [Nat.zero_add] at h4 h7
  refine ⟨q, (digits q).length, ?_, hp, h4, ?_, h7⟩
  · exact Prod.ext e1 (Prod.ext e2 h)
  · unfold putS
    rw [if_pos (by omega), h3, Int.toNat_natCast]
end Go.Proofs.YtiacjnmkomfdaaaDoor.PureWI

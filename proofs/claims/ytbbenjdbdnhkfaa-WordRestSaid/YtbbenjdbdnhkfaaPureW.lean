/-
  Plain lemmas on the printed functions of package word and its reference: what they come to, in lists of numbers.
  No program in sight. Conditions: bytes are 0 to 255 where a lemma says so.
-/
import Derived.Test.YtbbenjdbdnhkfaaPr
import Derived.Lib.Bytes
namespace Go.Proofs.Ytbbenjdbdnhkfaa.PureW
open Go.RowKit Go.Proofs.Ytbbenjdbdnhkfaa.Pr Go.Proofs.YtbbenjdbdnhkfaaW.PrintWords Go.Proofs.YtbbenjdbdnhkfaaW.PrintLast Go.Proofs.YtbbenjdbdnhkfaaW.PrintMore

theorem w64 {x : Int} (h0 : -9223372036854775808 ≤ x) (h1 : x ≤ 9223372036854775807) : wrap64 x = x := by unfold wrap64; omega

theorem may_eq (n : Int) : word_may.f n = some (decide (0 ≤ n ∧ n ≤ 1099511627776)) := by
  unfold word_may.f
  by_cases h : n ≥ 0
  · rw [if_pos h]; simp; omega
  · rw [if_neg h]; simp; omega
theorem refmay_eq (n : Int) : quarterdeckref01_May.f n = some (decide (0 ≤ n ∧ n ≤ 1099511627776)) := by
  unfold quarterdeckref01_May.f
  by_cases h : n ≥ 0
  · rw [if_pos h]; simp; omega
  · rw [if_neg h]; simp; omega

/-- A number as bytes. -/
def digits (n : Nat) : List Int := if n < 128 then [(n : Int)] else ((n % 128 + 128 : Nat) : Int) :: digits (n / 128)
  termination_by n

theorem digits_lt {n : Nat} (h : n < 128) : digits n = [(n : Int)] := by rw [digits, if_pos h]
theorem digits_ge {n : Nat} (h : ¬ n < 128) : digits n = ((n % 128 + 128 : Nat) : Int) :: digits (n / 128) := by rw [digits, if_neg h]

theorem or_128 : ∀ c : Fin 256, Go.bits .or .u8 ((c.val : Nat) : Int) 128 = ((c.val % 128 + 128 : Nat) : Int) := by decide +kernel

theorem or_byte (n : Nat) : Go.bits .or .u8 ((n : Int) % 256) 128 = ((n % 128 + 128 : Nat) : Int) := by
  have h := or_128 ⟨n % 256, Nat.mod_lt _ (by omega)⟩
  simp only at h
  rw [show ((n : Int) % 256) = ((n % 256 : Nat) : Int) by omega, h]
  omega

theorem put_l0 (n : Nat) : ∀ acc : List Int, acc.length + n < 140737488355328 → Ev (fun k => word_Put.l0 k n acc) (acc ++ digits n, 0) := by
  induction n using Nat.strongRecOn with
  | ind n ih =>
    intro acc hb
    by_cases h : n < 128
    · refine Ev.step (f := fun _ => some (acc ++ digits n, 0)) (fun k => ?_) (Ev.now _)
      simp only [word_Put.l0]
      rw [if_neg (by omega), if_pos (by omega), digits_lt h, show ((n : Int) % 256) = n by omega]
    · refine Ev.step (f := fun k => word_Put.l0 k ((n / 128 : Nat) : Int) (acc ++ [((n % 128 + 128 : Nat) : Int)])) (fun k => ?_) ?_
      · simp only [word_Put.l0]
        rw [if_pos (by omega), if_pos (by omega), or_byte, show (n : Int) / 128 = ((n / 128 : Nat) : Int) by omega]
      · have := ih (n / 128) (by omega) (acc ++ [((n % 128 + 128 : Nat) : Int)]) (by simp; omega)
        rw [digits_ge h]
        simpa using this

theorem refput_l0 (n : Nat) (hn : n ≤ 1099511627776) : ∀ acc : List Int, acc.length + n < 140737488355328 → Ev (fun k => quarterdeckref01_Put.l0 k n acc) (acc ++ digits n, 0) := by
  induction n using Nat.strongRecOn with
  | ind n ih =>
    intro acc hb
    by_cases h : n < 128
    · refine Ev.step (f := fun _ => some (acc ++ digits n, 0)) (fun k => ?_) (Ev.now _)
      simp only [quarterdeckref01_Put.l0]
      rw [if_neg (by omega), if_pos (by omega), digits_lt h, show ((n : Int) % 256) = n by omega]
    · refine Ev.step (f := fun k => quarterdeckref01_Put.l0 k ((n / 128 : Nat) : Int) (acc ++ [((n % 128 + 128 : Nat) : Int)])) (fun k => ?_) ?_
      · simp only [quarterdeckref01_Put.l0]
        have e1 : Int.tdiv (n : Int) 128 = ((n / 128 : Nat) : Int) := by rw [Int.tdiv_eq_ediv_of_nonneg (by omega)]; omega
        have e2 : Int.tmod (n : Int) 128 = ((n % 128 : Nat) : Int) := by rw [Int.tmod_eq_emod_of_nonneg (by omega)]; omega
        rw [if_pos (by omega), if_pos (by omega), e1, e2, w64 (by omega) (by omega)]
        rw [show (((n % 128 : Nat) : Int) + 128) % 256 = ((n % 128 + 128 : Nat) : Int) by omega]
      · have := ih (n / 128) (by omega) (by omega) (acc ++ [((n % 128 + 128 : Nat) : Int)]) (by simp; omega)
        rw [digits_ge h]
        simpa using this

/-- What Put gives. -/
def putS (a : Int) : List Int × Int := if 0 ≤ a ∧ a ≤ 1099511627776 then (digits a.toNat, 0) else ([], 1)

theorem put_ev (a : Int) : Ev (fun k => word_Put.f k a) (putS a) := by
  unfold putS word_Put.f
  simp only [may_eq, Option.bind_some]
  by_cases h : 0 ≤ a ∧ a ≤ 1099511627776
  · simp only [h, and_self, decide_true, if_true]
    have := put_l0 a.toNat [] (by simp; omega)
    rw [show ((a.toNat : Nat) : Int) = a by omega] at this
    simpa using this
  · simp only [h, decide_false, Bool.false_eq_true, if_false]
    exact Ev.now _

theorem refput_ev (a : Int) : Ev (fun k => quarterdeckref01_Put.f k a) (putS a) := by
  unfold putS quarterdeckref01_Put.f
  simp only [refmay_eq, Option.bind_some]
  by_cases h : 0 ≤ a ∧ a ≤ 1099511627776
  · simp only [h, and_self, decide_true, if_true]
    have := refput_l0 a.toNat (by omega) [] (by simp; omega)
    rw [show ((a.toNat : Nat) : Int) = a by omega] at this
    simpa using this
  · simp only [h, decide_false, Bool.false_eq_true, if_false]
    exact Ev.now _

theorem div_eq (a b : Int) : word_Div.f a b = some (Div.divI a b) := rfl

theorem awake_ev : Ev (fun k => quarterdecklaw01_awake.f k) true := by
  unfold quarterdecklaw01_awake.f
  refine Ev.bind (put_ev 300) ?_
  have e : putS 300 = ([172, 2], 0) := by
    unfold putS
    rw [if_pos (by omega), show (300 : Int).toNat = 300 from rfl, digits_ge (by omega), show 300 / 128 = 2 from rfl, digits_lt (by omega)]
    rfl
  have s : (strOfNums [172, 2]).toList = ([172, 2] : List UInt8) := by rw [Lib.strOfNums_toList]; rfl
  have d1 : Div.divI (-7) 2 = (-3, 0) := by
    unfold Div.divI; rw [if_neg (by omega), show Int.tdiv (-7) 2 = -3 from rfl, w64 (by omega) (by omega)]
  have d2 : Div.divI 1 0 = (0, 3) := by unfold Div.divI; rw [if_pos rfl]
  simp only [e, div_eq, Option.bind_some, d1, d2, s, if_true]
  exact Ev.now _

theorem wf64 {x : Int} (h : (Lit.int .i64 x).wf = true) : -9223372036854775808 ≤ x ∧ x ≤ 9223372036854775807 := by
  have := h
  simp [Lit.wf, IntKind.min, IntKind.max, IntKind.bits, IntKind.signed] at this
  omega

theorem refdiv_eq (a b : Int) : quarterdeckref01_Div.f a b = some (Div.divI a b) := by
  unfold quarterdeckref01_Div.f Div.divI
  by_cases h : b = 0
  · rw [if_pos h, if_pos h]
  · rw [if_neg h, if_neg h]
    by_cases h1 : b = -1
    · rw [if_pos h1, h1, Int.tdiv_neg, Int.tdiv_one]
    · rw [if_neg h1]

theorem divides_ev (a b : Int) : Ev (fun k => quarterdecklaw01_WordDivides.f k a b) true := by
  unfold quarterdecklaw01_WordDivides.f
  refine Ev.bind awake_ev ?_
  simp only [div_eq, refdiv_eq, Option.bind_some, if_true]
  simp
  exact Ev.now _

theorem tdiv_bounds {a b : Int} (ha : -9223372036854775808 ≤ a ∧ a ≤ 9223372036854775807) (h0 : b ≠ 0) (h1 : b ≠ -1) :
    -9223372036854775808 ≤ a.tdiv b ∧ a.tdiv b ≤ 9223372036854775807 := by
  by_cases hb : b = 1
  · subst hb; rw [Int.tdiv_one]; exact ha
  · have hq : (a.tdiv b).natAbs = a.natAbs / b.natAbs := Int.natAbs_tdiv a b
    have h2 : 2 ≤ b.natAbs := by omega
    have h3 : a.natAbs / b.natAbs ≤ a.natAbs / 2 := Nat.div_le_div_left h2 (by omega)
    omega

theorem rest_facts {a b : Int} (h0 : b ≠ 0) : a - a.tdiv b * b = a.tmod b ∧ (a.tmod b).natAbs < b.natAbs ∧ (0 ≤ a → 0 ≤ a.tmod b) ∧ (a ≤ 0 → a.tmod b ≤ 0) ∧ (a.tmod b).natAbs ≤ a.natAbs := by
  have hm : b * a.tdiv b + a.tmod b = a := Int.mul_tdiv_add_tmod a b
  have hn : (a.tmod b).natAbs = a.natAbs % b.natAbs := Int.natAbs_tmod a b
  refine ⟨by rw [Int.mul_comm]; omega, ?_, fun h => Int.tmod_nonneg b h, fun h => ?_, ?_⟩
  · rw [hn]; exact Nat.mod_lt _ (by omega)
  · have := Int.tmod_nonneg b (show 0 ≤ -a by omega)
    rw [Int.neg_tmod] at this
    omega
  · rw [hn]; exact Nat.mod_le _ _

theorem rest_ev (a b : Int) (ha : -9223372036854775808 ≤ a ∧ a ≤ 9223372036854775807) (hb : -9223372036854775808 ≤ b ∧ b ≤ 9223372036854775807) : Ev (fun k => quarterdecklaw01_WordRest.f k a b) true := by
  unfold quarterdecklaw01_WordRest.f
  refine Ev.bind awake_ev ?_
  simp only [if_true]
  have stop : Ev (fun k => quarterdecklaw01_WordRest.j0 k a b true true) true := Ev.step (f := fun _ => some true) (fun k => by simp only [quarterdecklaw01_WordRest.j0, if_true]) (Ev.now _)
  by_cases h0 : b = 0
  · simp only [if_pos h0]; exact stop
  · simp only [if_neg h0]
    by_cases h1 : b = -1
    · simp only [if_pos h1]; exact stop
    · simp only [if_neg h1]
      by_cases h2 : b = -9223372036854775808
      · rw [show (b == -9223372036854775808) = true by simp [h2]]; exact stop
      · rw [show (b == -9223372036854775808) = false by simp [h2]]
        refine Ev.step (f := fun _ => some true) (fun k => ?_) (Ev.now _)
        simp only [quarterdecklaw01_WordRest.j0, Bool.false_eq_true, if_false, div_eq, Option.bind_some]
        have hd : Div.divI a b = (a.tdiv b, 0) := by
          have := tdiv_bounds ha h0 h1
          unfold Div.divI; rw [if_neg h0, w64 this.1 this.2]
        obtain ⟨r0, r1, r2, r3, r4⟩ := rest_facts (a := a) h0
        have e1 : wrap64 (a.tdiv b * b) = a.tdiv b * b := w64 (by omega) (by omega)
        have e2 : wrap64 (a - a.tdiv b * b) = a.tmod b := by rw [r0]; exact w64 (by omega) (by omega)
        rw [hd]
        simp only [e1, e2]
        generalize a.tmod b = r at *
        by_cases hneg : b < 0
        · have e3 : wrap64 (-b) = -b := w64 (by omega) (by omega)
          have e4 : wrap64 (-(-b)) = b := by rw [Int.neg_neg]; exact w64 (by omega) (by omega)
          simp only [if_pos hneg, if_true, e3, e4]
          rw [if_pos (by omega), if_pos (by omega)]
          by_cases hp : a ≥ 0
          · rw [if_pos hp, if_pos (r2 hp)]
          · rw [if_neg hp, if_pos (by omega)]; simp; exact r3 (by omega)
        · have e3 : wrap64 (-b) = -b := w64 (by omega) (by omega)
          simp only [if_neg hneg, if_true, e3]
          rw [if_pos (by omega), if_pos (by omega)]
          by_cases hp : a ≥ 0
          · rw [if_pos hp, if_pos (r2 hp)]
          · rw [if_neg hp, if_pos (by omega)]; simp; exact r3 (by omega)

theorem byone_ev (a : Int) (ha : -9223372036854775808 ≤ a ∧ a ≤ 9223372036854775807) : Ev (fun k => quarterdecklaw01_WordByOne.f k a) true := by
  unfold quarterdecklaw01_WordByOne.f
  refine Ev.bind awake_ev ?_
  have d1 : Div.divI a 1 = (a, 0) := by unfold Div.divI; rw [if_neg (by omega), Int.tdiv_one, w64 ha.1 ha.2]
  have d2 : Div.divI a (-1) = (wrap64 (-a), 0) := by unfold Div.divI; rw [if_neg (by omega), Int.tdiv_neg, Int.tdiv_one]
  have d3 : Div.divI a 0 = (0, 3) := by unfold Div.divI; rw [if_pos rfl]
  simp only [div_eq, Option.bind_some, d1, d2, d3, if_true]
  by_cases h : a = 0
  · have d4 : Div.divI a a = (0, 3) := by unfold Div.divI; rw [if_pos h]
    simp only [d4, if_pos h, if_true]; exact Ev.now _
  · have d4 : Div.divI a a = (1, 0) := by unfold Div.divI; rw [if_neg h, Int.tdiv_self h, w64 (by omega) (by omega)]
    simp only [d4, if_neg h]; exact Ev.now _

/-! ### How long the bytes are, and which of them is the last -/
theorem digits_len (d : Nat) : ∀ n : Nat, n < 2 ^ (7 * (d + 1)) → (digits n).length ≤ d + 1 := by
  induction d with
  | zero => intro n h; rw [digits_lt (by simpa using h)]; simp
  | succ d ih =>
    intro n h
    by_cases h1 : n < 128
    · rw [digits_lt h1]; simp
    · rw [digits_ge h1, List.length_cons]
      have : n / 128 < 2 ^ (7 * (d + 1)) := by
        rw [Nat.div_lt_iff_lt_mul (by omega)]
        rw [show 7 * (d + 1 + 1) = 7 * (d + 1) + 7 by omega, Nat.pow_add] at h
        exact h
      have := ih _ this
      omega

theorem digits_pos (n : Nat) : 0 < (digits n).length := by
  by_cases h : n < 128
  · rw [digits_lt h]; simp
  · rw [digits_ge h]; simp

theorem digits_len6 {n : Nat} (h : n ≤ 1099511627776) : (digits n).length ≤ 6 := digits_len 5 n (by omega)

/-- 'n' lies below 128 to the number of its bytes, and reaches 128 to one less where it has more than one. -/
theorem digits_size (n : Nat) : n < 2 ^ (7 * (digits n).length) ∧ (1 < (digits n).length → 2 ^ (7 * ((digits n).length - 1)) ≤ n) := by
  induction n using Nat.strongRecOn with
  | ind n ih =>
    by_cases h : n < 128
    · rw [digits_lt h]; simp; omega
    · obtain ⟨h1, h2⟩ := ih (n / 128) (by omega)
      rw [digits_ge h, List.length_cons]
      have hp := digits_pos (n / 128)
      generalize (digits (n / 128)).length = L at *
      have e1 : 2 ^ (7 * (L + 1)) = 2 ^ (7 * L) * 128 := by rw [show 7 * (L + 1) = 7 * L + 7 by omega, Nat.pow_add]
      refine ⟨by rw [e1]; omega, fun _ => ?_⟩
      rw [show L + 1 - 1 = L by omega]
      by_cases hL : L = 1
      · subst hL; omega
      · have := h2 (by omega)
        obtain ⟨M, rfl⟩ : ∃ M, L = M + 1 := ⟨L - 1, by omega⟩
        rw [show M + 1 - 1 = M by omega] at this
        rw [show 7 * (M + 1) = 7 * M + 7 by omega, Nat.pow_add]
        omega

theorem digits_at (n : Nat) : ∀ i, i < (digits n).length → 0 ≤ (digits n).getD i 0 ∧ (digits n).getD i 0 < 256 ∧ ((digits n).getD i 0 < 128 ↔ i + 1 = (digits n).length) := by
  induction n using Nat.strongRecOn with
  | ind n ih =>
    intro i hi
    by_cases h : n < 128
    · rw [digits_lt h] at hi ⊢
      simp at hi
      subst hi
      simp; omega
    · rw [digits_ge h] at hi ⊢
      have hp := digits_pos (n / 128)
      cases i with
      | zero => simp only [List.getD_cons_zero, List.length_cons]; omega
      | succ i =>
        have := ih (n / 128) (by omega) i (by simpa using hi)
        simp only [List.getD_cons_succ, List.length_cons]
        omega

theorem shl_one (i : Nat) (h : i ≤ 6) : shl .i64 1 (IntKind.u64.wrap (wrap64 (7 * (i : Int)))) = 2 ^ (7 * i) := by
  rcases (show i = 0 ∨ i = 1 ∨ i = 2 ∨ i = 3 ∨ i = 4 ∨ i = 5 ∨ i = 6 by omega) with rfl | rfl | rfl | rfl | rfl | rfl | rfl <;> decide +kernel

theorem u64_ge (x : Int) : 0 ≤ IntKind.u64.wrap x := by rw [IntKind.wrap_u64]; omega

theorem sizes_l0 (n : Nat) (hn : n ≤ 1099511627776) (d : Nat) : ∀ (i : Nat) (least : Int), i + d = (digits n).length → least = (if 2 ≤ i then 2 ^ (7 * (i - 1)) else 0) →
    Ev (fun k => quarterdecklaw01_WordSizes.l0 k n (digits n) least i) true := by
  have hl6 := digits_len6 hn
  have hs := digits_size n
  have hp := digits_pos n
  induction d with
  | zero =>
    intro i least hd h1
    refine Ev.step (f := fun _ => some true) (fun k => ?_) (Ev.now _)
    simp only [quarterdecklaw01_WordSizes.l0]
    rw [if_neg (by omega)]
    have hlen : (digits n).length = i := by omega
    rw [hlen] at hs
    have hcase : (n : Int) ≥ least := by
      rw [h1]
      by_cases h2 : 2 ≤ i
      · have := hs.2 (by omega)
        rw [if_pos h2]; exact_mod_cast this
      · rw [if_neg h2]; omega
    rw [if_pos hcase, if_pos (u64_ge _), hlen, shl_one i (by omega)]
    have := hs.1
    simp only [Option.some.injEq, decide_eq_true_eq]
    exact_mod_cast this
  | succ d ih =>
    intro i least hd h1
    have hat := digits_at n i (by omega)
    refine Ev.step (f := fun k => quarterdecklaw01_WordSizes.l0 k n (digits n) (if 2 ≤ i + 1 then 2 ^ (7 * (i + 1 - 1)) else 0) ((i + 1 : Nat) : Int)) (fun k => ?_) (ih (i + 1) _ (by omega) rfl)
    simp only [quarterdecklaw01_WordSizes.l0]
    rw [if_pos (by omega), if_pos (by omega)]
    have hrd : rd (digits n) i = (digits n).getD i 0 := by unfold rd; rw [Int.toNat_natCast]
    have hw : wrap64 (((digits n).length : Int) - 1) = ((digits n).length : Int) - 1 := w64 (by omega) (by omega)
    have hb : ((decide (rd (digits n) i < 128)) != ((i : Int) == wrap64 (((digits n).length : Int) - 1))) = false := by
      have e1 : ((i : Int) == ((digits n).length : Int) - 1) = decide (i + 1 = (digits n).length) := by rw [Bool.eq_iff_iff]; simp; omega
      have e2 : decide ((digits n).getD i 0 < 128) = decide (i + 1 = (digits n).length) := by rw [Bool.eq_iff_iff]; simp only [decide_eq_true_eq]; exact hat.2.2
      rw [hrd, hw, e1, e2, bne_self_eq_false]
    rw [hb, w64 (x := (i : Int) + 1) (by omega) (by omega)]
    simp only [Bool.false_eq_true, if_false]
    by_cases hi : 0 < i
    · rw [if_pos (by omega), if_pos (u64_ge _), shl_one i (by omega), if_pos (by omega)]; rfl
    · rw [if_neg (by omega), if_neg (by omega), h1, if_neg (by omega)]; rfl

theorem sizes_ev (a : Int) : Ev (fun k => quarterdecklaw01_WordSizes.f k a) true := by
  unfold quarterdecklaw01_WordSizes.f
  refine Ev.bind awake_ev ?_
  refine Ev.bind (put_ev a) ?_
  simp only [if_true]
  unfold putS
  by_cases h : 0 ≤ a ∧ a ≤ 1099511627776
  · simp only [if_pos h]
    refine Ev.step (f := fun k => quarterdecklaw01_WordSizes.l0 k a (digits a.toNat) 0 0) (fun k => ?_) ?_
    · simp only [quarterdecklaw01_WordSizes.j0]; rw [if_neg (by decide)]
    · have := sizes_l0 a.toNat (by omega) (digits a.toNat).length 0 0 (by omega) rfl
      rw [show ((a.toNat : Nat) : Int) = a by omega] at this
      exact this
  · simp only [if_neg h]
    refine Ev.step (f := fun _ => some true) (fun k => ?_) (Ev.now _)
    simp only [quarterdecklaw01_WordSizes.j0]
    rw [if_pos (by decide)]; rfl

/-! ### All numbers -/
theorem putS_len (a : Int) : (putS a).1.length ≤ 6 := by
  unfold putS
  split
  · exact digits_len6 (by omega)
  · simp

/-- What PutAll gives, from number 'i' on. -/
def putAllS : List Int → List Int → List Int × Int
  | [], acc => (acc, 0)
  | a :: l, acc => if (putS a).2 = 0 then putAllS l (acc ++ (putS a).1) else ([], (putS a).2)

theorem putall_l0 (d : Nat) : ∀ (l acc : List Int) (i : Nat), i + d = l.length → acc.length + 6 * d < 140737488355328 → l.length < 9223372036854775807 →
    Ev (fun k => word_PutAll.l0 k acc l l.length i) (putAllS (l.drop i) acc) := by
  induction d with
  | zero =>
    intro l acc i hd hb hm
    rw [List.drop_of_length_le (by omega)]
    refine Ev.step (f := fun _ => some (acc, 0)) (fun k => ?_) (Ev.now _)
    simp only [word_PutAll.l0]
    rw [if_neg (by omega)]
  | succ d ih =>
    intro l acc i hd hb hm
    have hlt : i < l.length := by omega
    rw [List.drop_eq_getElem_cons hlt]
    have hrd : rd l i = l[i] := by unfold rd; rw [Int.toNat_natCast]; simp [List.getD_eq_getElem?_getD, hlt]
    have h6 := putS_len l[i]
    refine Ev.step (f := fun k => (word_Put.f k (rd l i)).bind fun b => if b.2 = 0 then (if acc.length + b.1.length < 140737488355328 then word_PutAll.l0 k (acc ++ b.1) l l.length (wrap64 ((i : Int) + 1)) else none) else some (([] : List Int), b.2)) (fun k => ?_) ?_
    · simp only [word_PutAll.l0]
      rw [if_pos (by omega), if_pos (by omega), if_pos (by omega)]
    · rw [hrd]
      refine Ev.bind (put_ev _) ?_
      simp only [putAllS]
      by_cases h0 : (putS l[i]).2 = 0
      · simp only [if_pos h0]
        have : acc.length + (putS l[i]).1.length < 140737488355328 := by omega
        simp only [if_pos this]
        rw [w64 (x := (i : Int) + 1) (by omega) (by omega), show (i : Int) + 1 = ((i + 1 : Nat) : Int) by omega]
        exact ih l (acc ++ (putS l[i]).1) (i + 1) (by omega) (by rw [List.length_append]; omega) hm
      · simp only [if_neg h0]
        exact Ev.now _

theorem putall_ev (l : List Int) (h : l.length ≤ 500) : Ev (fun k => word_PutAll.f k l) (putAllS l []) := by
  unfold word_PutAll.f
  have := putall_l0 l.length l [] 0 (by omega) (by simp; omega) (by omega)
  simpa using this

theorem refputall_l0 (d : Nat) : ∀ (l acc : List Int) (i : Nat), i + d = l.length → acc.length + 6 * d < 140737488355328 → l.length < 9223372036854775807 →
    Ev (fun k => quarterdeckref01_PutAll.l0 k l acc i) (putAllS (l.drop i) acc) := by
  induction d with
  | zero =>
    intro l acc i hd hb hm
    rw [List.drop_of_length_le (by omega)]
    refine Ev.step (f := fun _ => some (acc, 0)) (fun k => ?_) (Ev.now _)
    simp only [quarterdeckref01_PutAll.l0]
    rw [if_neg (by omega)]
  | succ d ih =>
    intro l acc i hd hb hm
    have hlt : i < l.length := by omega
    rw [List.drop_eq_getElem_cons hlt]
    have hrd : rd l i = l[i] := by unfold rd; rw [Int.toNat_natCast]; simp [List.getD_eq_getElem?_getD, hlt]
    have h6 := putS_len l[i]
    refine Ev.step (f := fun k => (quarterdeckref01_Put.f k (rd l i)).bind fun b => if b.2 = 0 then (if acc.length + b.1.length < 140737488355328 then quarterdeckref01_PutAll.l0 k l (acc ++ b.1) (wrap64 ((i : Int) + 1)) else none) else some (([] : List Int), b.2)) (fun k => ?_) ?_
    · simp only [quarterdeckref01_PutAll.l0]
      rw [if_pos (by omega), if_pos (by omega)]
    · rw [hrd]
      refine Ev.bind (refput_ev _) ?_
      simp only [putAllS]
      by_cases h0 : (putS l[i]).2 = 0
      · simp only [if_pos h0]
        have : acc.length + (putS l[i]).1.length < 140737488355328 := by omega
        simp only [if_pos this]
        rw [w64 (x := (i : Int) + 1) (by omega) (by omega), show (i : Int) + 1 = ((i + 1 : Nat) : Int) by omega]
        exact ih l (acc ++ (putS l[i]).1) (i + 1) (by omega) (by rw [List.length_append]; omega) hm
      · simp only [if_neg h0]
        exact Ev.now _

theorem refputall_ev (l : List Int) (h : l.length ≤ 500) : Ev (fun k => quarterdeckref01_PutAll.f k l) (putAllS l []) := by
  unfold quarterdeckref01_PutAll.f
  have := refputall_l0 l.length l [] 0 (by omega) (by simp; omega) (by omega)
  simpa using this

theorem puts_ev (a : Int) (l : List Int) : Ev (fun k => quarterdecklaw01_WordPuts.f k a l) true := by
  unfold quarterdecklaw01_WordPuts.f
  refine Ev.bind awake_ev ?_
  simp only [if_true]
  by_cases h : (l.length : Int) > 500
  · simp only [h, decide_true]
    exact Ev.step (f := fun _ => some true) (fun k => by simp only [quarterdecklaw01_WordPuts.j0, if_true]) (Ev.now _)
  · simp only [h, decide_false]
    refine Ev.step (f := fun k => (word_Put.f k a).bind fun b1 => (quarterdeckref01_Put.f k a).bind fun b2 => (word_PutAll.f k l).bind fun b3 => (quarterdeckref01_PutAll.f k l).bind fun b4 =>
      if (strOfNums b1.1).toList = (strOfNums b2.1).toList then (if b1.2 = b2.2 then (if (strOfNums b3.1).toList = (strOfNums b4.1).toList then some (b3.2 == b4.2) else some false) else some false) else some false) (fun k => ?_) ?_
    · simp only [quarterdecklaw01_WordPuts.j0, Bool.false_eq_true, if_false]
    · refine Ev.bind (put_ev a) (Ev.bind (refput_ev a) (Ev.bind (putall_ev l (by omega)) (Ev.bind (refputall_ev l (by omega)) ?_)))
      simp only [if_true, beq_self_eq_true]
      exact Ev.now _
end Go.Proofs.Ytbbenjdbdnhkfaa.PureW

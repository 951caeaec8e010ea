/-
  Plain lemmas on the printed functions of package word and its reference: what they come to, in lists of numbers.
  No program in sight. Conditions: bytes are 0 to 255 where a lemma says so.
-/
import Derived.Test.YtbbenjdbdnhkfaaPr
import Derived.Lib.Bytes
namespace Go.Proofs.Ytbbenjdbdnhkfaa.PureW
open Go.RowKit Go.Proofs.Ytbbenjdbdnhkfaa.Pr Go.Proofs.YtbbenjdbdnhkfaaW.PrintWords Go.Proofs.YtbbenjdbdnhkfaaW.PrintLast Go.Proofs.YtbbenjdbdnhkfaaW.PrintMore

theorem w64 {x : Int} (h0 : -9223372036854775808 ≤ x) (h1 : x ≤ 9223372036854775807) : wrap64 x = x := by unfold wrap64; omega

theorem may_eq (n : Int) : word_may.f n = some (decide (0 ≤ n ∧ n ≤ 1099511627776)) := by
  unfold word_may.f
  by_cases h : n ≥ 0
  · rw [if_pos h]; simp; omega
  · rw [if_neg h]; simp; omega
theorem refmay_eq (n : Int) : quarterdeckref01_May.f n = some (decide (0 ≤ n ∧ n ≤ 1099511627776)) := by
  unfold quarterdeckref01_May.f
  by_cases h : n ≥ 0
  · rw [if_pos h]; simp; omega
  · rw [if_neg h]; simp; omega

/-- A number as bytes. -/
def digits (n : Nat) : List Int := if n < 128 then [(n : Int)] else ((n % 128 + 128 : Nat) : Int) :: digits (n / 128)
termination_by n

theorem digits_lt {n : Nat} (h : n < 128) : digits n = [(n : Int)] := by rw [digits, if_pos h]
theorem digits_ge {n : Nat} (h : ¬ n < 128) : digits n = ((n % 128 + 128 : Nat) : Int) :: digits (n / 128) := by rw [digits, if_neg h]

theorem or_128 : ∀ c : Fin 256, Go.bits .or .u8 ((c.val : Nat) : Int) 128 = ((c.val % 128 + 128 : Nat) : Int) := by decide +kernel

theorem or_byte (n : Nat) : Go.bits .or .u8 ((n : Int) % 256) 128 = ((n % 128 + 128 : Nat) : Int) := by
  have h := or_128 ⟨n % 256, Nat.mod_lt _ (by omega)⟩
  simp only at h
  rw [show ((n : Int) % 256) = ((n % 256 : Nat) : Int) by omega, h]
  omega

theorem put_l0 (n : Nat) : ∀ acc : List Int, acc.length + n < 140737488355328 → Ev (fun k => word_Put.l0 k n acc) (acc ++ digits n, 0) := by
  induction n using Nat.strongRecOn with
  | ind n ih =>
    intro acc hb
    by_cases h : n < 128
    · refine Ev.step (f := fun _ => some (acc ++ digits n, 0)) (fun k => ?_) (Ev.now _)
      simp only [word_Put.l0]
      rw [if_neg (by omega), if_pos (by omega), digits_lt h, show ((n : Int) % 256) = n by omega]
    · refine Ev.step (f := fun k => word_Put.l0 k ((n / 128 : Nat) : Int) (acc ++ [((n % 128 + 128 : Nat) : Int)])) (fun k => ?_) ?_
      · simp only [word_Put.l0]
        rw [if_pos (by omega), if_pos (by omega), or_byte, show (n : Int) / 128 = ((n / 128 : Nat) : Int) by omega]
      · have := ih (n / 128) (by omega) (acc ++ [((n % 128 + 128 : Nat) : Int)]) (by simp; omega)
        rw [digits_ge h]
        simpa using this

theorem refput_l0 (n : Nat) (hn : n ≤ 1099511627776) : ∀ acc : List Int, acc.length + n < 140737488355328 → Ev (fun k => quarterdeckref01_Put.l0 k n acc) (acc ++ digits n, 0) := by
  induction n using Nat.strongRecOn with
  | ind n ih =>
    intro acc hb
    by_cases h : n < 128
    · refine Ev.step (f := fun _ => some (acc ++ digits n, 0)) (fun k => ?_) (Ev.now _)
      simp only [quarterdeckref01_Put.l0]
      rw [if_neg (by omega), if_pos (by omega), digits_lt h, show ((n : Int) % 256) = n by omega]
    · refine Ev.step (f := fun k => quarterdeckref01_Put.l0 k ((n / 128 : Nat) : Int) (acc ++ [((n % 128 + 128 : Nat) : Int)])) (fun k => ?_) ?_
      · simp only [quarterdeckref01_Put.l0]
        have e1 : Int.tdiv (n : Int) 128 = ((n / 128 : Nat) : Int) := by rw [Int.tdiv_eq_ediv_of_nonneg (by omega)]; omega
        have e2 : Int.tmod (n : Int) 128 = ((n % 128 : Nat) : Int) := by rw [Int.tmod_eq_emod_of_nonneg (by omega)]; omega
        rw [if_pos (by omega), if_pos (by omega), e1, e2, w64 (by omega) (by omega)]
        rw [show (((n % 128 : Nat) : Int) + 128) % 256 = ((n % 128 + 128 : Nat) : Int) by omega]
      · have := ih (n / 128) (by omega) (by omega) (acc ++ [((n % 128 + 128 : Nat) : Int)]) (by simp; omega)
        rw [digits_ge h]
        simpa using this

/-- What Put gives. -/
def putS (a : Int) : List Int × Int := if 0 ≤ a ∧ a ≤ 1099511627776 then (digits a.toNat, 0) else ([], 1)

theorem put_ev (a : Int) : Ev (fun k => word_Put.f k a) (putS a) := by
  unfold putS word_Put.f
  simp only [may_eq, Option.bind_some]
  by_cases h : 0 ≤ a ∧ a ≤ 1099511627776
  · simp only [h, and_self, decide_true, if_true]
    have := put_l0 a.toNat [] (by simp; omega)
    rw [show ((a.toNat : Nat) : Int) = a by omega] at this
    simpa using this
  · simp only [h, decide_false, Bool.false_eq_true, if_false]
    exact Ev.now _

theorem refput_ev (a : Int) : Ev (fun k => quarterdeckref01_Put.f k a) (putS a) := by
  unfold putS quarterdeckref01_Put.f
  simp only [refmay_eq, Option.bind_some]
  by_cases h : 0 ≤ a ∧ a ≤ 1099511627776
  · simp only [h, and_self, decide_true, if_true]
    have := refput_l0 a.toNat (by omega) [] (by simp; omega)
    rw [show ((a.toNat : Nat) : Int) = a by omega] at this
    simpa using this
  · simp only [h, decide_false, Bool.false_eq_true, if_false]
    exact Ev.now _

theorem div_eq (a b : Int) : word_Div.f a b = some (Div.divI a b) := rfl

theorem awake_ev : Ev (fun k => quarterdecklaw01_awake.f k) true := by
  unfold quarterdecklaw01_awake.f
  refine Ev.bind (put_ev 300) ?_
  have e : putS 300 = ([172, 2], 0) := by
    unfold putS
    rw [if_pos (by omega), show (300 : Int).toNat = 300 from rfl, digits_ge (by omega), show 300 / 128 = 2 from rfl, digits_lt (by omega)]
    rfl
  have s : (strOfNums [172, 2]).toList = ([172, 2] : List UInt8) := by rw [Lib.strOfNums_toList]; rfl
  have d1 : Div.divI (-7) 2 = (-3, 0) := by
    unfold Div.divI; rw [if_neg (by omega), show Int.tdiv (-7) 2 = -3 from rfl, w64 (by omega) (by omega)]
  have d2 : Div.divI 1 0 = (0, 3) := by unfold Div.divI; rw [if_pos rfl]
  simp only [e, div_eq, Option.bind_some, d1, d2, s, if_true]
  exact Ev.now _

theorem wf64 {x : Int} (h : (Lit.int .i64 x).wf = true) : -9223372036854775808 ≤ x ∧ x ≤ 9223372036854775807 := by
  have := h
  simp [Lit.wf, IntKind.min, IntKind.max, IntKind.bits, IntKind.signed] at this
  omega

theorem refdiv_eq (a b : Int) : quarterdeckref01_Div.f a b = some (Div.divI a b) := by
  unfold quarterdeckref01_Div.f Div.divI
  by_cases h : b = 0
  · rw [if_pos h, if_pos h]
  · rw [if_neg h, if_neg h]
    by_cases h1 : b = -1
    · rw [if_pos h1, h1, Int.tdiv_neg, Int.tdiv_one]
    · rw [if_neg h1]

theorem divides_ev (a b : Int) : Ev (fun k => quarterdecklaw01_WordDivides.f k a b) true := by
  unfold quarterdecklaw01_WordDivides.f
  refine Ev.bind awake_ev ?_
  simp only [div_eq, refdiv_eq, Option.bind_some, if_true]
  simp
  exact Ev.now _

theorem tdiv_bounds {a b : Int} (ha : -9223372036854775808 ≤ a ∧ a ≤ 9223372036854775807) (h0 : b ≠ 0) (h1 : b ≠ -1) :
    -9223372036854775808 ≤ a.tdiv b ∧ a.tdiv b ≤ 9223372036854775807 := by
  by_cases hb : b = 1
  · subst hb; rw [Int.tdiv_one]; exact ha
  · have hq : (a.tdiv b).natAbs = a.natAbs / b.natAbs := Int.natAbs_tdiv a b
    have h2 : 2 ≤ b.natAbs := by omega
    have h3 : a.natAbs / b.natAbs ≤ a.natAbs / 2 := Nat.div_le_div_left h2 (by omega)
    omega

theorem rest_facts {a b : Int} (h0 : b ≠ 0) : a - a.tdiv b * b = a.tmod b ∧ (a.tmod b).natAbs < b.natAbs ∧ (0 ≤ a → 0 ≤ a.tmod b) ∧ (a ≤ 0 → a.tmod b ≤ 0) ∧ (a.tmod b).natAbs ≤ a.natAbs := by
  have hm : b * a.tdiv b + a.tmod b = a := Int.mul_tdiv_add_tmod a b
  have hn : (a.tmod b).natAbs = a.natAbs % b.natAbs := Int.natAbs_tmod a b
  refine ⟨by rw [Int.mul_comm]; omega, ?_, fun h => Int.tmod_nonneg b h, fun h => ?_, ?_⟩
  · rw [hn]; exact Nat.mod_lt _ (by omega)
  · have := Int.tmod_nonneg b (show 0 ≤ -a by omega)
    rw [Int.neg_tmod] at this
    omega
  · rw [hn]; exact Nat.mod_le _ _

theorem rest_ev (a b : Int) (ha : -9223372036854775808 ≤ a ∧ a ≤ 9223372036854775807) (hb : -9223372036854775808 ≤ b ∧ b ≤ 9223372036854775807) : Ev (fun k => quarterdecklaw01_WordRest.f k a b) true := by
  unfold quarterdecklaw01_WordRest.f
  refine Ev.bind awake_ev ?_
  simp only [if_true]
  have stop : Ev (fun k => quarterdecklaw01_WordRest.j0 k a b true true) true := Ev.step (f := fun _ => some true) (fun k => by simp only [quarterdecklaw01_WordRest.j0, if_true]) (Ev.now _)
  by_cases h0 : b = 0
  · simp only [if_pos h0]; exact stop
  · simp only [if_neg h0]
    by_cases h1 : b = -1
    · simp only [if_pos h1]; exact stop
    · simp only [if_neg h1]
      by_cases h2 : b = -9223372036854775808
      · rw [show (b == -9223372036854775808) = true by simp [h2]]; exact stop
      · rw [show (b == -9223372036854775808) = false by simp [h2]]
        refine Ev.step (f := fun _ => some true) (fun k => ?_) (Ev.now _)
        simp only [quarterdecklaw01_WordRest.j0, Bool.false_eq_true, if_false, div_eq, Option.bind_some]
        have hd : Div.divI a b = (a.tdiv b, 0) := by
          have := tdiv_bounds ha h0 h1
          unfold Div.divI; rw [if_neg h0, w64 this.1 this.2]
        obtain ⟨r0, r1, r2, r3, r4⟩ := rest_facts (a := a) h0
        have e1 : wrap64 (a.tdiv b * b) = a.tdiv b * b := w64 (by omega) (by omega)
        have e2 : wrap64 (a - a.tdiv b * b) = a.tmod b := by rw [r0]; exact w64 (by omega) (by omega)
        rw [hd]
        simp only [e1, e2]
        generalize a.tmod b = r at *
        by_cases hneg : b < 0
        · have e3 : wrap64 (-b) = -b := w64 (by omega) (by omega)
          have e4 : wrap64 (-(-b)) = b := by rw [Int.neg_neg]; exact w64 (by omega) (by omega)
          simp only [if_pos hneg, if_true, e3, e4]
          rw [if_pos (by omega), if_pos (by omega)]
          by_cases hp : a ≥ 0
          · rw [if_pos hp, if_pos (r2 hp)]
          · rw [if_neg hp, if_pos (by omega)]; simp; exact r3 (by omega)
        · have e3 : wrap64 (-b) = -b := w64 (by omega) (by omega)
          simp only [if_neg hneg, if_true, e3]
          rw [if_pos (by omega), if_pos (by omega)]
          by_cases hp : a ≥ 0
          · rw [if_pos hp, if_pos (r2 hp)]
          · rw [if_neg hp, if_pos (by omega)]; simp; exact r3 (by omega)

theorem byone_ev (a : Int) (ha : -9223372036854775808 ≤ a ∧ a ≤ 9223372036854775807) : Ev (fun k => quarterdecklaw01_WordByOne.f k a) true := by
  unfold quarterdecklaw01_WordByOne.f
  refine Ev.bind awake_ev ?_
  have d1 : Div.divI a 1 = (a, 0) := by unfold Div.divI; rw [if_neg (by omega), Int.tdiv_one, w64 ha.1 ha.2]
  have d2 : Div.divI a (-1) = (wrap64 (-a), 0) := by unfold Div.divI; rw [if_neg (by omega), Int.tdiv_neg, Int.tdiv_one]
  have d3 : Div.divI a 0 = (0, 3) := by unfold Div.divI; rw [if_pos rfl]
  simp only [div_eq, Option.bind_some, d1, d2, d3, if_true]
  by_cases h : a = 0
  · have d4 : Div.divI a a = (0, 3) := by unfold Div.divI; rw [if_pos h]
    simp only [d4, if_pos h, if_true]; exact Ev.now _
  · have d4 : Div.divI a a = (1, 0) := by unfold Div.divI; rw [if_neg h, Int.tdiv_self h, w64 (by omega) (by omega)]
    simp only [d4, if_neg h]; exact Ev.now _
end Go.Proofs.Ytbbenjdbdnhkfaa.PureW

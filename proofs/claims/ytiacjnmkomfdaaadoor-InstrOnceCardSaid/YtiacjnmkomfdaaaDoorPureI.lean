/-
  Plain lemmas on the printed functions of chapter 04: an instruction as bytes and back, a program as bytes and back. No program in sight.
  Conditions: bytes are 0 to 255 where a lemma says so.
-/
import Derived.Test.YtiacjnmkomfdaaaDoorPureWI
import Derived.Test.YtiacjnmkomfdaaaDoorPr8
import Derived.Lib.Zigzag
namespace Go.Proofs.YtiacjnmkomfdaaaDoor.PureI
open Go.RowKit Go.Proofs.YtiacjnmkomfdaaaDoor.Pr Go.Proofs.YtiacjnmkomfdaaaDoorW.PrintWords Go.Proofs.YtiacjnmkomfdaaaDoorW.PrintLast Go.Proofs.YtiacjnmkomfdaaaDoorW.PrintMore Go.Proofs.YtiacjnmkomfdaaaDoor.Instr Go.Proofs.YtiacjnmkomfdaaaDoor.InstrGet Go.Proofs.YtiacjnmkomfdaaaDoor.RefGet Go.Proofs.YtiacjnmkomfdaaaDoor.PureWI
set_option linter.unusedSimpArgs false

abbrev S := S23
theorem xor_zero (x : Int) (h0 : -9223372036854775808 ≤ x) (h1 : x ≤ 9223372036854775807) : Go.bits .xor .i64 x 0 = x := by
  show IntKind.i64.wrap ((BitVec.ofInt 64 x ^^^ BitVec.ofInt 64 0).toNat : Int) = _
  rw [show BitVec.ofInt 64 0 = 0#64 from rfl, BitVec.xor_zero, BitVec.toNat_ofInt, IntKind.wrap_i64]
  have : ((2 ^ 64 : Nat) : Int) = 18446744073709551616 := by decide
  rw [this]
  omega
theorem xor_m1 (x : Int) (h0 : -9223372036854775808 ≤ x) (h1 : x ≤ 9223372036854775807) : Go.bits .xor .i64 x (-1) = -x - 1 := by
  show IntKind.i64.wrap ((BitVec.ofInt 64 x ^^^ BitVec.ofInt 64 (-1)).toNat : Int) = _
  have e1 : (BitVec.ofInt 64 (-1)).toNat = 2 ^ 64 - 1 := by decide
  have e2 : (BitVec.ofInt 64 x).toNat < 2 ^ 64 := BitVec.isLt _
  rw [BitVec.toNat_xor, e1, Nat.xor_comm, Lib.xor_ones64 _ e2, BitVec.toNat_ofInt, IntKind.wrap_i64]
  have : ((2 ^ 64 : Nat) : Int) = 18446744073709551616 := by decide
  rw [this]
  omega
theorem and_one (y : Int) : Go.bits .and .i64 y 1 = y % 2 := by
  have h : (BitVec.ofInt 64 y &&& BitVec.ofInt 64 1).toNat = (y % 2).toNat := by
    rw [BitVec.toNat_and, BitVec.toNat_ofInt, BitVec.toNat_ofInt]
    rw [show ((1 : Int) % ((2 ^ 64 : Nat) : Int)).toNat = 2 ^ 1 - 1 by decide, Nat.and_two_pow_sub_one_eq_mod]
    have : ((2 ^ 64 : Nat) : Int) = 18446744073709551616 := by decide
    rw [this]
    omega
  show IntKind.i64.wrap ((BitVec.ofInt 64 y &&& BitVec.ofInt 64 1).toNat : Int) = _
  rw [h, IntKind.wrap_i64]
  omega

/-- A place of either sign as a number, and back. -/
def zig (b : Int) : Int := if b < 0 then -2 * b - 1 else 2 * b
def zag (n : Int) : Int := if n % 2 = 1 then -((n + 1) / 2) else n / 2
theorem zag_zig (b : Int) : zag (zig b) = b := by unfold zag zig; split <;> split <;> omega
theorem zig_zag (n : Int) (h : 0 ≤ n) : zig (zag n) = n := by unfold zag zig; split <;> split <;> omega
theorem zig_bits (b : Int) (h0 : -549755813888 ≤ b) (h1 : b ≤ 549755813888) : Go.bits .xor .i64 (wrap64 (b * 2)) (b / 9223372036854775808) = zig b := by
  rw [w64 (by omega) (by omega)]
  unfold zig
  by_cases hb : b < 0
  · rw [if_pos hb, show b / 9223372036854775808 = -1 by omega, xor_m1 _ (by omega) (by omega)]
    omega
  · rw [if_neg hb, show b / 9223372036854775808 = 0 by omega, xor_zero _ (by omega) (by omega)]
    omega
theorem unzig_eq (n : Int) (h0 : 0 ≤ n) (h1 : n ≤ 1099511627776) : unzig n = zag n := by
  unfold unzig zag
  rw [and_one]
  by_cases hm : n % 2 = 1
  · rw [if_pos hm, hm, w64 (by omega) (by omega), xor_m1 _ (by omega) (by omega)]
    omega
  · rw [if_neg hm, show n % 2 = 0 by omega, w64 (by omega) (by omega)]
    simp only [Int.neg_zero]
    rw [xor_zero _ (by omega) (by omega)]
theorem unz_eq (n : Int) (h0 : 0 ≤ n) (h1 : n ≤ 1099511627776) : unz n = zag n := by
  unfold unz zag
  rw [Int.tmod_eq_emod_of_nonneg h0]
  by_cases hm : n % 2 = 1
  · rw [if_pos hm, if_pos hm, w64 (x := n + 1) (by omega) (by omega), w64 (x := -(n + 1)) (by omega) (by omega), Int.neg_tdiv, Int.tdiv_eq_ediv_of_nonneg (by omega), w64 (by omega) (by omega)]
  · rw [if_neg hm, if_neg hm, Int.tdiv_eq_ediv_of_nonneg h0, w64 (by omega) (by omega)]

theorem kind0 : ∀ o : Fin 20, kindN o.val 0 = 0 ∨ kindN o.val 0 = 1 := by decide
theorem lohi_all : ∀ k : Fin 5, -549755813888 ≤ (boundsT.getD k.val []).getD 0 0 ∧ (boundsT.getD k.val []).getD 1 0 ≤ 549755813888 := by decide
theorem may_facts {op a b : Int} (h : mayB op a b = true) : 0 ≤ op ∧ op < 20 ∧ 0 ≤ a ∧ a ≤ 3 ∧ -549755813888 ≤ b ∧ b ≤ 549755813888 := by
  unfold mayB at h
  simp only [Bool.and_eq_true, decide_eq_true_eq] at h
  obtain ⟨⟨⟨h0, h1⟩, h2⟩, h3⟩ := h
  have h4 : 0 ≤ a ∧ a ≤ 3 := by
    rcases kind0 ⟨op.toNat, by omega⟩ with hk | hk <;> (simp only at hk; rw [hk] at h2; simp [fitsB, boundsT] at h2; omega)
  have hk := (kind_ok ⟨op.toNat, by omega⟩ ⟨1, by omega⟩).2
  have hh := lohi_all ⟨kindN op.toNat 1, hk⟩
  unfold fitsB at h3
  simp only [Bool.and_eq_true, decide_eq_true_eq] at h3
  simp only at hh
  omega

theorem refmay_at (op a b : Int) : quarterdeckref04_May.f 5 op a b = some (mayB op a b) := by
  unfold quarterdeckref04_May.f
  have r : ∀ x, quarterdeckref04_register.f x = some (decide (0 ≤ x ∧ x < 4)) := by
    intro x
    unfold quarterdeckref04_register.f
    by_cases h : x ≥ 0
    · rw [if_pos h]; simp [h]
    · rw [if_neg h]; simp; omega
  simp only [r, Option.bind_some]
  by_cases ho : 0 ≤ op ∧ op < 20
  · have hc : op = 0 ∨ op = 1 ∨ op = 2 ∨ op = 3 ∨ op = 4 ∨ op = 5 ∨ op = 6 ∨ op = 7 ∨ op = 8 ∨ op = 9 ∨ op = 10 ∨ op = 11 ∨ op = 12 ∨ op = 13 ∨ op = 14 ∨ op = 15 ∨ op = 16 ∨ op = 17 ∨ op = 18 ∨ op = 19 := by omega
    rcases hc with rfl | rfl | rfl | rfl | rfl | rfl | rfl | rfl | rfl | rfl | rfl | rfl | rfl | rfl | rfl | rfl | rfl | rfl | rfl | rfl <;>
    (simp [quarterdeckref04_May.j0, quarterdeckref04_May.j1, quarterdeckref04_May.j2, mayB, fitsB, kindN, kindsT, boundsT]
     repeat' split
     all_goals first | omega | (simp; done) | (simp; omega) | (rw [Bool.eq_iff_iff]; simp; omega) | (simp_all; done) | (simp_all; first | omega | (intros; omega) | (rw [Bool.eq_iff_iff]; simp; omega)))
  · have hm : mayB op a b = false := by
      rw [Bool.eq_false_iff]
      intro h
      have := may_facts h
      omega
    rw [hm]
    have n : ∀ k : Int, 0 ≤ k → k < 20 → ¬ op = k := by omega
    simp [quarterdeckref04_May.j0, quarterdeckref04_May.j1, quarterdeckref04_May.j2, n 0, n 1, n 2, n 3, n 4, n 5, n 6, n 7, n 8, n 9, n 10, n 11, n 12, n 13, n 14, n 15, n 16, n 17, n 18, n 19]
theorem refmay_ev (op a b : Int) : Ev (fun k => quarterdeckref04_May.f k op a b) (mayB op a b) := Ev.of (fun k => quarterdeckref04_May.mono op a b k) (refmay_at op a b)

/-! ### an instruction as bytes -/
def putI (s : S) : List Int × Int := if mayB s.f0 s.f1 s.f2 = true then (digits s.f0.toNat ++ (digits s.f1.toNat ++ digits (zig s.f2).toNat), 0) else ([], 1)
theorem zig_range (b : Int) (h0 : -549755813888 ≤ b) (h1 : b ≤ 549755813888) : 0 ≤ zig b ∧ zig b ≤ 1099511627776 := by unfold zig; split <;> omega
theorem putall3 {op a z : Int} (h0 : 0 ≤ op) (h1 : op < 20) (h2 : 0 ≤ a) (h3 : a ≤ 3) (h4 : 0 ≤ z) (h5 : z ≤ 1099511627776) : putAllS [op, a, z] [] = (digits op.toNat ++ (digits a.toNat ++ digits z.toNat), 0) := by
  have e : ∀ x : Int, 0 ≤ x → x ≤ 1099511627776 → putS x = (digits x.toNat, 0) := fun x h h' => by unfold putS; rw [if_pos ⟨h, h'⟩]
  simp only [putAllS, e op h0 (by omega), e a h2 (by omega), e z h4 h5, if_true, List.nil_append, List.append_assoc]
theorem iput_ev (s : S) : Ev (fun k => instr_Put.f k s.f0 s.f1 s.f2) (putI s) := by
  unfold instr_Put.f putI
  simp only [instr_May.f, Option.bind_some]
  cases hm : mayB s.f0 s.f1 s.f2
  · simp only [Bool.false_eq_true, if_false]; exact Ev.now _
  · simp only [if_true]
    obtain ⟨h0, h1, h2, h3, h4, h5⟩ := may_facts hm
    have hz := zig_range s.f2 h4 h5
    rw [zig_bits s.f2 h4 h5]
    refine Ev.bind (putall_ev [s.f0, s.f1, zig s.f2] (by simp)) ?_
    rw [putall3 h0 h1 h2 h3 hz.1 hz.2]
    exact Ev.now _
theorem refiput_ev (s : S) : Ev (fun k => quarterdeckref04_Put.f k s.f0 s.f1 s.f2) (putI s) := by
  unfold quarterdeckref04_Put.f putI
  refine Ev.bind (refmay_ev s.f0 s.f1 s.f2) ?_
  cases hm : mayB s.f0 s.f1 s.f2
  · simp only [Bool.false_eq_true, if_false]; exact Ev.now _
  · simp only [if_true]
    obtain ⟨h0, h1, h2, h3, h4, h5⟩ := may_facts hm
    have hz := zig_range s.f2 h4 h5
    by_cases hn : s.f2 < 0
    · simp only [if_pos hn]
      rw [w64 (x := -2 * s.f2) (by omega) (by omega), w64 (by omega) (by omega), show -2 * s.f2 - 1 = zig s.f2 by unfold zig; rw [if_pos hn]]
      refine Ev.bind (refputall_ev [s.f0, s.f1, zig s.f2] (by simp)) ?_
      rw [putall3 h0 h1 h2 h3 hz.1 hz.2]
      exact Ev.now _
    · simp only [if_neg hn]
      rw [w64 (by omega) (by omega), show 2 * s.f2 = zig s.f2 by unfold zig; rw [if_neg hn]]
      refine Ev.bind (refputall_ev [s.f0, s.f1, zig s.f2] (by simp)) ?_
      rw [putall3 h0 h1 h2 h3 hz.1 hz.2]
      exact Ev.now _
theorem putI_err (s : S) : (putI s).2 = 0 ∨ (putI s).2 = 1 := by unfold putI; split <;> simp
theorem putI_may {s : S} (h : (putI s).2 = 0) : mayB s.f0 s.f1 s.f2 = true := by
  unfold putI at h
  cases hm : mayB s.f0 s.f1 s.f2
  · rw [hm] at h; simp at h
  · rfl
theorem putI_len (s : S) : (putI s).1.length ≤ 18 := by
  unfold putI
  by_cases hm : mayB s.f0 s.f1 s.f2 = true
  · rw [if_pos hm]
    obtain ⟨h0, h1, h2, h3, h4, h5⟩ := may_facts hm
    have hz := zig_range s.f2 h4 h5
    have l1 := digits_len6 (n := s.f0.toNat) (by omega)
    have l2 := digits_len6 (n := s.f1.toNat) (by omega)
    have l3 := digits_len6 (n := (zig s.f2).toNat) (by omega)
    simp only [List.length_append]
    omega
  · rw [if_neg hm]; simp
theorem putI_pos {s : S} (h : (putI s).2 = 0) : 0 < (putI s).1.length := by
  unfold putI
  rw [if_pos (putI_may h)]
  have l1 := digits_pos s.f0.toNat
  simp only [List.length_append]
  omega
theorem putI_bytes (s : S) : Bytes (putI s).1 := by
  unfold putI
  split
  · intro x hx
    simp only [List.mem_append] at hx
    rcases hx with hx | hx | hx
    · exact digits_bytes _ x hx
    · exact digits_bytes _ x hx
    · exact digits_bytes _ x hx
  · intro x hx; simp at hx

theorem awake_ev : Ev (fun k => quarterdecklaw04_awake.f k) true := by
  unfold quarterdecklaw04_awake.f
  refine Ev.bind (iput_ev ⟨1, 1, -3⟩) ?_
  refine Ev.bind (iput_ev ⟨19, 0, 2⟩) ?_
  have e1 : putI ⟨1, 1, -3⟩ = ([1, 1, 5], 0) := by
    unfold putI
    rw [if_pos (by decide)]
    show (digits 1 ++ (digits 1 ++ digits 5), (0 : Int)) = _
    rw [digits_lt (n := 1) (by decide), digits_lt (n := 5) (by decide)]
    rfl
  have e2 : putI ⟨19, 0, 2⟩ = ([19, 0, 4], 0) := by
    unfold putI
    rw [if_pos (by decide)]
    show (digits 19 ++ (digits 0 ++ digits 4), (0 : Int)) = _
    rw [digits_lt (n := 19) (by decide), digits_lt (n := 0) (by decide), digits_lt (n := 4) (by decide)]
    rfl
  have s1 : (strOfNums [1, 1, 5]).toList = ([1, 1, 5] : List UInt8) := by rw [Lib.strOfNums_toList]; rfl
  have s2 : (strOfNums [19, 0, 4]).toList = ([19, 0, 4] : List UInt8) := by rw [Lib.strOfNums_toList]; rfl
  simp only [e1, e2, s1, s2, if_true, instr_May.f, Option.bind_some]
  rw [show mayB 0 0 0 = true by decide]
  exact Ev.now _

/-! ### a program as bytes -/
def packS : List S → List Int → List Int × Int
  | [], acc => (acc, 0)
  | s :: l, acc => if (putI s).2 = 0 then packS l (acc ++ (putI s).1) else ([], (putI s).2)
theorem rd_S (l : List S) (i : Nat) : rd_T23 l (i : Int) = l.getD i z23 := by unfold rd_T23; rw [Int.toNat_natCast]
theorem drop_S (l : List S) (i : Nat) (h : i < l.length) : l.drop i = l.getD i z23 :: l.drop (i + 1) := by
  rw [List.drop_eq_getElem_cons h, List.getD_eq_getElem?_getD, List.getElem?_eq_getElem h]; rfl
theorem pack_l0 (d : Nat) : ∀ (l : List S) (acc : List Int) (i : Nat), i + d = l.length → acc.length + 18 * d < 140737488355328 → l.length < 9223372036854775807 →
    Ev (fun k => instr_Pack.l0 k acc l l.length i) (packS (l.drop i) acc) := by
  induction d with
  | zero =>
    intro l acc i hd hb hm
    rw [List.drop_of_length_le (by omega)]
    refine Ev.step (f := fun _ => some (acc, 0)) (fun k => ?_) (Ev.now _)
    simp only [instr_Pack.l0]
    rw [if_neg (by omega)]
  | succ d ih =>
    intro l acc i hd hb hm
    have hlt : i < l.length := by omega
    rw [drop_S l i hlt]
    have h6 := putI_len (l.getD i z23)
    refine Ev.step (f := fun k => (instr_Put.f k (rd_T23 l i).f0 (rd_T23 l i).f1 (rd_T23 l i).f2).bind fun b => if b.2 = 0 then (if acc.length + b.1.length < 140737488355328 then instr_Pack.l0 k (acc ++ b.1) l l.length (wrap64 ((i : Int) + 1)) else none) else some (([] : List Int), b.2)) (fun k => ?_) ?_
    · simp only [instr_Pack.l0]
      rw [if_pos (by omega), if_pos (by omega), if_pos (by omega)]
    · rw [rd_S]
      refine Ev.bind (iput_ev _) ?_
      simp only [packS]
      by_cases h0 : (putI (l.getD i z23)).2 = 0
      · simp only [if_pos h0]
        have : acc.length + (putI (l.getD i z23)).1.length < 140737488355328 := by omega
        simp only [if_pos this]
        rw [w64 (x := (i : Int) + 1) (by omega) (by omega), show (i : Int) + 1 = ((i + 1 : Nat) : Int) by omega]
        exact ih l (acc ++ (putI (l.getD i z23)).1) (i + 1) (by omega) (by rw [List.length_append]; omega) hm
      · simp only [if_neg h0]
        exact Ev.now _
def packAll (l : List S) : List Int × Int := if 64 < l.length then ([], 7) else packS l []
theorem pack_ev (l : List S) : Ev (fun k => instr_Pack.f k l) (packAll l) := by
  unfold instr_Pack.f packAll
  by_cases h : 64 < l.length
  · simp only [if_pos h, if_pos (show (l.length : Int) > 64 by omega)]; exact Ev.now _
  · simp only [if_neg h, if_neg (show ¬ (l.length : Int) > 64 by omega)]
    exact pack_l0 l.length l [] 0 (by omega) (by simp; omega) (by omega)
theorem refpack_l0 (d : Nat) : ∀ (l : List S) (acc : List Int) (i : Nat), i + d = l.length → acc.length + 18 * d < 140737488355328 → l.length < 9223372036854775807 →
    Ev (fun k => quarterdeckref04_Pack.l0 k l acc i) (packS (l.drop i) acc) := by
  induction d with
  | zero =>
    intro l acc i hd hb hm
    rw [List.drop_of_length_le (by omega)]
    refine Ev.step (f := fun _ => some (acc, 0)) (fun k => ?_) (Ev.now _)
    simp only [quarterdeckref04_Pack.l0]
    rw [if_neg (by omega)]
  | succ d ih =>
    intro l acc i hd hb hm
    have hlt : i < l.length := by omega
    rw [drop_S l i hlt]
    have h6 := putI_len (l.getD i z23)
    refine Ev.step (f := fun k => (quarterdeckref04_Put.f k (rd_T23 l i).f0 (rd_T23 l i).f1 (rd_T23 l i).f2).bind fun b => if b.2 = 0 then (if acc.length + b.1.length < 140737488355328 then quarterdeckref04_Pack.l0 k l (acc ++ b.1) (wrap64 ((i : Int) + 1)) else none) else some (([] : List Int), b.2)) (fun k => ?_) ?_
    · simp only [quarterdeckref04_Pack.l0]
      rw [if_pos (by omega), if_pos (by omega)]
    · rw [rd_S]
      refine Ev.bind (refiput_ev _) ?_
      simp only [packS]
      by_cases h0 : (putI (l.getD i z23)).2 = 0
      · simp only [if_pos h0]
        have : acc.length + (putI (l.getD i z23)).1.length < 140737488355328 := by omega
        simp only [if_pos this]
        rw [w64 (x := (i : Int) + 1) (by omega) (by omega), show (i : Int) + 1 = ((i + 1 : Nat) : Int) by omega]
        exact ih l (acc ++ (putI (l.getD i z23)).1) (i + 1) (by omega) (by rw [List.length_append]; omega) hm
      · simp only [if_neg h0]
        exact Ev.now _
theorem refpack_ev (l : List S) : Ev (fun k => quarterdeckref04_Pack.f k l) (packAll l) := by
  unfold quarterdeckref04_Pack.f packAll
  by_cases h : 64 < l.length
  · simp only [if_pos h, if_pos (show (l.length : Int) > 64 by omega)]; exact Ev.now _
  · simp only [if_neg h, if_neg (show ¬ (l.length : Int) > 64 by omega)]
    exact refpack_l0 l.length l [] 0 (by omega) (by simp; omega) (by omega)

theorem puts_ev (op a b : Int) (l : List S) : Ev (fun k => quarterdecklaw04_InstrPuts.f k op a b l) true := by
  unfold quarterdecklaw04_InstrPuts.f
  refine Ev.bind awake_ev ?_
  simp only [if_true]
  by_cases hl : (l.length : Int) > 200
  · rw [decide_eq_true hl]
    exact Ev.step (f := fun _ => some true) (fun k => by simp only [quarterdecklaw04_InstrPuts.j0, if_true]) (Ev.now _)
  · rw [decide_eq_false hl]
    refine Ev.step (fun k => by simp only [quarterdecklaw04_InstrPuts.j0, Bool.false_eq_true, if_false]; rfl) ?_
    refine Ev.bind (iput_ev ⟨op, a, b⟩) (Ev.bind (refiput_ev ⟨op, a, b⟩) (Ev.bind (pack_ev l) (Ev.bind (refpack_ev l) (Ev.bind (refmay_ev op a b) ?_))))
    simp only [if_true, instr_May.f, Option.bind_some, beq_self_eq_true]
    exact Ev.now _

theorem packS_append (a b : List S) (acc : List Int) : packS (a ++ b) acc = if (packS a acc).2 = 0 then packS b (packS a acc).1 else packS a acc := by
  induction a generalizing acc with
  | nil => simp [packS]
  | cons x a ih =>
    simp only [List.cons_append, packS]
    by_cases h : (putI x).2 = 0
    · simp only [if_pos h]; exact ih _
    · simp only [if_neg h]
theorem packS_err (l : List S) (acc : List Int) : (packS l acc).2 = 0 ∨ (packS l acc).2 = 1 := by
  induction l generalizing acc with
  | nil => exact .inl rfl
  | cons x l ih =>
    simp only [packS]
    by_cases h : (putI x).2 = 0
    · rw [if_pos h]; exact ih _
    · rw [if_neg h]; exact putI_err x
theorem packS_acc (l : List S) (acc : List Int) : (packS l acc).2 = (packS l []).2 ∧ ((packS l []).2 = 0 → (packS l acc).1 = acc ++ (packS l []).1) := by
  induction l generalizing acc with
  | nil => exact ⟨rfl, fun _ => by simp [packS]⟩
  | cons x l ih =>
    simp only [packS]
    by_cases h : (putI x).2 = 0
    · simp only [if_pos h, List.nil_append]
      obtain ⟨a1, a2⟩ := ih (acc ++ (putI x).1)
      obtain ⟨b1, b2⟩ := ih (putI x).1
      refine ⟨a1.trans b1.symm, fun h0 => ?_⟩
      rw [a2 (b1.symm.trans h0), b2 (b1.symm.trans h0), List.append_assoc]
    · simp only [if_neg h]
      exact ⟨trivial, fun h0 => absurd h0 h⟩
theorem packS_nil (l : List S) (acc : List Int) (h : (packS l acc).2 ≠ 0) : (packS l acc).1 = [] := by
  induction l generalizing acc with
  | nil => exact absurd rfl h
  | cons x l ih =>
    simp only [packS] at h ⊢
    by_cases h0 : (putI x).2 = 0
    · rw [if_pos h0] at h ⊢; exact ih _ h
    · rw [if_neg h0]
theorem packS_len (l : List S) (acc : List Int) : (packS l acc).1.length ≤ acc.length + 18 * l.length := by
  induction l generalizing acc with
  | nil => simp [packS]
  | cons x l ih =>
    simp only [packS]
    by_cases h : (putI x).2 = 0
    · rw [if_pos h]
      have h1 := ih (acc ++ (putI x).1)
      have h2 := putI_len x
      rw [List.length_append] at h1
      simp only [List.length_cons]
      omega
    · rw [if_neg h]; simp

theorem joins_j0 (a b : List S) (ha : a.length ≤ 100) (hb : b.length ≤ 100) : Ev (fun k => quarterdecklaw04_InstrJoins.j0 k a b true false) true := by
  refine Ev.step (fun k => by simp only [quarterdecklaw04_InstrJoins.j0, Bool.false_eq_true, if_false]; rfl) ?_
  refine Ev.bind (pack_ev a) (Ev.bind (pack_ev b) ?_)
  have c1 : ([] : List S).length + a.length < 5864062014805 := by simp; omega
  have c2 : a.length + b.length < 5864062014805 := by omega
  simp only [if_pos c1, Option.bind_some, List.nil_append, if_pos c2]
  refine Ev.bind (pack_ev (a ++ b)) ?_
  rw [w64 (by omega) (by omega)]
  by_cases hl : (a.length : Int) + b.length > 64
  · simp only [if_pos hl]
    rw [show packAll (a ++ b) = ([], 7) by unfold packAll; rw [if_pos (by rw [List.length_append]; omega)]]
    exact Ev.now _
  · simp only [if_neg hl]
    have e0 : packAll (a ++ b) = packS (a ++ b) [] := by unfold packAll; rw [if_neg (by rw [List.length_append]; omega)]
    have e1 : packAll a = packS a [] := by unfold packAll; rw [if_neg (by omega)]
    have e2 : packAll b = packS b [] := by unfold packAll; rw [if_neg (by omega)]
    rw [e0, e1, e2, packS_append]
    have hx := packS_err a []
    have hy := packS_err b []
    have hac := packS_acc b (packS a []).1
    by_cases h1 : (packS a []).2 = 0
    · simp only [if_pos h1]
      by_cases h2 : (packS b []).2 = 0
      · simp only [if_pos h2]
        rw [if_pos (hac.1.trans h2)]
        have l1 := packS_len a []
        have l2 := packS_len b []
        have hs : (strOfNums (packS a []).1).size + (strOfNums (packS b []).1).size ≤ 9223372036854775807 := by
          rw [strOfNums_size, strOfNums_size]
          simp only [List.length_nil] at l1 l2
          omega
        rw [if_pos hs, hac.2 h2]
        have e : (strOfNums ((packS a []).1 ++ (packS b []).1)).toList = (strOfNums (packS a []).1 ++ strOfNums (packS b []).1).toList := by
          congr 1
          apply ByteArray.ext
          rw [ByteArray.data_append]
          simp [strOfNums]
        rw [e, beq_self_eq_true]
        exact Ev.now _
      · simp only [if_neg h2]
        have h3 : (packS b (packS a []).1).2 = 1 := by rw [hac.1]; omega
        rw [h3]
        exact Ev.now _
    · simp only [if_neg h1]
      have h3 : (packS a []).2 = 1 := by omega
      rw [h3]
      exact Ev.now _
theorem joins_ev (a b : List S) : Ev (fun k => quarterdecklaw04_InstrJoins.f k a b) true := by
  unfold quarterdecklaw04_InstrJoins.f
  refine Ev.bind awake_ev ?_
  simp only [if_true]
  have stop : Ev (fun k => quarterdecklaw04_InstrJoins.j0 k a b true true) true := Ev.step (f := fun _ => some true) (fun k => by simp only [quarterdecklaw04_InstrJoins.j0, if_true]) (Ev.now _)
  by_cases ha : (a.length : Int) > 100
  · simp only [if_pos ha]; exact stop
  · simp only [if_neg ha]
    by_cases hb : (b.length : Int) > 100
    · rw [decide_eq_true hb]; exact stop
    · rw [decide_eq_false hb]; exact joins_j0 a b (by omega) (by omega)
end Go.Proofs.YtiacjnmkomfdaaaDoor.PureI

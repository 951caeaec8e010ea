/-
  Plain lemmas on the printed functions of chapter 04: an instruction got out of bytes, and a program. No program in sight.
  Conditions: bytes are 0 to 255 where a lemma says so.
-/
import Derived.Test.YtiacjnmkomfdaaaDoorPureI
namespace Go.Proofs.YtiacjnmkomfdaaaDoor.PureI
open Go.RowKit Go.Proofs.YtiacjnmkomfdaaaDoor.Pr Go.Proofs.YtiacjnmkomfdaaaDoorW.PrintWords Go.Proofs.YtiacjnmkomfdaaaDoorW.PrintLast Go.Proofs.YtiacjnmkomfdaaaDoorW.PrintMore Go.Proofs.YtiacjnmkomfdaaaDoor.Instr Go.Proofs.YtiacjnmkomfdaaaDoor.InstrGet Go.Proofs.YtiacjnmkomfdaaaDoor.RefGet Go.Proofs.YtiacjnmkomfdaaaDoor.PureWI
set_option linter.unusedSimpArgs false

theorem getS_range (b : List Int) (d : Nat) : ∀ (i : Nat) (n : Int), 0 ≤ n → (getS b d i n).2.2 = 0 → 0 ≤ (getS b d i n).1 ∧ (getS b d i n).1 ≤ 1099511627776 := by
  induction d with
  | zero => intro i n _ h; simp [getS] at h
  | succ d ih =>
    intro i n hn h
    by_cases hl : b.length ≤ i
    · simp [getS, hl] at h
    · simp only [getS, if_neg hl] at h ⊢
      have hm : 0 ≤ b.getD i 0 % 128 := Int.emod_nonneg _ (by omega)
      have hg := next_ge n (b.getD i 0 % 128) i hn hm
      by_cases hge : 128 ≤ b.getD i 0
      · simp only [if_pos hge] at h ⊢
        exact ih (i + 1) _ hg h
      · simp only [if_neg hge] at h ⊢
        by_cases hz : (b.getD i 0 = 0 ∧ 0 < i) ∨ ¬ (n + b.getD i 0 % 128 * 2 ^ (7 * i) ≤ 1099511627776)
        · rw [if_pos hz] at h; simp at h
        · rw [if_neg hz]
          refine ⟨hg, ?_⟩
          rcases Classical.em (n + b.getD i 0 % 128 * 2 ^ (7 * i) ≤ 1099511627776) with h | h
          · exact h
          · exact absurd (.inr h) hz

/-- So many numbers out of bytes, from a place on: the numbers, where the next ones begin, and what went wrong. -/
def nums3 (b : List Int) : Nat → List Int → Nat → List Int × Nat × Int
  | 0, xs, at_ => (xs, at_, 0)
  | d + 1, xs, at_ => if (getS (b.drop at_) 6 0 0).2.2 = 0 then nums3 b d (xs ++ [(getS (b.drop at_) 6 0 0).1]) (at_ + (getS (b.drop at_) 6 0 0).2.1.toNat) else ([], 0, (getS (b.drop at_) 6 0 0).2.2)
def finI (r : List Int × Nat × Int) : Int × Int × Int × Int × Int :=
  if r.2.2 = 0 then (if mayB (r.1.getD 0 0) (r.1.getD 1 0) (zag (r.1.getD 2 0)) = true then (r.1.getD 0 0, r.1.getD 1 0, zag (r.1.getD 2 0), (r.2.1 : Int), 0) else (0, 0, 0, 0, 2)) else (0, 0, 0, 0, r.2.2)
/-- The instruction that bytes begin with. -/
def getI (b : List Int) : Int × Int × Int × Int × Int := finI (nums3 b 3 [] 0)

theorem getD_range (xs : List Int) (h : ∀ x ∈ xs, 0 ≤ x ∧ x ≤ 1099511627776) (i : Nat) : 0 ≤ xs.getD i 0 ∧ xs.getD i 0 ≤ 1099511627776 := by
  rw [List.getD_eq_getElem?_getD]
  cases hi : xs[i]? with
  | none => simp
  | some x => exact h x (List.mem_of_getElem? hi)
theorem snoc_range {xs : List Int} {x : Int} (h : ∀ x ∈ xs, 0 ≤ x ∧ x ≤ 1099511627776) (hx : 0 ≤ x ∧ x ≤ 1099511627776) : ∀ y ∈ xs ++ [x], 0 ≤ y ∧ y ≤ 1099511627776 := by
  intro y hy
  rcases List.mem_append.mp hy with hy | hy
  · exact h y hy
  · rw [List.mem_singleton.mp hy]; exact hx

theorem getF_ev (b : List Int) (hb : Bytes b) (hl : b.length < 4611686018427387904) (d : Nat) : ∀ (xs : List Int) (at_ : Nat), at_ ≤ b.length → (∀ x ∈ xs, 0 ≤ x ∧ x ≤ 1099511627776) →
    Ev (fun k => getF (fun l => word_Get.f k l) b d xs at_) (finI (nums3 b d xs at_)) := by
  induction d with
  | zero =>
    intro xs at_ ha hx
    have hr := getD_range xs hx 2
    refine Ev.congr (f := fun _ => some (finI (xs, at_, 0))) (fun k => ?_) (Ev.now _)
    unfold getF finF finI
    rw [unzig_eq _ hr.1 hr.2, if_pos rfl]
    split <;> rfl
  | succ d ih =>
    intro xs at_ ha hx
    refine Ev.congr (f := fun k => (word_Get.f k (b.drop at_)).bind fun g => if g.2.2 = 0 then getF (fun l => word_Get.f k l) b d (xs ++ [g.1]) (wrap64 ((at_ : Int) + g.2.1)) else some (0, 0, 0, 0, g.2.2)) (fun k => ?_) ?_
    · conv => lhs; unfold getF
      rw [if_pos ⟨by omega, by omega⟩, Int.toNat_natCast]
    · refine Ev.bind (get_ev (b.drop at_) (hb.drop _)) ?_
      have hk := getS_k (b.drop at_) 6 0 0
      have hr := getS_range (b.drop at_) 6 0 0 (by omega)
      simp only [nums3]
      by_cases h0 : (getS (b.drop at_) 6 0 0).2.2 = 0
      · simp only [if_pos h0]
        have h1 := hk h0
        rw [List.length_drop] at h1
        rw [w64 (by omega) (by omega), show (at_ : Int) + (getS (b.drop at_) 6 0 0).2.1 = ((at_ + (getS (b.drop at_) 6 0 0).2.1.toNat : Nat) : Int) by omega]
        exact ih _ _ (by omega) (snoc_range hx (hr h0))
      · simp only [if_neg h0]
        unfold finI
        simp only [if_neg h0]
        exact Ev.now _
theorem iget_ev (b : List Int) (hb : Bytes b) (hl : b.length < 4611686018427387904) : Ev (fun k => instr_Get.f k b) (getI b) := getF_ev b hb hl 3 [] 0 (by omega) (by simp)

theorem getR_ev (b : List Int) (hb : Bytes b) (hl : b.length < 4611686018427387904) (d : Nat) : ∀ (xs : List Int) (at_ : Nat), at_ ≤ b.length → (∀ x ∈ xs, 0 ≤ x ∧ x ≤ 1099511627776) →
    Ev (fun k => getR (fun l => quarterdeckref01_Get.f k l) (fun a b c => quarterdeckref04_May.f k a b c) b d xs at_) (finI (nums3 b d xs at_)) := by
  induction d with
  | zero =>
    intro xs at_ ha hx
    have hr := getD_range xs hx 2
    unfold getR finR finI nums3
    rw [unz_eq _ hr.1 hr.2]
    refine Ev.bind (refmay_ev _ _ _) ?_
    simp only [if_true]
    cases mayB (xs.getD 0 0) (xs.getD 1 0) (zag (xs.getD 2 0))
    · exact Ev.now _
    · exact Ev.now _
  | succ d ih =>
    intro xs at_ ha hx
    refine Ev.congr (f := fun k => (quarterdeckref01_Get.f k (b.drop at_)).bind fun g => if g.2.2 = 0 then getR (fun l => quarterdeckref01_Get.f k l) (fun a b c => quarterdeckref04_May.f k a b c) b d (xs ++ [g.1]) (wrap64 ((at_ : Int) + g.2.1)) else some (0, 0, 0, 0, g.2.2)) (fun k => ?_) ?_
    · conv => lhs; unfold getR
      rw [if_pos ⟨by omega, by omega⟩, Int.toNat_natCast]
    · refine Ev.bind (refget_ev (b.drop at_) (hb.drop _)) ?_
      have hk := getS_k (b.drop at_) 6 0 0
      have hr := getS_range (b.drop at_) 6 0 0 (by omega)
      simp only [nums3]
      by_cases h0 : (getS (b.drop at_) 6 0 0).2.2 = 0
      · simp only [if_pos h0]
        have h1 := hk h0
        rw [List.length_drop] at h1
        rw [w64 (by omega) (by omega), show (at_ : Int) + (getS (b.drop at_) 6 0 0).2.1 = ((at_ + (getS (b.drop at_) 6 0 0).2.1.toNat : Nat) : Int) by omega]
        exact ih _ _ (by omega) (snoc_range hx (hr h0))
      · simp only [if_neg h0]
        unfold finI
        simp only [if_neg h0]
        exact Ev.now _
theorem refiget_ev (b : List Int) (hb : Bytes b) (hl : b.length < 4611686018427387904) : Ev (fun k => quarterdeckref04_Get.f k b) (getI b) := getR_ev b hb hl 3 [] 0 (by omega) (by simp)

theorem nums3_k (b : List Int) (d : Nat) : ∀ (xs : List Int) (at_ : Nat), at_ ≤ b.length → (nums3 b d xs at_).2.2 = 0 → at_ + d ≤ (nums3 b d xs at_).2.1 ∧ (nums3 b d xs at_).2.1 ≤ b.length := by
  induction d with
  | zero => intro xs at_ ha _; simp only [nums3]; omega
  | succ d ih =>
    intro xs at_ ha h
    simp only [nums3] at h ⊢
    have hk := getS_k (b.drop at_) 6 0 0
    by_cases h0 : (getS (b.drop at_) 6 0 0).2.2 = 0
    · simp only [if_pos h0] at h ⊢
      have h1 := hk h0
      rw [List.length_drop] at h1
      have := ih _ _ (by omega) h
      omega
    · simp only [if_neg h0] at h; exact absurd h h0
theorem getI_nums {b : List Int} (h : (getI b).2.2.2.2 = 0) : (nums3 b 3 [] 0).2.2 = 0 ∧ mayB (getI b).1 (getI b).2.1 (getI b).2.2.1 = true ∧ (getI b).2.2.2.1 = ((nums3 b 3 [] 0).2.1 : Int) ∧
    (getI b).1 = (nums3 b 3 [] 0).1.getD 0 0 ∧ (getI b).2.1 = (nums3 b 3 [] 0).1.getD 1 0 ∧ (getI b).2.2.1 = zag ((nums3 b 3 [] 0).1.getD 2 0) := by
  unfold getI finI at h ⊢
  generalize nums3 b 3 [] 0 = r at *
  by_cases h0 : r.2.2 = 0
  · rw [if_pos h0] at h ⊢
    cases hm : mayB (r.1.getD 0 0) (r.1.getD 1 0) (zag (r.1.getD 2 0))
    · rw [hm] at h; simp at h
    · exact ⟨h0, hm, rfl, rfl, rfl, rfl⟩
  · rw [if_neg h0] at h; exact absurd h h0
theorem getI_k {b : List Int} (h : (getI b).2.2.2.2 = 0) : 1 ≤ (getI b).2.2.2.1 ∧ (getI b).2.2.2.1 ≤ b.length := by
  obtain ⟨h0, _, h1, _⟩ := getI_nums h
  have := nums3_k b 3 [] 0 (by omega) h0
  rw [h1]
  omega

def finU (acc : List S) : List S × Int := if 64 < acc.length then ([], 7) else (acc, 0)
/-- The program that bytes are. -/
def unpackS : Nat → List Int → List S → List S × Int
  | 0, _, acc => finU acc
  | d + 1, b, acc => if b.length = 0 then finU acc else if (getI b).2.2.2.2 = 0 then unpackS d (b.drop (getI b).2.2.2.1.toNat) (acc ++ [⟨(getI b).1, (getI b).2.1, (getI b).2.2.1⟩]) else ([], (getI b).2.2.2.2)
theorem unpack_l0 (d : Nat) : ∀ (b : List Int) (acc : List S), Bytes b → b.length ≤ d → acc.length + b.length < 5864062014805 → Ev (fun k => instr_Unpack.l0 k b acc) (unpackS d b acc) := by
  induction d with
  | zero =>
    intro b acc hb hd ha
    refine Ev.step (f := fun _ => some (finU acc)) (fun k => ?_) (Ev.now _)
    simp only [instr_Unpack.l0]; rw [if_neg (by omega)]
    unfold finU
    by_cases h : 64 < acc.length
    · rw [if_pos (by omega), if_pos h]
    · rw [if_neg (by omega), if_neg h]
  | succ d ih =>
    intro b acc hb hd ha
    by_cases hl : b.length = 0
    · simp only [unpackS, if_pos hl]
      refine Ev.step (f := fun _ => some (finU acc)) (fun k => ?_) (Ev.now _)
      simp only [instr_Unpack.l0]; rw [if_neg (by omega)]
      unfold finU
      by_cases h : 64 < acc.length
      · rw [if_pos (by omega), if_pos h]
      · rw [if_neg (by omega), if_neg h]
    · simp only [unpackS, if_neg hl]
      refine Ev.step (fun k => by simp only [instr_Unpack.l0]; rw [if_pos (by omega)]) ?_
      refine Ev.bind (iget_ev b hb (by omega)) ?_
      by_cases h0 : (getI b).2.2.2.2 = 0
      · have h1 := getI_k h0
        have c1 : acc.length < 5864062014805 := by omega
        have c2 : 0 ≤ (getI b).2.2.2.1 := by omega
        simp only [if_pos h0, if_pos c1, if_pos c2, if_pos h1.2]
        exact ih _ _ (hb.drop _) (by rw [List.length_drop]; omega) (by rw [List.length_append, List.length_drop, List.length_singleton]; omega)
      · simp only [if_neg h0]; exact Ev.now _
theorem unpack_ev (b : List Int) (hb : Bytes b) (h : b.length < 5864062014805) : Ev (fun k => instr_Unpack.f k b) (unpackS b.length b []) := by
  unfold instr_Unpack.f
  exact unpack_l0 b.length b [] hb (by omega) (by simp only [List.length_nil]; omega)
theorem refunpack_l0 (d : Nat) : ∀ (b : List Int) (acc : List S), Bytes b → b.length ≤ d → acc.length + b.length < 5864062014805 → Ev (fun k => quarterdeckref04_Unpack.l0 k b acc) (unpackS d b acc) := by
  induction d with
  | zero =>
    intro b acc hb hd ha
    refine Ev.step (f := fun _ => some (finU acc)) (fun k => ?_) (Ev.now _)
    simp only [quarterdeckref04_Unpack.l0]; rw [if_neg (by omega)]
    unfold finU
    by_cases h : 64 < acc.length
    · rw [if_pos (by omega), if_pos h]
    · rw [if_neg (by omega), if_neg h]
  | succ d ih =>
    intro b acc hb hd ha
    by_cases hl : b.length = 0
    · simp only [unpackS, if_pos hl]
      refine Ev.step (f := fun _ => some (finU acc)) (fun k => ?_) (Ev.now _)
      simp only [quarterdeckref04_Unpack.l0]; rw [if_neg (by omega)]
      unfold finU
      by_cases h : 64 < acc.length
      · rw [if_pos (by omega), if_pos h]
      · rw [if_neg (by omega), if_neg h]
    · simp only [unpackS, if_neg hl]
      refine Ev.step (fun k => by simp only [quarterdeckref04_Unpack.l0]; rw [if_pos (by omega)]) ?_
      refine Ev.bind (refiget_ev b hb (by omega)) ?_
      by_cases h0 : (getI b).2.2.2.2 = 0
      · have h1 := getI_k h0
        have c1 : acc.length < 5864062014805 := by omega
        have c2 : 0 ≤ (getI b).2.2.2.1 := by omega
        simp only [if_pos h0, if_pos c1, if_pos c2, if_pos h1.2]
        exact ih _ _ (hb.drop _) (by rw [List.length_drop]; omega) (by rw [List.length_append, List.length_drop, List.length_singleton]; omega)
      · simp only [if_neg h0]; exact Ev.now _
theorem refunpack_ev (b : List Int) (hb : Bytes b) (h : b.length < 5864062014805) : Ev (fun k => quarterdeckref04_Unpack.f k b) (unpackS b.length b []) := by
  unfold quarterdeckref04_Unpack.f
  exact refunpack_l0 b.length b [] hb (by omega) (by simp only [List.length_nil]; omega)
theorem unpackS_len (d : Nat) : ∀ (b : List Int) (acc : List S), (unpackS d b acc).1.length ≤ 64 := by
  have hf : ∀ acc : List S, (finU acc).1.length ≤ 64 := by intro acc; unfold finU; split <;> simp; omega
  induction d with
  | zero => intro b acc; exact hf acc
  | succ d ih =>
    intro b acc
    simp only [unpackS]
    split
    · exact hf acc
    · split
      · exact ih _ _
      · simp

theorem isame_l0 (l : List S) (h : l.length < 9223372036854775807) (d : Nat) : ∀ i : Nat, i + d = l.length → Ev (fun k => quarterdeckref04_Same.l0 k l l i) true := by
  induction d with
  | zero =>
    intro i hd
    refine Ev.step (f := fun _ => some true) (fun k => ?_) (Ev.now _)
    simp only [quarterdeckref04_Same.l0]; rw [if_neg (by omega)]
  | succ d ih =>
    intro i hd
    refine Ev.step (f := fun k => quarterdeckref04_Same.l0 k l l ((i + 1 : Nat) : Int)) (fun k => ?_) (ih (i + 1) (by omega))
    simp only [quarterdeckref04_Same.l0]
    rw [if_pos (by omega), if_pos (by omega), if_pos (by omega), if_neg (by simp), w64 (by omega) (by omega)]
    rfl
theorem isame_self (l : List S) (h : l.length < 9223372036854775807) : Ev (fun k => quarterdeckref04_Same.f k l l) true := by
  unfold quarterdeckref04_Same.f
  simp only [if_true]
  exact isame_l0 l h l.length 0 (by omega)

theorem gets_ev (b : List Int) (hw : ∀ x ∈ b, (Lit.int .u8 x).wf = true) : Ev (fun k => quarterdecklaw04_InstrGets.f k b) true := by
  have hb := wf8 hw
  unfold quarterdecklaw04_InstrGets.f
  refine Ev.bind awake_ev ?_
  simp only [if_true]
  by_cases hl : (b.length : Int) > 2000
  · rw [decide_eq_true hl]
    exact Ev.step (f := fun _ => some true) (fun k => by simp only [quarterdecklaw04_InstrGets.j0, if_true]) (Ev.now _)
  · rw [decide_eq_false hl]
    refine Ev.step (fun k => by simp only [quarterdecklaw04_InstrGets.j0, Bool.false_eq_true, if_false]; rfl) ?_
    refine Ev.bind (iget_ev b hb (by omega)) (Ev.bind (refiget_ev b hb (by omega)) (Ev.bind (unpack_ev b hb (by omega)) (Ev.bind (refunpack_ev b hb (by omega)) (Ev.bind (isame_self _ ?_) ?_))))
    · have := unpackS_len b.length b []; omega
    · simp only [if_true, beq_self_eq_true, Bool.and_self, Bool.true_and]
      exact Ev.now _

/-! ### what was put is got -/
theorem nums3_step (b : List Int) (d : Nat) (xs : List Int) (at_ q : Nat) (rest : List Int) (hq : q ≤ 1099511627776) (h : b.drop at_ = digits q ++ rest) :
    nums3 b (d + 1) xs at_ = nums3 b d (xs ++ [(q : Int)]) (at_ + (digits q).length) := by
  simp only [nums3]
  rw [h, get_digits q hq rest]
  simp
theorem get_put (s : S) (rest : List Int) (h : (putI s).2 = 0) : getI ((putI s).1 ++ rest) = (s.f0, s.f1, s.f2, ((putI s).1.length : Int), 0) := by
  have hm := putI_may h
  obtain ⟨h0, h1, h2, h3, h4, h5⟩ := may_facts hm
  have hz := zig_range s.f2 h4 h5
  have e : (putI s).1 = digits s.f0.toNat ++ (digits s.f1.toNat ++ digits (zig s.f2).toNat) := by unfold putI; rw [if_pos hm]
  rw [e]
  unfold getI
  rw [nums3_step _ 2 [] 0 s.f0.toNat (digits s.f1.toNat ++ (digits (zig s.f2).toNat ++ rest)) (by omega) (by simp)]
  rw [nums3_step _ 1 _ _ s.f1.toNat (digits (zig s.f2).toNat ++ rest) (by omega) (by simp)]
  rw [nums3_step _ 0 _ _ (zig s.f2).toNat rest (by omega) (by
    rw [Nat.zero_add, List.append_assoc, List.append_assoc, ← List.append_assoc, ← List.length_append, List.drop_left])]
  unfold nums3 finI
  simp only [if_true, List.nil_append, List.cons_append, List.getD_cons_zero, List.getD_cons_succ]
  rw [show ((s.f0.toNat : Nat) : Int) = s.f0 by omega, show ((s.f1.toNat : Nat) : Int) = s.f1 by omega, show (((zig s.f2).toNat : Nat) : Int) = zig s.f2 by omega, zag_zig, if_pos hm]
  simp
  omega
theorem packS_bytes (l : List S) : ∀ acc : List Int, Bytes acc → Bytes (packS l acc).1 := by
  induction l with
  | nil => exact fun _ h => h
  | cons x l ih =>
    intro acc h
    simp only [packS]
    split
    · refine ih _ fun y hy => ?_
      rcases List.mem_append.mp hy with hy | hy
      · exact h y hy
      · exact putI_bytes x y hy
    · intro y hy; simp at hy
theorem unpack_back (l : List S) : ∀ (acc : List S) (d : Nat), (packS l []).2 = 0 → (packS l []).1.length ≤ d → unpackS d (packS l []).1 acc = finU (acc ++ l) := by
  induction l with
  | nil =>
    intro acc d _ _
    rw [List.append_nil]
    cases d with
    | zero => rfl
    | succ d => simp [unpackS, packS]
  | cons x l ih =>
    intro acc d h hd
    simp only [packS, List.nil_append] at h hd ⊢
    by_cases h0 : (putI x).2 = 0
    · simp only [if_pos h0] at h hd ⊢
      obtain ⟨a1, a2⟩ := packS_acc l (putI x).1
      have h1 := a1.symm.trans h
      rw [a2 h1] at hd ⊢
      have hp := putI_pos h0
      rw [List.length_append] at hd
      obtain ⟨d, rfl⟩ : ∃ e, d = e + 1 := ⟨d - 1, by omega⟩
      simp only [unpackS]
      rw [if_neg (by rw [List.length_append]; omega), get_put x _ h0]
      simp only [if_true]
      rw [Int.toNat_natCast, List.drop_left, ih _ d h1 (by omega), List.append_assoc]
      rfl
    · simp only [if_neg h0] at h; exact absurd h h0
/-! ### what is got is put as the same bytes -/
theorem take_snoc2 (b : List Int) (i j : Nat) : b.take (i + j) = b.take i ++ (b.drop i).take j := List.take_add
theorem nums3_once (b : List Int) (hb : Bytes b) (at_ : Nat) (d : Nat) (xs : List Int) (h : (nums3 b (d + 1) xs at_).2.2 = 0) :
    ∃ q K : Nat, q ≤ 1099511627776 ∧ nums3 b (d + 1) xs at_ = nums3 b d (xs ++ [(q : Int)]) (at_ + K) ∧ digits q = (b.drop at_).take K := by
  simp only [nums3] at h ⊢
  by_cases h0 : (getS (b.drop at_) 6 0 0).2.2 = 0
  · obtain ⟨n, K, e, _, _, h3, _⟩ := once_facts (b.drop at_) (hb.drop _) h0
    rw [if_pos h0, e]
    have hn : 0 ≤ (n : Int) ∧ (n : Int) ≤ 1099511627776 := by
      rcases Classical.em (0 ≤ (n : Int) ∧ (n : Int) ≤ 1099511627776) with h | h
      · exact h
      · unfold putS at h3; rw [if_neg h] at h3; exact absurd (congrArg Prod.snd h3) (by simp)
    unfold putS at h3
    rw [if_pos hn, Int.toNat_natCast] at h3
    exact ⟨n, K, by omega, by simp, congrArg Prod.fst h3⟩
  · rw [if_neg h0] at h; exact absurd h h0
theorem get_once (b : List Int) (hb : Bytes b) (h : (getI b).2.2.2.2 = 0) : putI ⟨(getI b).1, (getI b).2.1, (getI b).2.2.1⟩ = (b.take (getI b).2.2.2.1.toNat, 0) := by
  obtain ⟨h0, hm, e4, e1, e2, e3⟩ := getI_nums h
  obtain ⟨q1, K1, r1, n1, d1⟩ := nums3_once b hb 0 2 [] h0
  rw [n1] at h0
  obtain ⟨q2, K2, r2, n2, d2⟩ := nums3_once b hb (0 + K1) 1 _ h0
  rw [n2] at h0
  obtain ⟨q3, K3, r3, n3, d3⟩ := nums3_once b hb (0 + K1 + K2) 0 _ h0
  rw [n1, n2, n3] at e1 e2 e3 e4
  simp only [nums3, List.nil_append, List.cons_append, List.getD_cons_zero, List.getD_cons_succ] at e1 e2 e3 e4
  unfold putI
  rw [if_pos hm]
  simp only [e1, e2, e3, e4]
  rw [zig_zag _ (by omega), Int.toNat_natCast, Int.toNat_natCast, Int.toNat_natCast, Int.toNat_natCast, d1, d2, d3]
  simp only [Nat.zero_add, List.drop_zero]
  rw [take_snoc2 b (K1 + K2) K3, take_snoc2 b K1 K2, List.append_assoc]
theorem unpack_once (d : Nat) : ∀ (b : List Int) (acc : List S), Bytes b → b.length ≤ d → (unpackS d b acc).2 = 0 → ∃ l, (unpackS d b acc).1 = acc ++ l ∧ (acc ++ l).length ≤ 64 ∧ packS l [] = (b, 0) := by
  have hf : ∀ acc : List S, (finU acc).2 = 0 → (finU acc).1 = acc ∧ acc.length ≤ 64 := by
    intro acc h
    unfold finU at h ⊢
    split at h
    · simp at h
    · rename_i hn; rw [if_neg hn]; exact ⟨rfl, by omega⟩
  induction d with
  | zero =>
    intro b acc _ hd h
    obtain ⟨h1, h2⟩ := hf acc h
    have hb0 : b = [] := List.eq_nil_of_length_eq_zero (by omega)
    subst hb0
    exact ⟨[], by rw [List.append_nil]; exact h1, by rw [List.append_nil]; exact h2, rfl⟩
  | succ d ih =>
    intro b acc hb hd h
    simp only [unpackS] at h ⊢
    by_cases hl : b.length = 0
    · rw [if_pos hl] at h ⊢
      obtain ⟨h1, h2⟩ := hf acc h
      have hb0 : b = [] := List.eq_nil_of_length_eq_zero hl
      subst hb0
      exact ⟨[], by rw [List.append_nil]; exact h1, by rw [List.append_nil]; exact h2, rfl⟩
    · rw [if_neg hl] at h ⊢
      by_cases h0 : (getI b).2.2.2.2 = 0
      · rw [if_pos h0] at h ⊢
        have hk := getI_k h0
        have ho := get_once b hb h0
        obtain ⟨l, h1, h2, h3⟩ := ih _ _ (hb.drop _) (by rw [List.length_drop]; omega) h
        refine ⟨⟨(getI b).1, (getI b).2.1, (getI b).2.2.1⟩ :: l, by rw [h1, List.append_assoc]; rfl, by simpa [List.append_assoc] using h2, ?_⟩
        simp only [packS, ho, if_true, List.nil_append]
        obtain ⟨a1, a2⟩ := packS_acc l (b.take (getI b).2.2.2.1.toNat)
        rw [h3] at a1 a2
        exact Prod.ext ((a2 rfl).trans (List.take_append_drop _ _)) a1
      · rw [if_neg h0] at h; exact absurd h h0
theorem packS_may (l : List S) : ∀ acc : List Int, (packS l acc).2 = 0 → ∀ x ∈ l, mayB x.f0 x.f1 x.f2 = true := by
  induction l with
  | nil => intro _ _ x hx; simp at hx
  | cons y l ih =>
    intro acc h x hx
    simp only [packS] at h
    by_cases h0 : (putI y).2 = 0
    · rw [if_pos h0] at h
      rcases List.mem_cons.mp hx with rfl | hx
      · exact putI_may h0
      · exact ih _ h x hx
    · rw [if_neg h0] at h; exact absurd h h0
theorem unpackS_nil (d : Nat) : ∀ (b : List Int) (acc : List S), (unpackS d b acc).2 ≠ 0 → (unpackS d b acc).1 = [] := by
  have hf : ∀ acc : List S, (finU acc).2 ≠ 0 → (finU acc).1 = [] := by
    intro acc h
    unfold finU at h ⊢
    split at h
    · rename_i hn; rw [if_pos hn]
    · exact absurd rfl h
  induction d with
  | zero => intro b acc h; exact hf acc h
  | succ d ih =>
    intro b acc h
    simp only [unpackS] at h ⊢
    by_cases hl : b.length = 0
    · rw [if_pos hl] at h ⊢; exact hf acc h
    · rw [if_neg hl] at h ⊢
      by_cases h0 : (getI b).2.2.2.2 = 0
      · rw [if_pos h0] at h ⊢; exact ih _ _ h
      · rw [if_neg h0]
end Go.Proofs.YtiacjnmkomfdaaaDoor.PureI

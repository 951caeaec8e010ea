/-
  The law functions of chapter 05, walked: awake, CpuStores. Conditions: the tables hold what the program's text lays; the arguments lie in memory as told.
-/
import Derived.Test.YtlphgnfjemaliaaDoorCpuS
import Derived.ChangeKeysEq
namespace Go.Proofs.YtlphgnfjemaliaaDoor.CpuL
set_option maxRecDepth 100000
set_option linter.unusedVariables false
open Go.RowKit Go.Proofs.YtlphgnfjemaliaaDoorW.PrintWords Go.Proofs.YtlphgnfjemaliaaDoor.Mem Go.Proofs.YtlphgnfjemaliaaDoor.CpuA Go.Proofs.YtlphgnfjemaliaaDoor.CpuB Go.Proofs.YtlphgnfjemaliaaDoor.CpuC Go.Proofs.YtlphgnfjemaliaaDoor.CpuS Go.Proofs.YtlphgnfjemaliaaDoor.Instr

/-- Four registers are the same as themselves. -/
theorem eq_regs (D : Nat) (a b c d : Int) (W : World) : (Op.equalIn (D + 2) 27 (.agg #[.int .i64 a, .int .i64 b, .int .i64 c, .int .i64 d]) (.agg #[.int .i64 a, .int .i64 b, .int .i64 c, .int .i64 d])).run Tryd.prog W = .ok true W := by
  have hi : (Tryd.prog.info? 3).map (fun i => (i.zero, i.size, i.bytes)) = some (some (.int .i64 0), 1, 8) := by kernel_rfl
  obtain ⟨i, hi, _, _, _⟩ := info_parts hi
  rw [run_equalIn_array W (D + 1) _ _ Tryd.underlying27 hi]
  have he : ∀ x : Int, (Op.equalIn (D + 1) 3 (.int .i64 x) (.int .i64 x)).run Tryd.prog W = .ok true W := fun x => by
    rw [run_equalIn_int W D 3 _ _ x x Tryd.underlying3]
    simp
  have hc : Tryd.prog.cellsOf 3 = 1 := by kernel_rfl
  rw [hc]
  have hr : List.range 4 = [0, 1, 2, 3] := rfl
  rw [hr]
  have hp : ∀ (xs : Array Value) (k : Nat) (v : Value), xs[k]? = some v → (part 3 xs k).run Tryd.prog W = .ok v W := fun xs k v h => run_part_plain W (by kernel_rfl) h
  simp [Op.eqItems, he, hp]

/-- Instructions one behind the other, as cells. -/
def codeCells (xs : List (Int × Int × Int)) : List Value := xs.flatMap fun x => [.int .i64 x.1, .int .i64 x.2.1, .int .i64 x.2.2]
theorem codeCells_at (xs : List (Int × Int × Int)) : ∀ i x, xs[i]? = some x → (codeCells xs)[i * 3]? = some (.int .i64 x.1) ∧ (codeCells xs)[i * 3 + 1]? = some (.int .i64 x.2.1) ∧ (codeCells xs)[i * 3 + 2]? = some (.int .i64 x.2.2) := by
  induction xs with
  | nil => intro i x h; simp at h
  | cons y xs ih =>
    intro i x h
    cases i with
    | zero =>
      simp only [List.getElem?_cons_zero, Option.some.injEq] at h
      subst h
      exact ⟨rfl, rfl, rfl⟩
    | succ i =>
      rw [List.getElem?_cons_succ] at h
      obtain ⟨a, b, c⟩ := ih i x h
      have e : codeCells (y :: xs) = [.int .i64 y.1, .int .i64 y.2.1, .int .i64 y.2.2] ++ codeCells xs := rfl
      rw [e]
      refine ⟨?_, ?_, ?_⟩
      · rw [List.getElem?_append_right (by simp; omega)]; simpa [Nat.add_mul, Nat.succ_mul] using a
      · rw [List.getElem?_append_right (by simp; omega), show (i + 1) * 3 + 1 - [Value.int .i64 y.1, .int .i64 y.2.1, .int .i64 y.2.2].length = i * 3 + 1 by simp; omega]; exact b
      · rw [List.getElem?_append_right (by simp; omega), show (i + 1) * 3 + 2 - [Value.int .i64 y.1, .int .i64 y.2.1, .int .i64 y.2.2].length = i * 3 + 2 by simp; omega]; exact c
theorem codeAt_blk {w : World} {b : Nat} {t : TypeId} {cs : Array Value} (h : w.heap[b]? = some (.cells cs t (0, 0))) (xs : List (Int × Int × Int)) (hcs : cs.toList = codeCells xs) (hl : xs.length ≤ 9223372036854775807) : CodeAt w (some ⟨b, 0, none⟩) xs := by
  refine ⟨hl, fun _ => ⟨_, rfl, fun i x hx => ?_⟩⟩
  obtain ⟨h0, h1, h2⟩ := codeCells_at xs i x hx
  rw [← hcs, Array.getElem?_toList] at h0 h1 h2
  have ea : (⟨b, 0, none⟩ : Addr).add (i * 3) = ⟨b, 0 + i * 3, none⟩ := by unfold Addr.add; split <;> simp_all
  rw [ea, Nat.zero_add]
  exact ⟨(blk_cell h _).trans h0, (blk_cell h _).trans h1, (blk_cell h _).trans h2⟩
theorem codeAt_nil (w : World) : CodeAt w none [] := ⟨by simp, fun h => by simp at h⟩
theorem regsAt_nil (w : World) : RegsAt w none [] := ⟨by simp, fun h => by simp at h⟩
theorem regsAt_one {w : World} {b : Nat} {t : TypeId} {f l : Int} {wr : Bool} (h : w.heap[b]? = some (.cells #[.int .i64 f, .int .i64 l, .bool wr] t (0, 0))) : RegsAt w (some ⟨b, 0, none⟩) [(f, l, wr)] := by
  refine ⟨by simp, fun _ => ⟨_, rfl, fun i x hx => ?_⟩⟩
  cases i with
  | succ i => simp at hx
  | zero =>
    simp only [List.getElem?_cons_zero, Option.some.injEq] at hx
    subst hx
    have ea : (⟨b, 0, none⟩ : Addr).add (0 * 3) = ⟨b, 0, none⟩ := by unfold Addr.add; split <;> simp_all
    rw [ea]
    exact ⟨(blk_cell h 0).trans rfl, (blk_cell h 1).trans rfl, (blk_cell h 2).trans rfl⟩

theorem two_new1 (w : World) (A B : Obj) : ((w.alloc A).alloc B).heap[w.heap.size]? = some A := blk_alloc (blk_new w A) B
theorem two_new2 (w : World) (A B : Obj) : ((w.alloc A).alloc B).heap[w.heap.size + 1]? = some B := by
  have h := blk_new (w.alloc A) B
  rw [alloc_size] at h
  exact h
theorem three_new1 (w : World) (A B C : Obj) : (((w.alloc A).alloc B).alloc C).heap[w.heap.size]? = some A := blk_alloc (two_new1 w A B) C
theorem three_new2 (w : World) (A B C : Obj) : (((w.alloc A).alloc B).alloc C).heap[w.heap.size + 1]? = some B := blk_alloc (two_new2 w A B) C
theorem three_new3 (w : World) (A B C : Obj) : (((w.alloc A).alloc B).alloc C).heap[w.heap.size + 1 + 1]? = some C := by
  have h := blk_new ((w.alloc A).alloc B) C
  rw [alloc_size, alloc_size] at h
  exact h
theorem two_size (w : World) (A B : Obj) : ((w.alloc A).alloc B).heap.size = w.heap.size + 2 := by rw [alloc_size, alloc_size]
theorem cells5 {w : World} {g : Nat} {t : TypeId} {a b c d e : Value} (h : w.heap[g]? = some (.cells #[a, b, c, d, e] t (0, 0))) :
    w.cell? ⟨g, 0, none⟩ = some a ∧ w.cell? ⟨g, 1, none⟩ = some b ∧ w.cell? ⟨g, 2, none⟩ = some c ∧ w.cell? ⟨g, 3, none⟩ = some d ∧ w.cell? ⟨g, 4, none⟩ = some e :=
  ⟨(blk_cell h 0).trans rfl, (blk_cell h 1).trans rfl, (blk_cell h 2).trans rfl, (blk_cell h 3).trans rfl, (blk_cell h 4).trans rfl⟩

def c0 : Core := ⟨0, fun _ => 0⟩
def code1 : List (Int × Int × Int) := [(1, 1, 7), (6, 1, 2)]
def c1 : Core := stepC code1 c0 [] [] 0
theorem aw1 : coreV (stepC code1 c0 [] [] 0) = .agg #[.int .i64 1, .int .i64 0, .int .i64 7, .int .i64 0, .int .i64 0] ∧ outV (stepO code1 c0 [] [] 0) = .agg #[.int .i64 0, .int .i64 (-1), .bool false, .bool false, .int .i64 0] := ⟨by rfl, by rfl⟩
theorem aw2 : coreV (stepC code1 c1 [] [] 0) = .agg #[.int .i64 1, .int .i64 0, .int .i64 7, .int .i64 0, .int .i64 0] ∧ outV (stepO code1 c1 [] [] 0) = .agg #[.int .i64 3, .int .i64 (-1), .bool false, .bool false, .int .i64 0] := ⟨by rfl, by rfl⟩
theorem cv0 : coreV c0 = .agg #[.int .i64 0, .int .i64 0, .int .i64 0, .int .i64 0, .int .i64 0] := rfl
theorem cv1 : coreV c1 = .agg #[.int .i64 1, .int .i64 0, .int .i64 7, .int .i64 0, .int .i64 0] := by rfl

set_option maxHeartbeats 1000000 in
theorem awake_any (w : World) (hG : Glob w) : Calls Tryd.prog 10 #[] w fun e w' => e = .returned (.bool true) ∧ Below w.heap.size w w' := by
  have hS : ∀ W cc, CodeAt W (some ⟨w.heap.size, 0, none⟩) code1 → Glob W → _ := fun W cc hc hg => step_any cc (some ⟨w.heap.size, 0, none⟩) 2 code1 W hc hg none 0 [] none 0 [] 0 (Kd.C_nil _ _) (by simp) (regsAt_nil W)
  have hS1 := fun W => hS W c0
  have hS2 := fun W => hS W c1
  rw [cv0, aw1.1, aw1.2] at hS1
  rw [cv1, aw2.1, aw2.2] at hS2
  have hB0 : ∀ o, Below w.heap.size w (w.alloc o) := fun o => balloc (Below.refl _ _) o
  have hC0 := codeAt_blk (blk_new w (.cells #[.int .i64 1, .int .i64 1, .int .i64 7, .int .i64 6, .int .i64 1, .int .i64 2] 31)) code1 rfl (by simp [code1])
  have HC0 := Lib.hid hC0
  have HB0 := Lib.hid hB0
  have HS1 := Lib.hid hS1
  have HS2 := Lib.hid hS2
  have HG := Lib.hid hG
  clear hS hS1 hS2 hG hB0 hC0
  go_enter Tryd.func10, Tryd.ntmps10
  go_wp2_with fail
  refine (HS1.out _ HC0.out (HG.out.alloc _)).mono ?_
  rintro e w1 ⟨v, rfl, hr, hb⟩
  have HB1 := Lib.hid (btrans (HB0.out _) hb)
  have HC1 := Lib.hid (HC0.out.below hb)
  clear hb hr
  go_wp2_with fail
  refine (HS2.out _ (HC1.out.below (balloc (balloc (Below.refl _ _) _) _)) (HG.out.below (balloc (balloc HB1.out _) _))).mono ?_
  rintro e w2 ⟨v2, rfl, hr2, hb2⟩
  have n1 := Lib.hid (blk_below (two_new1 w1 (.cells #[.int .i64 1, .int .i64 0, .int .i64 7, .int .i64 0, .int .i64 0] 29) (.cells #[.int .i64 0, .int .i64 (-1), .bool false, .bool false, .int .i64 0] 34)) hb2)
  have n2 := Lib.hid (blk_below (two_new2 w1 (.cells #[.int .i64 1, .int .i64 0, .int .i64 7, .int .i64 0, .int .i64 0] 29) (.cells #[.int .i64 0, .int .i64 (-1), .bool false, .bool false, .int .i64 0] 34)) hb2)
  obtain ⟨p0, p1, p2, p3, p4⟩ := cells5 n1.out
  obtain ⟨q0, q1, q2, q3, q4⟩ := cells5 n2.out
  have l1 := blk_lt n1.out
  have l2 := blk_lt n2.out
  have HB2 := Lib.hid (btrans (balloc (balloc HB1.out _) _) hb2)
  clear hb2 hr2
  go_wp2_with fail
  go_ret
  exact ⟨rfl, balloc (balloc HB2.out _) _⟩

/-! ### CpuStores -/
def regs4 (a b c d : Int) : Nat → Int := fun i => if i = 0 then a else if i = 1 then b else if i = 2 then c else if i = 3 then d else 0
def code2 : List (Int × Int × Int) := [(9, 0, 1), (8, 2, 1)]
def rg8 : List Rg := [(0, 8, true)]
theorem wrong8 (a : Int) (md : Bool) (h0 : 0 ≤ a) (h1 : a ≤ 7) : wrongN 8 rg8 a md = 0 := by
  unfold wrongN
  rw [if_neg (by omega), if_pos]
  have hw : wrap64 a = a := by unfold wrap64; omega
  cases md <;> (simp [rg8, Mem.mayB, hasB, hw]; omega)
theorem wrong8_out (a : Int) (md : Bool) (h : a < 0 ∨ 7 < a) : ¬ wrongN 8 rg8 a md = 0 := by
  unfold wrongN
  rw [if_pos (by omega)]
  omega
theorem st1_F (v a : Int) (m : List Int) : stepF code2 ⟨0, regs4 v a 0 0⟩ m rg8 0 = if wrongN m.length rg8 a true = 0 then 0 else 5 := by rfl
theorem st1_ok (v a : Int) (m : List Int) (hm : m.length = 8) (h0 : 0 ≤ a) (h1 : a ≤ 7) :
    coreV (stepC code2 ⟨0, regs4 v a 0 0⟩ m rg8 0) = .agg #[.int .i64 1, .int .i64 v, .int .i64 a, .int .i64 0, .int .i64 0] ∧
    outV (stepO code2 ⟨0, regs4 v a 0 0⟩ m rg8 0) = .agg #[.int .i64 0, .int .i64 (-1), .bool false, .bool false, .int .i64 0] ∧ stepM code2 ⟨0, regs4 v a 0 0⟩ m rg8 0 = m.set a.toNat v := by
  have hF : stepF code2 ⟨0, regs4 v a 0 0⟩ m rg8 0 = 0 := by rw [st1_F, hm, if_pos (wrong8 a true h0 h1)]
  refine ⟨?_, ?_, ?_⟩
  · unfold stepC; rw [if_pos hF]; rfl
  · unfold stepO; rw [if_pos hF]; rfl
  · unfold stepM; rw [if_pos hF]
    show storeV m rg8 a v = _
    unfold storeV
    rw [hm, if_pos (wrong8 a true h0 h1)]
theorem st1_bad (v a : Int) (m : List Int) (hm : m.length = 8) (h : a < 0 ∨ 7 < a) :
    coreV (stepC code2 ⟨0, regs4 v a 0 0⟩ m rg8 0) = .agg #[.int .i64 0, .int .i64 v, .int .i64 a, .int .i64 0, .int .i64 0] ∧
    outV (stepO code2 ⟨0, regs4 v a 0 0⟩ m rg8 0) = .agg #[.int .i64 5, .int .i64 (-1), .bool false, .bool false, .int .i64 0] := by
  have hF : stepF code2 ⟨0, regs4 v a 0 0⟩ m rg8 0 = 5 := by rw [st1_F, hm, if_neg (wrong8_out a true h)]
  refine ⟨?_, ?_⟩
  · unfold stepC; rw [if_neg (by rw [hF]; decide)]; rfl
  · unfold stepO; rw [if_neg (by rw [hF]; decide), hF]; rfl
theorem st2_ok (v a : Int) (m : List Int) (hm : m.length = 8) (h0 : 0 ≤ a) (h1 : a ≤ 7) :
    coreV (stepC code2 ⟨1, regs4 v a 0 0⟩ (m.set a.toNat v) rg8 0) = .agg #[.int .i64 2, .int .i64 v, .int .i64 a, .int .i64 v, .int .i64 0] ∧
    outV (stepO code2 ⟨1, regs4 v a 0 0⟩ (m.set a.toNat v) rg8 0) = .agg #[.int .i64 0, .int .i64 (-1), .bool false, .bool true, .int .i64 v] := by
  have hl : (m.set a.toNat v).length = 8 := by rw [List.length_set]; exact hm
  have hF : stepF code2 ⟨1, regs4 v a 0 0⟩ (m.set a.toNat v) rg8 0 = 0 := by
    show (if wrongN (m.set a.toNat v).length rg8 a false = 0 then (0 : Int) else 5) = 0
    rw [hl, if_pos (wrong8 a false h0 h1)]
  have hv : loadV (m.set a.toNat v) rg8 a = v := by
    unfold loadV rd
    rw [hl, if_pos (wrong8 a false h0 h1), List.getD_eq_getElem?_getD, List.getElem?_set_self (by omega)]
    rfl
  refine ⟨?_, ?_⟩
  · unfold stepC; rw [if_pos hF]
    show Value.agg #[.int .i64 2, .int .i64 v, .int .i64 a, .int .i64 (loadV (m.set a.toNat v) rg8 a), .int .i64 0] = _
    rw [hv]
  · unfold stepO; rw [if_pos hF]
    show Value.agg #[.int .i64 0, .int .i64 (-1), .bool false, .bool true, .int .i64 (loadV (m.set a.toNat v) rg8 a)] = _
    rw [hv]

set_option maxHeartbeats 1000000 in
theorem stores_any (a v : Int) (M : Option Addr) (cm : Nat) (m : List Int) (w : World) (hG : Glob w) (hr : (Kd.int .i64).C w M m.length m) :
    Calls Tryd.prog 3 #[.int .i64 a, .int .i64 v, .slice M m.length cm] w fun e w' => e = .returned (.bool true) ∧ Below w.heap.size w w' := by
  have hA := awake_any w hG
  have HA := Lib.hid hA
  have HG := Lib.hid hG
  have HR := Lib.hid hr
  clear hA hG hr
  by_cases h8 : m.length = 8
  · have d1 : ((m.length : Int) == 8) = true := by simp; omega
    have d2 : ((m.length : Int) != 8) = false := by simp; omega
    by_cases ha : 0 ≤ a ∧ a ≤ 7
    · obtain ⟨k1, k2, k3⟩ := st1_ok v a m h8 ha.1 ha.2
      obtain ⟨k4, k5⟩ := st2_ok v a m h8 ha.1 ha.2
      have hS1 : ∀ W B D, CodeAt W (some ⟨B, 0, none⟩) code2 → RegsAt W (some ⟨D, 0, none⟩) rg8 → Glob W → (Kd.int .i64).C W M m.length m → _ := fun W B D hc hd hg hr => step_any ⟨0, regs4 v a 0 0⟩ (some ⟨B, 0, none⟩) 2 code2 W hc hg M cm m (some ⟨D, 0, none⟩) 1 rg8 0 hr (by omega) hd
      have hS2 : ∀ W B D A2 c2, CodeAt W (some ⟨B, 0, none⟩) code2 → RegsAt W (some ⟨D, 0, none⟩) rg8 → Glob W → (Kd.int .i64).C W A2 (m.set a.toNat v).length (m.set a.toNat v) → _ := fun W B D A2 c2 hc hd hg hr => step_any ⟨1, regs4 v a 0 0⟩ (some ⟨B, 0, none⟩) 2 code2 W hc hg A2 c2 (m.set a.toNat v) (some ⟨D, 0, none⟩) 1 rg8 0 hr (by rw [List.length_set]; omega) hd
      rw [k1, k2, k3, show coreV ⟨0, regs4 v a 0 0⟩ = .agg #[.int .i64 0, .int .i64 v, .int .i64 a, .int .i64 0, .int .i64 0] from rfl] at hS1
      rw [k4, k5, show coreV ⟨1, regs4 v a 0 0⟩ = .agg #[.int .i64 1, .int .i64 v, .int .i64 a, .int .i64 0, .int .i64 0] from rfl] at hS2
      simp only [List.length_set, show code2.length = 2 from rfl, show rg8.length = 1 from rfl] at hS1 hS2
      have HS1 := Lib.hid hS1
      have HS2 := Lib.hid hS2
      have d3 : decide (a < 0) = false := decide_eq_false (by omega)
      have d4 : decide (7 < a) = false := decide_eq_false (by omega)
      clear hS1 hS2 k1 k2 k3 k4 k5 ha h8
      go_enter Tryd.func3, Tryd.ntmps3
      go_wp2_with fail
      refine HA.out.mono ?_
      rintro e w1 ⟨rfl, hb⟩
      have HB1 := Lib.hid hb
      clear hb
      go_wp2_with fail
      have x1 := three_new1 w1 (.cells #[.int .i64 0, .int .i64 8, .bool true] 25) (.cells #[.int .i64 0, .int .i64 v, .int .i64 a, .int .i64 0, .int .i64 0] 29) (.cells #[.int .i64 9, .int .i64 0, .int .i64 1, .int .i64 8, .int .i64 2, .int .i64 1] 31)
      have x2 := three_new2 w1 (.cells #[.int .i64 0, .int .i64 8, .bool true] 25) (.cells #[.int .i64 0, .int .i64 v, .int .i64 a, .int .i64 0, .int .i64 0] 29) (.cells #[.int .i64 9, .int .i64 0, .int .i64 1, .int .i64 8, .int .i64 2, .int .i64 1] 31)
      have x3 := three_new3 w1 (.cells #[.int .i64 0, .int .i64 8, .bool true] 25) (.cells #[.int .i64 0, .int .i64 v, .int .i64 a, .int .i64 0, .int .i64 0] 29) (.cells #[.int .i64 9, .int .i64 0, .int .i64 1, .int .i64 8, .int .i64 2, .int .i64 1] 31)
      have hB3 := balloc (balloc (balloc HB1.out (.cells #[.int .i64 0, .int .i64 8, .bool true] 25)) (.cells #[.int .i64 0, .int .i64 v, .int .i64 a, .int .i64 0, .int .i64 0] 29)) (.cells #[.int .i64 9, .int .i64 0, .int .i64 1, .int .i64 8, .int .i64 2, .int .i64 1] 31)
      refine (HS1.out _ _ _ (codeAt_blk x3 code2 rfl (by decide)) (regsAt_one x1) (HG.out.below hB3) (Kd.C_below HR.out hB3)).mono ?_
      rintro e w2 ⟨u, rfl, hr2, hb2⟩
      have HX1 := Lib.hid (blk_below x1 hb2)
      have HX2 := Lib.hid (blk_below x2 hb2)
      have HX3 := Lib.hid (blk_below x3 hb2)
      have HB2 := Lib.hid (btrans hB3 hb2)
      have HR2 := Lib.hid hr2
      obtain ⟨A2, c2, rfl, _, hC2⟩ := Kd.R_reads hr2
      rw [List.length_set] at hC2
      have HC2 := Lib.hid hC2
      obtain ⟨y0, y1, y2, y3, y4⟩ := cells5 HX2.out
      have ly := blk_lt HX2.out
      clear x1 x2 x3 hB3 hb2 hr2 hC2
      go_wp2_with fail
      have z1 := two_new1 w2 (.cells #[.int .i64 1, .int .i64 v, .int .i64 a, .int .i64 0, .int .i64 0] 29) (.cells #[.int .i64 0, .int .i64 (-1), .bool false, .bool false, .int .i64 0] 34)
      have z2 := two_new2 w2 (.cells #[.int .i64 1, .int .i64 v, .int .i64 a, .int .i64 0, .int .i64 0] 29) (.cells #[.int .i64 0, .int .i64 (-1), .bool false, .bool false, .int .i64 0] 34)
      have hB4 := balloc (balloc (Below.refl w2.heap.size w2) (.cells #[.int .i64 1, .int .i64 v, .int .i64 a, .int .i64 0, .int .i64 0] 29)) (.cells #[.int .i64 0, .int .i64 (-1), .bool false, .bool false, .int .i64 0] 34)
      with_reducible refine (HS2.out _ _ _ _ _ ((codeAt_blk HX3.out code2 rfl (by decide)).below hB4) ((regsAt_one HX1.out).below hB4) (HG.out.below (btrans HB2.out hB4)) (Kd.C_below HC2.out hB4)).mono ?_
      rintro e w3 ⟨u3, rfl, hr3, hb3⟩
      have HZ1 := Lib.hid (blk_below z1 hb3)
      have HZ2 := Lib.hid (blk_below z2 hb3)
      have HB3 := Lib.hid (btrans (btrans HB2.out hB4) hb3)
      obtain ⟨p0, p1, p2, p3, p4⟩ := cells5 HZ1.out
      obtain ⟨q0, q1, q2, q3, q4⟩ := cells5 HZ2.out
      have l1 := blk_lt HZ1.out
      have l2 := blk_lt HZ2.out
      clear z1 z2 hB4 hr3 hb3 y0 y1 y2 y3 y4 ly
      go_wp2_with fail
      go_ret
      exact ⟨rfl, balloc (balloc HB3.out _) _⟩
    · obtain ⟨k1, k2⟩ := st1_bad v a m h8 (by omega)
      have hS1 : ∀ W B D, CodeAt W (some ⟨B, 0, none⟩) code2 → RegsAt W (some ⟨D, 0, none⟩) rg8 → Glob W → (Kd.int .i64).C W M m.length m → _ := fun W B D hc hd hg hr => step_any ⟨0, regs4 v a 0 0⟩ (some ⟨B, 0, none⟩) 2 code2 W hc hg M cm m (some ⟨D, 0, none⟩) 1 rg8 0 hr (by omega) hd
      rw [k1, k2, show coreV ⟨0, regs4 v a 0 0⟩ = .agg #[.int .i64 0, .int .i64 v, .int .i64 a, .int .i64 0, .int .i64 0] from rfl] at hS1
      have HS1 := Lib.hid hS1
      clear hS1 k1 k2 h8
      have hor : (decide (a < 0) = true) ∨ (decide (a < 0) = false ∧ decide (7 < a) = true) := by
        by_cases hn : a < 0
        · exact .inl (decide_eq_true hn)
        · exact .inr ⟨decide_eq_false hn, decide_eq_true (by omega)⟩
      clear ha
      go_enter Tryd.func3, Tryd.ntmps3
      go_wp2_with fail
      refine HA.out.mono ?_
      rintro e w1 ⟨rfl, hb⟩
      have HB1 := Lib.hid hb
      clear hb
      go_wp2_with fail
      have x1 := three_new1 w1 (.cells #[.int .i64 0, .int .i64 8, .bool true] 25) (.cells #[.int .i64 0, .int .i64 v, .int .i64 a, .int .i64 0, .int .i64 0] 29) (.cells #[.int .i64 9, .int .i64 0, .int .i64 1, .int .i64 8, .int .i64 2, .int .i64 1] 31)
      have x2 := three_new2 w1 (.cells #[.int .i64 0, .int .i64 8, .bool true] 25) (.cells #[.int .i64 0, .int .i64 v, .int .i64 a, .int .i64 0, .int .i64 0] 29) (.cells #[.int .i64 9, .int .i64 0, .int .i64 1, .int .i64 8, .int .i64 2, .int .i64 1] 31)
      have x3 := three_new3 w1 (.cells #[.int .i64 0, .int .i64 8, .bool true] 25) (.cells #[.int .i64 0, .int .i64 v, .int .i64 a, .int .i64 0, .int .i64 0] 29) (.cells #[.int .i64 9, .int .i64 0, .int .i64 1, .int .i64 8, .int .i64 2, .int .i64 1] 31)
      have hB3 := balloc (balloc (balloc HB1.out (.cells #[.int .i64 0, .int .i64 8, .bool true] 25)) (.cells #[.int .i64 0, .int .i64 v, .int .i64 a, .int .i64 0, .int .i64 0] 29)) (.cells #[.int .i64 9, .int .i64 0, .int .i64 1, .int .i64 8, .int .i64 2, .int .i64 1] 31)
      refine (HS1.out _ _ _ (codeAt_blk x3 code2 rfl (by decide)) (regsAt_one x1) (HG.out.below hB3) (Kd.C_below HR.out hB3)).mono ?_
      rintro e w2 ⟨u, rfl, hr2, hb2⟩
      have HX2 := Lib.hid (blk_below x2 hb2)
      have HB2 := Lib.hid (btrans hB3 hb2)
      obtain ⟨y0, y1, y2, y3, y4⟩ := cells5 HX2.out
      have ly := blk_lt HX2.out
      have ly2 : w1.heap.size < w2.heap.size := by omega
      clear x1 x2 x3 hB3 hb2 hr2
      have heq : ∀ W, _ := fun W => eq_regs 9997 v a 0 0 W
      simp only [Nat.reduceAdd] at heq
      rcases hor with d3 | ⟨d3, d4⟩
      · go_wp2_with fail
        go_ret
        exact ⟨rfl, balloc (balloc HB2.out _) _⟩
      · go_wp2_with fail
        go_ret
        exact ⟨rfl, balloc (balloc HB2.out _) _⟩
  · have d1 : ((m.length : Int) == 8) = false := by simp; omega
    have d2 : ((m.length : Int) != 8) = true := by simp; omega
    clear h8
    go_enter Tryd.func3, Tryd.ntmps3
    go_wp2_with fail
    refine HA.out.mono ?_
    rintro e w1 ⟨rfl, hb⟩
    have HB1 := Lib.hid hb
    clear hb
    go_wp2_with fail
    go_ret
    exact ⟨rfl, balloc HB1.out _⟩
end Go.Proofs.YtlphgnfjemaliaaDoor.CpuL

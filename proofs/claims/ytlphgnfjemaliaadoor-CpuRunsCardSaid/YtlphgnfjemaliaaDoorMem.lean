/-
  What package mem's inner functions return: has, touch and its closure, told, slices.ContainsFunc over regions.
  Conditions: the regions lie in memory as told.
-/
import Derived.Test.YtlphgnfjemaliaaDoorRows
import Derived.WalkKit
import Derived.WalkSpells
import Derived.WalkLawsBesides
import Derived.LoopTactic
import Derived.Below
import Derived.BigQuiet
import Derived.Lib.Hide
import Derived.OwnWalk
import Derived.Test.YtlphgnfjemaliaaDoorWWords
import Derived.Test.YtlphgnfjemaliaaDoorWMore
import Derived.Test.YtlphgnfjemaliaaDoorWApart
import Derived.Test.YtlphgnfjemaliaaDoorWInvWords
namespace Go.Proofs.YtlphgnfjemaliaaDoor.Mem
set_option maxRecDepth 100000
open Go.RowKit Go.Proofs.YtlphgnfjemaliaaDoorW.PrintWords Go.Proofs.YtlphgnfjemaliaaDoorW.PrintMore

/-- A region: from where, how many, whether it may be written. -/
abbrev Rg := Int × Int × Bool
def Rg.agg (x : Rg) : Value := .agg #[.int .i64 x.1, .int .i64 x.2.1, .bool x.2.2]

theorem bcell {W w1 : World} (hb : Below W.heap.size W w1) {a : Addr} {v : Value} (hc : W.cell? a = some v) : w1.cell? a = some v := (hb.cell (World.block_lt_of_cell? W a hc)).trans hc
theorem btrans {w w1 w2 : World} (h : Below w.heap.size w w1) (k : Below w1.heap.size w1 w2) : Below w.heap.size w w2 :=
  h.trans ⟨k.os, k.tape, k.output, k.size, fun i hi => k.block i (Nat.lt_of_lt_of_le hi h.size)⟩
theorem balloc {w W : World} (h : Below w.heap.size w W) (o : Obj) : Below w.heap.size w (W.alloc o) := h.alloc h.size o
theorem bdrewN {w W : World} (h : Below w.heap.size w W) (n : Nat) : Below w.heap.size w (W.drewN n) := ⟨h.os, h.tape, h.output, h.size, h.block⟩

theorem new_cell (w : World) (cs : Array Value) (t : TypeId) (i : Nat) {v : Value} (h : cs[i]? = some v) : (w.alloc (.cells cs t)).cell? ⟨w.heap.size, i, none⟩ = some v :=
  (cell_of_row _ _ _ _ _ _ (heap_alloc_new w _)).trans h
theorem old_cell (w : World) (o : Obj) {a : Addr} {v : Value} (h : w.cell? a = some v) : (w.alloc o).cell? a = some v := (World.cell?_alloc_lt w o a (World.block_lt_of_cell? w a h)).trans h

theorem alloc_size (w : World) (o : Obj) : (w.alloc o).heap.size = w.heap.size + 1 := Array.size_push _
theorem new2_cell (w : World) (o : Obj) (cs : Array Value) (t : TypeId) (i : Nat) {v : Value} (h : cs[i]? = some v) : ((w.alloc o).alloc (.cells cs t)).cell? ⟨w.heap.size + 1, i, none⟩ = some v := by
  have := new_cell (w.alloc o) cs t i h
  rwa [alloc_size] at this

/-- Does a region hold a word? -/
def hasB (x : Rg) (at_ : Int) : Bool := decide (0 ≤ x.1) && decide (x.1 ≤ at_) && decide (wrap64 (at_ - x.1) < x.2.1)

theorem ret_bool {a b : Bool} (h : a = b) : Ending.returned (.bool a) = .returned (.bool b) := by rw [h]

theorem has_any (f l : Int) (b : Bool) (a : Int) (w : World) :
    Calls Tryd.prog 49 #[.agg #[.int .i64 f, .int .i64 l, .bool b], .int .i64 a] w fun e w' => e = .returned (.bool (hasB (f, l, b) a)) ∧ Below w.heap.size w w' := by
  go_enter Tryd.func49, Tryd.ntmps49
  go_wp2
  all_goals
    go_ret
    exact ⟨ret_bool (by simp [hasB, *] <;> omega), (Below.refl _ _).alloc (Nat.le_refl _) _⟩

/-- May a region be touched at a word? -/
def mayB (a : Int) (wr : Bool) (x : Rg) : Bool := hasB x a && (x.2.2 || !wr)

theorem touch1_any (x : Rg) (a : Int) (wr : Bool) (p q : Addr) (w : World) (hp : w.cell? p = some (.int .i64 a)) (hq : w.cell? q = some (.bool wr)) :
    Calls Tryd.prog 48 #[x.agg, .pointer (some p), .pointer (some q)] w fun e w' => e = .returned (.bool (mayB a wr x)) ∧ Below w.heap.size w w' := by
  obtain ⟨f, l, b⟩ := x
  have hpl := World.block_lt_of_cell? w _ hp
  have hql := World.block_lt_of_cell? w _ hq
  have hnot : ∀ (x : Bool) (w : World), (Op.unary .not (.bool x)).run Tryd.prog w = .ok (.bool (!x)) w := fun _ _ => rfl
  unfold Rg.agg
  have hH := fun W => has_any f l b a W
  have H1 := Lib.hid hH
  clear hH
  unfold mayB
  generalize hh : hasB (f, l, b) a = h at *
  clear hh
  cases h <;> cases b <;> (
    go_enter Tryd.func48, Tryd.ntmps48
    go_wp2_with fail
    refine (H1.out _).mono ?_
    rintro e w1 ⟨rfl, hb1⟩
    have c1 := bcell hb1 (old_cell w _ hq)
    have c2 := bcell hb1 (new_cell w #[.int .i64 f, .int .i64 l, .bool _] 25 2 rfl)
    have hbel := Lib.hid (btrans ((Below.refl _ _).alloc (Nat.le_refl _) _) hb1)
    clear hb1
    go_wp2_with fail
    go_ret
    exact ⟨ret_bool (by simp), hbel.out⟩)

/-- Regions that lie in memory. -/
def RegsAt (w : World) (A : Option Addr) (xs : List Rg) : Prop :=
  xs.length ≤ 9223372036854775807 ∧ (0 < xs.length → ∃ ad : Addr, A = some ad ∧ ∀ i x, xs[i]? = some x →
    w.cell? (ad.add (i * 3)) = some (.int .i64 x.1) ∧ w.cell? ⟨(ad.add (i * 3)).block, (ad.add (i * 3)).off + 1, none⟩ = some (.int .i64 x.2.1) ∧ w.cell? ⟨(ad.add (i * 3)).block, (ad.add (i * 3)).off + 2, none⟩ = some (.bool x.2.2))
theorem RegsAt.below {w w1 : World} {A : Option Addr} {xs : List Rg} (h : RegsAt w A xs) (hb : Below w.heap.size w w1) : RegsAt w1 A xs :=
  ⟨h.1, fun hn => by
    obtain ⟨ad, e, hc⟩ := h.2 hn
    exact ⟨ad, e, fun i x hx => ⟨bcell hb (hc i x hx).1, bcell hb (hc i x hx).2.1, bcell hb (hc i x hx).2.2⟩⟩⟩

theorem RegsAt.take {w : World} {A : Option Addr} {xs : List Rg} (h : RegsAt w A xs) (k : Nat) : RegsAt w A (xs.take k) :=
  ⟨by rw [List.length_take]; exact Nat.le_trans (Nat.min_le_right _ _) h.1, fun hn => by
    rw [List.length_take] at hn
    obtain ⟨ad, e, hc⟩ := h.2 (by omega)
    refine ⟨ad, e, fun i x hx => hc i x ?_⟩
    rw [List.getElem?_take] at hx
    split at hx
    · exact hx
    · exact absurd hx (by simp)⟩

theorem any_snoc (xs : List Rg) (pr : Rg → Bool) (k : Nat) (x : Rg) (hx : xs[k]? = some x) : (xs.take (k + 1)).any pr = ((xs.take k).any pr || pr x) := by
  rw [List.take_add_one, hx]; simp

set_option maxHeartbeats 1000000 in
/-- IndexFunc over touch's closure: whether there is one. -/
theorem idx_touch (A : Option Addr) (c : Nat) (xs : List Rg) (a : Int) (md : Bool) (p q : Addr) (w : World) (hx : RegsAt w A xs) (hp : w.cell? p = some (.int .i64 a)) (hq : w.cell? q = some (.bool md)) :
    Calls Tryd.prog 37 #[.slice A xs.length c, .func (.func 48) #[] #[.pointer (some p), .pointer (some q)]] w
      fun e w' => ∃ r : Int, e = .returned (.int .i64 r) ∧ decide (0 ≤ r) = xs.any (mayB a md) ∧ Below w.heap.size w w' := by
  have hmax := hx.1
  have HX := Lib.hid hx
  have HP := Lib.hid hp
  have HQ := Lib.hid hq
  clear hx hp hq
  go_enter Tryd.func37, Tryd.ntmps37
  go_wp2_with fail
  go_loopw [8] (fun i wr_ => ∃ k : Nat, k ≤ xs.length ∧ i = .int .i64 k ∧ Hid ((xs.take k).any (mayB a md) = false) ∧ Hid (Below w.heap.size w wr_)) (fun i _ => xs.length - (intOf i).toNat)
  case atStart => exact ⟨0, Nat.zero_le _, rfl, Lib.hid (by simp), Lib.hid (Below.refl _ _)⟩
  case round =>
    obtain ⟨k, hk, rfl, hN, hB⟩ := hrel
    by_cases hlt : k < xs.length
    · obtain ⟨ad, rfl, hc⟩ := (HX.out.below hB.out).2 (by omega)
      obtain ⟨x, hxk⟩ : ∃ x, xs[k]? = some x := ⟨xs[k], List.getElem?_eq_getElem hlt⟩
      obtain ⟨c0, c1, c2⟩ := hc k x hxk
      have hS := Lib.hid (any_snoc xs (mayB a md) k x hxk)
      have hM := Lib.hid (List.mem_of_getElem? hxk)
      have hT := fun W => touch1_any x a md p q W
      have HT := Lib.hid hT
      clear hc hxk hT
      go_wp2_with fail
      refine (HT.out _ (bcell hB.out HP.out) (bcell hB.out HQ.out)).mono ?_
      rintro e w2 ⟨rfl, hb2⟩
      have hB2 := Lib.hid (btrans hB.out hb2)
      clear hb2
      generalize hm : mayB a md x = m at *
      have hm := Lib.hid hm
      cases m
      · go_wp2_with fail
        exact ⟨⟨k + 1, by omega, by simp, Lib.hid (by rw [hS.out, hN.out]; rfl), hB2⟩, by simp [intOf]; omega⟩
      · go_wp2_with fail
        go_ret
        refine ⟨k, rfl, ?_, hB2.out⟩
        rw [List.any_eq_true.mpr ⟨x, hM.out, hm.out⟩]
        simp
    · have hke : k = xs.length := by omega
      subst hke
      go_wp2_with fail
      go_ret
      have hA := hN.out
      rw [List.take_length] at hA
      exact ⟨-1, rfl, by rw [hA]; rfl, hB.out⟩

theorem contains_touch (A : Option Addr) (c : Nat) (xs : List Rg) (a : Int) (md : Bool) (p q : Addr) (w : World) (hx : RegsAt w A xs) (hp : w.cell? p = some (.int .i64 a)) (hq : w.cell? q = some (.bool md)) :
    Calls Tryd.prog 22 #[.slice A xs.length c, .func (.func 48) #[] #[.pointer (some p), .pointer (some q)]] w
      fun e w' => e = .returned (.bool (xs.any (mayB a md))) ∧ Below w.heap.size w w' := by
  have hT := idx_touch A c xs a md p q w hx hp hq
  have HT := Lib.hid hT
  clear hT hx hp hq
  go_enter Tryd.func22, Tryd.ntmps22
  go_wp2_with fail
  refine HT.out.mono ?_
  rintro e w1 ⟨r, rfl, hr, hb⟩
  go_wp2_with fail
  go_ret
  exact ⟨rfl, hb⟩

/-- What went wrong, as a value. -/
def wrongV (n : Nat) (xs : List Rg) (a : Int) (md : Bool) : Value :=
  if a < 0 ∨ (n : Int) ≤ a then .iface 79 (.agg #[.int .i64 a])
  else if xs.any (mayB a md) then .nilIface else .iface 80 (.agg #[.int .i64 a])
/-- Its number. -/
def wrongN (n : Nat) (xs : List Rg) (a : Int) (md : Bool) : Int :=
  if a < 0 ∨ (n : Int) ≤ a then 4 else if xs.any (mayB a md) then 0 else 6

theorem told_any (n : Nat) (xs : List Rg) (a : Int) (md : Bool) (w : World) :
    Calls Tryd.prog 29 #[wrongV n xs a md] w fun e w' => e = .returned (.int .i64 (wrongN n xs a md)) ∧ Below w.heap.size w w' := by
  unfold wrongV wrongN
  by_cases h1 : a < 0 ∨ (n : Int) ≤ a
  · simp only [if_pos h1]
    clear h1
    have ta : ∀ (w : World), (Instr.typeAssert (.iface 79 (.agg #[.int .i64 a])) 63 79 true).run Tryd.prog w = .ok (.tuple #[.agg #[.int .i64 a], .bool true]) w := fun _ => rfl
    go_enter Tryd.func29, Tryd.ntmps29
    go_wp2_with fail
    go_ret
    exact ⟨rfl, Below.refl _ _⟩
  · simp only [if_neg h1]
    clear h1
    cases xs.any (mayB a md)
    · have ta : ∀ (w : World), (Instr.typeAssert (.iface 80 (.agg #[.int .i64 a])) 63 79 true).run Tryd.prog w = .ok (.tuple #[.agg #[.int .i64 0], .bool false]) w := fun _ => rfl
      have tb : ∀ (w : World), (Instr.typeAssert (.iface 80 (.agg #[.int .i64 a])) 63 80 true).run Tryd.prog w = .ok (.tuple #[.agg #[.int .i64 a], .bool true]) w := fun _ => rfl
      simp only [Bool.false_eq_true, if_false]
      go_enter Tryd.func29, Tryd.ntmps29
      go_wp2_with fail
      go_ret
      exact ⟨rfl, Below.refl _ _⟩
    · have ta : ∀ (w : World), (Instr.typeAssert .nilIface 63 79 true).run Tryd.prog w = .ok (.tuple #[.agg #[.int .i64 0], .bool false]) w := fun _ => rfl
      have tb : ∀ (w : World), (Instr.typeAssert .nilIface 63 80 true).run Tryd.prog w = .ok (.tuple #[.agg #[.int .i64 0], .bool false]) w := fun _ => rfl
      simp only [if_true]
      go_enter Tryd.func29, Tryd.ntmps29
      go_wp2_with fail
      go_ret
      exact ⟨rfl, Below.refl _ _⟩

theorem touch_any (M : Option Addr) (n cm : Nat) (A : Option Addr) (c : Nat) (xs : List Rg) (a : Int) (md : Bool) (w : World) (hx : RegsAt w A xs) :
    Calls Tryd.prog 28 #[.slice M n cm, .slice A xs.length c, .int .i64 a, .bool md] w fun e w' => e = .returned (wrongV n xs a md) ∧ Below w.heap.size w w' := by
  have HX := Lib.hid hx
  clear hx
  have hT := fun W p q => contains_touch A c xs a md p q W
  have HT := Lib.hid hT
  clear hT
  unfold wrongV
  have hb2 : ∀ o1 o2, Below w.heap.size w ((w.alloc o1).alloc o2) := fun o1 o2 => balloc (balloc (Below.refl _ _) o1) o2
  have HB := Lib.hid hb2
  clear hb2
  by_cases h0 : a < 0
  · simp only [h0, true_or, if_true]
    go_enter Tryd.func28, Tryd.ntmps28
    go_wp2_with fail
    go_ret
    exact ⟨rfl, HB.out _ _⟩
  by_cases h1 : (n : Int) ≤ a
  · simp only [h1, or_true, if_true]
    go_enter Tryd.func28, Tryd.ntmps28
    go_wp2_with fail
    go_ret
    exact ⟨rfl, HB.out _ _⟩
  · simp only [h0, h1, or_false, if_false]
    generalize hm : xs.any (mayB a md) = m at *
    clear hm
    cases m <;> (
      simp only [Bool.false_eq_true, if_false, if_true]
      go_enter Tryd.func28, Tryd.ntmps28
      go_wp2_with fail
      refine (HT.out _ _ _ (HX.out.below (HB.out _ _)) (old_cell _ _ (new_cell w _ _ _ rfl)) (new2_cell w _ _ _ _ rfl)).mono ?_
      rintro e w1 ⟨rfl, hb⟩
      have HC := Lib.hid (btrans (HB.out _ _) hb)
      have c1 := bcell hb (old_cell (w.alloc (.cells #[.int .i64 a] 3)) (.cells #[.bool md] 4) (new_cell w #[.int .i64 a] 3 0 rfl))
      clear hb
      go_wp2_with fail
      go_ret
      exact ⟨rfl, HC.out⟩)

theorem own_empty (w : World) : (Kd.int .i64).R 3 (w.alloc (.cells #[] 3)) w.heap.size (fun _ => True) (.slice (some ⟨w.heap.size, 0, none⟩) 0 0) [] := by
  refine ⟨fun k hk => trivial, [], ?_, ?_⟩
  · have h2 := World.ownsRow_lit (base := w.heap.size) (e := 3) (size := (Kd.int .i64).sz) w #[] 0 (Nat.le_refl _) (by simp [maxLen]) (by simp)
    simpa using h2
  · exact ⟨by simp, fun j p hj => by simp at hj⟩

theorem clone_any (ad : Addr) (c : Nat) (m : List Int) (w : World) (hr : (Kd.int .i64).C w (some ad) m.length m) (hl : m.length ≤ 1000000) :
    Calls Tryd.prog 20 #[.slice (some ad) m.length c] w fun e w' => ∃ v, e = .returned v ∧ (Kd.int .i64).R 3 w' w.heap.size (fun _ => True) v m ∧ Below w.heap.size w w' := by
  have HR := Lib.hid hr
  have HL := Lib.hid hl
  have he : ∀ (n c : Nat) (w : World), (binOp .eql 22 (.slice (some ad) n c) (.slice none 0 0)).run Tryd.prog w = .ok (.bool false) w := fun _ _ _ => rfl
  clear hr hl
  have hi3 : (Tryd.prog.info? 3).map (fun i => (i.zero, i.size, i.bytes)) = some (some (.int .i64 0), 1, 8) := rfl
  go_enter Tryd.func20, Tryd.ntmps20
  go_wp2_with ((with_reducible refine gate_builtin (b := .append) (xs := #[.tmp 5, .tmp 6]) rfl ?_); at_builtin; refine Kd.R_append_rows (Kd.int .i64) (w0 := w) w.heap.size rfl (.tmp 5) (.tmp 6) 22 3 (.int .i64 0) 8 rfl Tryd.underlying22 hi3 rfl (by decide) (by omega) (.slice (some ⟨w.heap.size, 0, none⟩) 0 0) [] m _ _ _ (fun _ => True) (fun _ => False) rfl rfl (own_empty w) (Kd.C_below HR.out (balloc (Below.refl _ _) _)) (fun _ _ h => h) (fun _ h => h.elim) (fun _ _ => trivial) (balloc (Below.refl _ _) _) (by rw [alloc_size]; omega) (by have := HL.out; simp only [List.length_nil]; omega) ?_; intro v w1 ho hb hg hat)
  go_ret
  exact ⟨v, rfl, ho, hb⟩

theorem wrong_nil {n : Nat} {xs : List Rg} {a : Int} {md : Bool} (h : wrongN n xs a md = 0) : wrongV n xs a md = .nilIface := by
  unfold wrongV
  unfold wrongN at h
  by_cases h1 : a < 0 ∨ (n : Int) ≤ a
  · rw [if_pos h1] at h; omega
  · rw [if_neg h1] at h ⊢
    cases hm : xs.any (mayB a md) <;> simp_all
theorem wrong_non {n : Nat} {xs : List Rg} {a : Int} {md : Bool} (h : wrongN n xs a md ≠ 0) : ∃ t x, wrongV n xs a md = .iface t x ∧ ∀ w, (binOp .neq 63 (.iface t x) .nilIface).run Tryd.prog w = .ok (.bool true) w := by
  unfold wrongV
  unfold wrongN at h
  by_cases h1 : a < 0 ∨ (n : Int) ≤ a
  · rw [if_pos h1]; exact ⟨_, _, rfl, fun _ => rfl⟩
  · rw [if_neg h1] at h ⊢
    cases hm : xs.any (mayB a md)
    · simp only [Bool.false_eq_true, if_false]; exact ⟨_, _, rfl, fun _ => rfl⟩
    · simp [hm] at h
theorem wrong_ok {n : Nat} {xs : List Rg} {a : Int} {md : Bool} (h : wrongN n xs a md = 0) : 0 ≤ a ∧ a < n := by
  unfold wrongN at h
  by_cases h1 : a < 0 ∨ (n : Int) ≤ a
  · rw [if_pos h1] at h; omega
  · omega

/-- What is loaded. -/
def loadV (m : List Int) (xs : List Rg) (a : Int) : Int := if wrongN m.length xs a false = 0 then rd m a else 0

theorem load_any (M : Option Addr) (cm : Nat) (m : List Int) (A : Option Addr) (c : Nat) (xs : List Rg) (a : Int) (w : World) (hr : (Kd.int .i64).C w M m.length m) (hx : RegsAt w A xs) :
    Calls Tryd.prog 17 #[.slice M m.length cm, .slice A xs.length c, .int .i64 a] w fun e w' => e = .returned (.tuple #[.int .i64 (loadV m xs a), .int .i64 (wrongN m.length xs a false)]) ∧ Below w.heap.size w w' := by
  have hT := touch_any M m.length cm A c xs a false w hx
  have hD := fun W => told_any m.length xs a false W
  have HR := Lib.hid hr
  clear hr hx
  unfold loadV
  by_cases h0 : wrongN m.length xs a false = 0
  · obtain ⟨h1, h2⟩ := wrong_ok h0
    rw [wrong_nil h0] at hT
    obtain ⟨ad, rfl, hc⟩ := Kd.at_int HR.out a h1 h2
    have hC := Lib.hid hc
    have HT := Lib.hid hT
    clear hc hT hD
    rw [if_pos h0, h0]
    clear h0
    generalize rd m a = v at *
    go_enter Tryd.func17, Tryd.ntmps17
    go_wp2_with fail
    refine HT.out.mono ?_
    rintro e w1 ⟨rfl, hb⟩
    have c1 := bcell hb hC.out
    have HB := Lib.hid hb
    clear hb
    go_wp2_with fail
    go_ret2
    exact ⟨rfl, HB.out⟩
  · obtain ⟨t, x, hV, hN⟩ := wrong_non h0
    rw [if_neg h0]
    simp only [hV] at hT hD
    have HT := Lib.hid hT
    have HD := Lib.hid hD
    clear hT hD h0 hV
    generalize wrongN m.length xs a false = q at *
    go_enter Tryd.func17, Tryd.ntmps17
    go_wp2_with fail
    refine HT.out.mono ?_
    rintro e w1 ⟨rfl, hb⟩
    have HB := Lib.hid hb
    clear hb
    go_wp2_with fail
    refine (HD.out _).mono ?_
    rintro e w2 ⟨rfl, hb⟩
    have HB2 := Lib.hid (btrans HB.out hb)
    clear hb
    go_wp2_with fail
    go_ret2
    exact ⟨rfl, HB2.out⟩

/-- What is stored. -/
def storeV (m : List Int) (xs : List Rg) (a v : Int) : List Int := if wrongN m.length xs a true = 0 then m.set a.toNat v else []

theorem store_any (M : Option Addr) (cm : Nat) (m : List Int) (A : Option Addr) (c : Nat) (xs : List Rg) (a v : Int) (w : World) (hr : (Kd.int .i64).C w M m.length m) (hl : m.length ≤ 1000000) (hx : RegsAt w A xs) :
    Calls Tryd.prog 16 #[.slice M m.length cm, .slice A xs.length c, .int .i64 a, .int .i64 v] w fun e w' => ∃ r, e = .returned (.tuple #[r, .int .i64 (wrongN m.length xs a true)]) ∧ (Kd.int .i64).R 3 w' w.heap.size (fun _ => True) r (storeV m xs a v) ∧ Below w.heap.size w w' := by
  have hT := touch_any M m.length cm A c xs a true w hx
  have hD := fun W => told_any m.length xs a true W
  have HR := Lib.hid hr
  have HL := Lib.hid hl
  clear hr hx hl
  unfold storeV
  by_cases h0 : wrongN m.length xs a true = 0
  · obtain ⟨h1, h2⟩ := wrong_ok h0
    rw [wrong_nil h0] at hT
    obtain ⟨ad, rfl, hc⟩ := Kd.at_int HR.out a h1 h2
    have HT := Lib.hid hT
    clear hc hT hD
    rw [if_pos h0, h0]
    clear h0
    go_enter Tryd.func16, Tryd.ntmps16
    go_wp2_with fail
    refine HT.out.mono ?_
    rintro e w1 ⟨rfl, hb⟩
    have HB := Lib.hid hb
    clear hb
    go_wp2_with fail
    refine (clone_any ad cm m _ (Kd.C_below HR.out HB.out) HL.out).mono ?_
    rintro e w2 ⟨r, rfl, hr, hb⟩
    have HB2 := Lib.hid (btrans HB.out hb)
    have hr2 := Kd.R_lower hr HB.out.size
    obtain ⟨g, cap, rfl⟩ := Kd.R_slice1 hr2 (by omega)
    obtain ⟨b, rfl⟩ := Kd.R_head hr2
    obtain ⟨hc, hz⟩ := Kd.R_cell (enc := Value.int .i64) (h1 := fun _ => rfl) 0 hr2 a h1 (by omega)
    obtain ⟨hp, hg⟩ := Kd.R_put (enc := Value.int .i64) (h1 := fun _ => rfl) hr2 a v
    have hbg := Kd.R_base hr2 b (by simp [Value.ownBlock])
    have HP := Lib.hid hp
    have HG := Lib.hid hg
    clear hr hb hr2 hp hg
    go_wp2_with fail
    go_ret2
    exact ⟨_, rfl, HP.out, HB2.out.setCell hbg _⟩
  · obtain ⟨t, x, hV, hN⟩ := wrong_non h0
    rw [if_neg h0]
    simp only [hV] at hT hD
    have HT := Lib.hid hT
    have HD := Lib.hid hD
    clear hT hD h0 hV
    generalize wrongN m.length xs a true = q at *
    go_enter Tryd.func16, Tryd.ntmps16
    go_wp2_with fail
    refine HT.out.mono ?_
    rintro e w1 ⟨rfl, hb⟩
    have HB := Lib.hid hb
    clear hb
    go_wp2_with fail
    refine (HD.out _).mono ?_
    rintro e w2 ⟨rfl, hb⟩
    have HB2 := Lib.hid (btrans HB.out hb)
    clear hb
    go_wp2_with fail
    go_ret2
    exact ⟨.slice none 0 0, rfl, Kd.R_nil _ _ _ _ _, HB2.out⟩

/-- Do two regions meet? -/
def meetsB (r s : Rg) : Bool := decide (s.1 < wrap64 (r.1 + r.2.1)) && decide (r.1 < wrap64 (s.1 + s.2.1))

theorem may1_any (x r : Rg) (g : Nat) (w : World) (hp : w.cell? ⟨g, 0, none⟩ = some (.int .i64 r.1)) (hq : w.cell? ⟨g, 1, none⟩ = some (.int .i64 r.2.1)) :
    Calls Tryd.prog 21 #[x.agg, .pointer (some ⟨g, 0, none⟩)] w fun e w' => e = .returned (.bool (meetsB r x)) ∧ Below w.heap.size w w' := by
  obtain ⟨f, l, b⟩ := x
  obtain ⟨f', l', b'⟩ := r
  have hpl := World.block_lt_of_cell? w _ hp
  have hql := World.block_lt_of_cell? w _ hq
  unfold Rg.agg meetsB
  simp only at hp hq hpl hql ⊢
  go_enter Tryd.func21, Tryd.ntmps21
  go_wp2
  all_goals
    go_ret
    exact ⟨ret_bool (by simp [*] <;> omega), (Below.refl _ _).alloc (Nat.le_refl _) _⟩

set_option maxHeartbeats 1000000 in
/-- IndexFunc over May's closure: whether there is one. -/
theorem idx_may (A : Option Addr) (c : Nat) (xs : List Rg) (r : Rg) (g : Nat) (w : World) (hx : RegsAt w A xs) (hp : w.cell? ⟨g, 0, none⟩ = some (.int .i64 r.1)) (hq : w.cell? ⟨g, 1, none⟩ = some (.int .i64 r.2.1)) :
    Calls Tryd.prog 37 #[.slice A xs.length c, .func (.func 21) #[] #[.pointer (some ⟨g, 0, none⟩)]] w
      fun e w' => ∃ q : Int, e = .returned (.int .i64 q) ∧ decide (0 ≤ q) = xs.any (meetsB r) ∧ Below w.heap.size w w' := by
  have hmax := hx.1
  have HX := Lib.hid hx
  have HP := Lib.hid hp
  have HQ := Lib.hid hq
  clear hx hp hq
  go_enter Tryd.func37, Tryd.ntmps37
  go_wp2_with fail
  go_loopw [8] (fun i wr_ => ∃ k : Nat, k ≤ xs.length ∧ i = .int .i64 k ∧ Hid ((xs.take k).any (meetsB r) = false) ∧ Hid (Below w.heap.size w wr_)) (fun i _ => xs.length - (intOf i).toNat)
  case atStart => exact ⟨0, Nat.zero_le _, rfl, Lib.hid (by simp), Lib.hid (Below.refl _ _)⟩
  case round =>
    obtain ⟨k, hk, rfl, hN, hB⟩ := hrel
    by_cases hlt : k < xs.length
    · obtain ⟨ad, rfl, hc⟩ := (HX.out.below hB.out).2 (by omega)
      obtain ⟨x, hxk⟩ : ∃ x, xs[k]? = some x := ⟨xs[k], List.getElem?_eq_getElem hlt⟩
      obtain ⟨c0, c1, c2⟩ := hc k x hxk
      have hS := Lib.hid (any_snoc xs (meetsB r) k x hxk)
      have hM := Lib.hid (List.mem_of_getElem? hxk)
      have hT := fun W => may1_any x r g W
      have HT := Lib.hid hT
      clear hc hxk hT
      go_wp2_with fail
      refine (HT.out _ (bcell hB.out HP.out) (bcell hB.out HQ.out)).mono ?_
      rintro e w2 ⟨rfl, hb2⟩
      have hB2 := Lib.hid (btrans hB.out hb2)
      clear hb2
      generalize hm : meetsB r x = m at *
      have hm := Lib.hid hm
      cases m
      · go_wp2_with fail
        exact ⟨⟨k + 1, by omega, by simp, Lib.hid (by rw [hS.out, hN.out]; rfl), hB2⟩, by simp [intOf]; omega⟩
      · go_wp2_with fail
        go_ret
        refine ⟨k, rfl, ?_, hB2.out⟩
        rw [List.any_eq_true.mpr ⟨x, hM.out, hm.out⟩]
        simp
    · have hke : k = xs.length := by omega
      subst hke
      go_wp2_with fail
      go_ret
      have hA := hN.out
      rw [List.take_length] at hA
      exact ⟨-1, rfl, by rw [hA]; rfl, hB.out⟩

theorem contains_may (A : Option Addr) (c : Nat) (xs : List Rg) (r : Rg) (g : Nat) (w : World) (hx : RegsAt w A xs) (hp : w.cell? ⟨g, 0, none⟩ = some (.int .i64 r.1)) (hq : w.cell? ⟨g, 1, none⟩ = some (.int .i64 r.2.1)) :
    Calls Tryd.prog 22 #[.slice A xs.length c, .func (.func 21) #[] #[.pointer (some ⟨g, 0, none⟩)]] w
      fun e w' => e = .returned (.bool (xs.any (meetsB r))) ∧ Below w.heap.size w w' := by
  have hT := idx_may A c xs r g w hx hp hq
  have HT := Lib.hid hT
  clear hT hx hp hq
  go_enter Tryd.func22, Tryd.ntmps22
  go_wp2_with fail
  refine HT.out.mono ?_
  rintro e w1 ⟨q, rfl, hr, hb⟩
  go_wp2_with fail
  go_ret
  exact ⟨rfl, hb⟩


def zRg : Rg := (0, 0, false)
/-- Is a region one by itself? -/
def regB (words : Int) (r : Rg) : Bool := !(decide (r.1 < 0) || decide (r.2.1 < 1) || decide (words < r.2.1) || decide (wrap64 (words - r.2.1) < r.1))
/-- May the region of a number be, beside those ahead of it? -/
def mayAt (words : Int) (xs : List Rg) (k : Nat) : Bool := regB words (xs.getD k zRg) && !(xs.take k).any (meetsB (xs.getD k zRg))
def mayTo (words : Int) (xs : List Rg) (k : Nat) : Bool := (List.range k).all (mayAt words xs)
/-- mem.May. -/
def mayV (words : Int) (xs : List Rg) : Bool := decide (1 ≤ words) && decide (words ≤ 64) && decide (xs.length ≤ 4) && mayTo words xs xs.length
theorem mayTo_snoc (words : Int) (xs : List Rg) (k : Nat) : mayTo words xs (k + 1) = (mayTo words xs k && mayAt words xs k) := by
  unfold mayTo
  rw [List.range_succ, List.all_append]
  simp
theorem mayTo_bad {words : Int} {xs : List Rg} {k n : Nat} (hk : k < n) (h : mayAt words xs k = false) : mayTo words xs n = false := by
  unfold mayTo
  rw [Bool.eq_false_iff]
  intro he
  have := List.all_eq_true.mp he k (List.mem_range.mpr hk)
  rw [h] at this
  exact absurd this (by simp)

set_option maxHeartbeats 4000000 in
theorem may_in (A : Option Addr) (c : Nat) (xs : List Rg) (words : Int) (w : World) (hx : RegsAt w A xs) (hc : xs.length ≤ c) (hw1 : 1 ≤ words) (hw2 : words ≤ 64) (hl : xs.length ≤ 4) :
    Calls Tryd.prog 12 #[.slice A xs.length c, .int .i64 words] w fun e w' => e = .returned (.bool (mayTo words xs xs.length)) ∧ Below w.heap.size w w' := by
  have HX := Lib.hid hx
  have HC := Lib.hid hc
  clear hx hc
  go_enter Tryd.func12, Tryd.ntmps12
  go_wp2_with fail
  go_loopw [21] (fun i wr_ => ∃ k : Nat, k ≤ xs.length ∧ i = .int .i64 k ∧ Hid (mayTo words xs k = true) ∧ Hid (Below w.heap.size w wr_)) (fun i _ => xs.length - (intOf i).toNat)
  case atStart => exact ⟨0, Nat.zero_le _, rfl, Lib.hid (by simp [mayTo]), Lib.hid (Below.refl _ _)⟩
  case round =>
    obtain ⟨k, hk, rfl, hN, hB⟩ := hrel
    by_cases hlt : k < xs.length
    · obtain ⟨ad, rfl, hc⟩ := (HX.out.below hB.out).2 (by omega)
      obtain ⟨x, hxk⟩ : ∃ x, xs[k]? = some x := ⟨xs[k], List.getElem?_eq_getElem hlt⟩
      obtain ⟨c0, c1, c2⟩ := hc k x hxk
      have hgd : xs.getD k zRg = x := by rw [List.getD_eq_getElem?_getD, hxk]; rfl
      have hS := mayTo_snoc words xs k
      have hA : mayAt words xs k = (regB words x && !(xs.take k).any (meetsB x)) := by unfold mayAt; rw [hgd]
      have HA := Lib.hid hA
      have HS := Lib.hid hS
      clear hc hA hS hgd
      obtain ⟨f, l, bb⟩ := x
      simp only at c0 c1 c2
      have hkc : k ≤ c := by have := HC.out; omega
      have hbad : mayAt words xs k = false → Hid (mayTo words xs xs.length = false) := fun h => Lib.hid (mayTo_bad hlt h)
      have HBAD := Lib.hid hbad
      clear hbad
      have hpa := World.block_lt_of_cell? wr _ c0
      by_cases h1 : f < 0 ∨ l < 1 ∨ words < l
      · have hf := HBAD.out (by
          rw [HA.out]
          have : regB words (f, l, bb) = false := by unfold regB; rcases h1 with h | h | h <;> simp [h]
          rw [this]; rfl)
        clear HBAD HA HS
        by_cases h2 : f < 0
        · clear h1
          go_wp2_with fail
          go_ret
          exact ⟨ret_bool hf.out.symm, balloc hB.out _⟩
        by_cases h3 : l < 1
        · clear h1
          go_wp2_with fail
          go_ret
          exact ⟨ret_bool hf.out.symm, balloc hB.out _⟩
        · have h4 : words < l := by omega
          clear h1
          go_wp2_with fail
          go_ret
          exact ⟨ret_bool hf.out.symm, balloc hB.out _⟩
      · have h2 : 0 ≤ f := by omega
        have h3 : 1 ≤ l := by omega
        have h4 : l ≤ words := by omega
        clear h1
        have hwr : wrap64 (words - l) = words - l := by unfold wrap64; omega
        by_cases h5 : words - l < f
        · have hf := HBAD.out (by
            rw [HA.out]
            have : regB words (f, l, bb) = false := by unfold regB; simp [hwr, h5]
            rw [this]; rfl)
          clear HBAD HA HS hwr
          go_wp2_with fail
          go_ret
          exact ⟨ret_bool hf.out.symm, balloc hB.out _⟩
        · have hG : mayAt words xs k = !(xs.take k).any (meetsB (f, l, bb)) := by
            rw [HA.out]
            have : regB words (f, l, bb) = true := by unfold regB; simp only [hwr]; simp; omega
            rw [this]; rfl
          have HG := Lib.hid hG
          clear hG HA hwr
          have h6 : f ≤ words - l := by omega
          clear h5
          have hM := fun W => contains_may (some ad) c (xs.take k) (f, l, bb) W
          rw [List.length_take, Nat.min_eq_left hk] at hM
          have HM := Lib.hid hM
          clear hM
          have hT : RegsAt w (some ad) (xs.take k) := RegsAt.take HX.out k
          have HT := Lib.hid hT
          clear hT
          have hB0 : ∀ o, Below w.heap.size w (wr.alloc o) := fun o => balloc hB.out o
          have HB0 := Lib.hid hB0
          clear hB0
          go_wp2_with fail
          refine (HM.out _ _ (HT.out.below (HB0.out _)) (new_cell wr _ _ 0 rfl) (new_cell wr _ _ 1 rfl)).mono ?_
          rintro e w2 ⟨rfl, hb2⟩
          have HB2 := Lib.hid (btrans (HB0.out _) hb2)
          clear hb2
          generalize (xs.take k).any (meetsB (f, l, bb)) = q at *
          cases q
          · go_wp2_with fail
            exact ⟨⟨k + 1, by omega, by simp, Lib.hid (by rw [HS.out, hN.out, HG.out]; rfl), HB2⟩, by simp [intOf]; omega⟩
          · have hf := HBAD.out HG.out
            go_wp2_with fail
            go_ret
            exact ⟨ret_bool hf.out.symm, HB2.out⟩
    · have hke : k = xs.length := by omega
      subst hke
      go_wp2_with fail
      go_ret
      exact ⟨ret_bool hN.out.symm, hB.out⟩

theorem may_any (A : Option Addr) (c : Nat) (xs : List Rg) (words : Int) (w : World) (hx : RegsAt w A xs) (hc : xs.length ≤ c) :
    Calls Tryd.prog 12 #[.slice A xs.length c, .int .i64 words] w fun e w' => e = .returned (.bool (mayV words xs)) ∧ Below w.heap.size w w' := by
  by_cases h : 1 ≤ words ∧ words ≤ 64 ∧ xs.length ≤ 4
  · refine (may_in A c xs words w hx hc h.1 h.2.1 h.2.2).mono ?_
    rintro e w1 ⟨rfl, hb⟩
    exact ⟨ret_bool (by unfold mayV; simp [h.1, h.2.1, h.2.2]), hb⟩
  · have hf : mayV words xs = false := by
      rw [Bool.eq_false_iff]
      intro he
      unfold mayV at he
      simp only [Bool.and_eq_true, decide_eq_true_eq] at he
      exact h ⟨he.1.1.1, he.1.1.2, he.1.2⟩
    rw [hf]
    have hl : ((1 : Int) ≤ words ∧ words ≤ 64 ∧ (xs.length : Int) ≤ 4) → False := fun k => h ⟨k.1, k.2.1, by omega⟩
    clear h hf hx hc
    by_cases h1 : words < 1
    · clear hl
      go_enter Tryd.func12, Tryd.ntmps12
      go_wp2_with fail
      go_ret
      exact ⟨rfl, Below.refl _ _⟩
    by_cases h2 : 64 < words
    · clear hl
      go_enter Tryd.func12, Tryd.ntmps12
      go_wp2_with fail
      go_ret
      exact ⟨rfl, Below.refl _ _⟩
    · have h3 : (4 : Int) < (xs.length : Int) := by
        rcases Int.lt_or_le 4 (xs.length : Int) with h | h
        · exact h
        · exact absurd ⟨by omega, by omega, h⟩ hl
      clear hl
      go_enter Tryd.func12, Tryd.ntmps12
      go_wp2_with fail
      go_ret
      exact ⟨rfl, Below.refl _ _⟩
end Go.Proofs.YtlphgnfjemaliaaDoor.Mem

/-
  What package cpu's small functions return, or with which fault they end: raise, touched, bit, divided, read, load, store; slices.Clone.
  Conditions: the machine's block lies in memory as told.
-/
import Derived.Test.YtlphgnfjemaliaaDoorRows
import Derived.WalkKit
import Derived.WalkSpells
import Derived.WalkLawsBesides
import Derived.LoopTactic
import Derived.Below
import Derived.Deep.QuietTactic
import Derived.BigQuiet
import Derived.Lib.Hide
import Derived.OwnWalk
import Derived.Test.YtlphgnfjemaliaaDoorWWords
import Derived.Test.YtlphgnfjemaliaaDoorMem
import Derived.Test.YtlphgnfjemaliaaDoorDiv
namespace Go.Proofs.YtlphgnfjemaliaaDoor.CpuA
set_option maxRecDepth 100000
open Go.RowKit Go.Proofs.YtlphgnfjemaliaaDoorW.PrintWords Go.Proofs.YtlphgnfjemaliaaDoor.Mem

/-- What a fault leaves. -/
def faulted (f : Int) : Ending := .panicked [{ v := .iface 68 (.int .i64 f), recovered := false }]

theorem raise_zero (w : World) : Calls Tryd.prog 34 #[.int .i64 0] w fun e w' => e = .returned (.tuple #[]) ∧ w = w' := by
  go_enter Tryd.func34, Tryd.ntmps34
  go_wp2
  go_end0
  exact ⟨rfl, rfl⟩
theorem raise_non (f : Int) (hf : ¬ f = 0) (w : World) : Calls Tryd.prog 34 #[.int .i64 f] w fun e w' => e = faulted f ∧ w = w' := by
  unfold faulted
  have hf' : (f == 0) = false := by simp [hf]
  go_enter Tryd.func34, Tryd.ntmps34
  go_wp2
  exact ⟨rfl, rfl, rfl⟩
theorem touched_zero (w : World) : Calls Tryd.prog 71 #[.int .i64 0] w fun e w' => e = .returned (.tuple #[]) ∧ w = w' := by
  go_enter Tryd.func71, Tryd.ntmps71
  go_wp2
  go_end0
  exact ⟨rfl, rfl⟩
theorem touched_non (f : Int) (hf : ¬ f = 0) (w : World) : Calls Tryd.prog 71 #[.int .i64 f] w fun e w' => e = faulted 5 ∧ w = w' := by
  have H5 := fun W => raise_non 5 (by decide) W
  unfold faulted at *
  have hf' : (f == 0) = false := by simp [hf]
  have HR := Lib.hid H5
  clear H5
  go_enter Tryd.func71, Tryd.ntmps71
  go_wp2_with (go_at_call 34; refine (HR.out _).mono ?_; rintro e w' ⟨rfl, rfl⟩)
  exact ⟨rfl, rfl, rfl⟩

/-- 1, if something is; else 0. -/
def bitI (b : Bool) : Int := if b then 1 else 0
theorem bit_any (b : Bool) (w : World) : Calls Tryd.prog 52 #[.bool b] w fun e w' => e = .returned (.int .i64 (bitI b)) ∧ w = w' := by
  unfold bitI
  cases b <;> (
    go_enter Tryd.func52, Tryd.ntmps52
    go_wp2
    go_ret
    exact ⟨rfl, rfl⟩)

theorem divided_ok (a b : Int) (hb : (Div.divI a b).2 = 0) (w : World) :
    Calls Tryd.prog 51 #[.int .i64 a, .int .i64 b] w fun e w' => e = .returned (.int .i64 (Div.divI a b).1) ∧ Below w.heap.size w w' := by
  have hD := fun W => Div.div_any a b W
  rw [hb] at hD
  generalize (Div.divI a b).1 = q at *
  have HD := Lib.hid hD
  clear hD hb
  go_enter Tryd.func51, Tryd.ntmps51
  go_wp2_with fail
  refine (HD.out _).mono ?_
  rintro e w1 ⟨rfl, hb⟩
  have HB := Lib.hid hb
  clear hb
  go_wp2_with fail
  refine (raise_zero _).mono ?_
  rintro e w2 ⟨rfl, rfl⟩
  go_wp2_with fail
  go_ret
  exact ⟨rfl, HB.out⟩
theorem divided_bad (a b : Int) (hb : ¬ (Div.divI a b).2 = 0) (w : World) :
    Calls Tryd.prog 51 #[.int .i64 a, .int .i64 b] w fun e w' => e = faulted (Div.divI a b).2 ∧ Below w.heap.size w w' := by
  have hD := fun W => Div.div_any a b W
  have hR := fun W => raise_non _ hb W
  unfold faulted at *
  generalize (Div.divI a b).1 = q at *
  generalize (Div.divI a b).2 = f at *
  have HD := Lib.hid hD
  have HR := Lib.hid hR
  clear hD hR hb
  go_enter Tryd.func51, Tryd.ntmps51
  go_wp2_with fail
  refine (HD.out _).mono ?_
  rintro e w1 ⟨rfl, hb⟩
  have HB := Lib.hid hb
  clear hb
  go_wp2_with fail
  refine (HR.out _).mono ?_
  rintro e w2 ⟨rfl, rfl⟩
  go_wp2_with fail
  exact ⟨rfl, rfl, HB.out⟩

/-- A machine: what an instruction works on. -/
structure Mach where
  pc : Int
  r : Nat → Int
  mv : Value
  lv : Value
  now : Int
  fl : Int
  ca : Int
  ha : Bool
  re : Bool
  va : Int
/-- Its cells. -/
def Mach.cells (x : Mach) : Array Value :=
  #[.int .i64 x.pc, .int .i64 (x.r 0), .int .i64 (x.r 1), .int .i64 (x.r 2), .int .i64 (x.r 3), x.mv, x.lv, .int .i64 x.now, .int .i64 x.fl, .int .i64 x.ca, .bool x.ha, .bool x.re, .int .i64 x.va]
def upd (r : Nat → Int) (a : Nat) (v : Int) : Nat → Int := fun i => if i = a then v else r i
def Mach.setR (x : Mach) (a : Nat) (v : Int) : Mach := { x with r := upd x.r a v }
/-- It lies in a block. -/
def Lies (w : World) (g : Nat) (x : Mach) : Prop := w.heap[g]? = some (.cells x.cells 54 (0, 0))
theorem cells_reg (x : Mach) (a : Nat) (ha : a < 4) : x.cells[1 + a]? = some (.int .i64 (x.r a)) := by
  match a, ha with
  | 0, _ => rfl
  | 1, _ => rfl
  | 2, _ => rfl
  | 3, _ => rfl
theorem cells_setR (x : Mach) (a : Nat) (ha : a < 4) (v : Int) : x.cells.setIfInBounds (1 + a) (.int .i64 v) = (x.setR a v).cells := by
  match a, ha with
  | 0, _ => rfl
  | 1, _ => rfl
  | 2, _ => rfl
  | 3, _ => rfl
theorem Lies.put {w : World} {g : Nat} {x : Mach} (h : Lies w g x) (a : Nat) (ha : a < 4) (v : Int) : Lies (w.setCell ⟨g, 1 + a, none⟩ (.int .i64 v)) g (x.setR a v) := blk_put h _ _ (cells_setR x a ha v)
theorem Lies.below {w w1 : World} {g : Nat} {x : Mach} (h : Lies w g x) (hb : Below w.heap.size w w1) : Lies w1 g x := blk_below h hb

theorem read_any (g : Nat) (x : Mach) (v : Int) (w : World) (h : Lies w g x) :
    Calls Tryd.prog 61 #[.pointer (some ⟨g, 0, none⟩), .int .i64 v] w fun e w' => e = .returned (.int .i64 v) ∧ w' = (w.setCell ⟨g, 11, none⟩ (.bool true)).setCell ⟨g, 12, none⟩ (.int .i64 v) := by
  have c11 : w.cell? ⟨g, 11, none⟩ = some (.bool x.re) := (blk_cell h 11).trans rfl
  have c12 : w.cell? ⟨g, 12, none⟩ = some (.int .i64 x.va) := (blk_cell h 12).trans rfl
  have z11 := blk_frozen h 11
  have z12 := blk_frozen h 12
  have hp := blk_lt h
  clear h
  go_enter Tryd.func61, Tryd.ntmps61
  go_wp2
  go_ret
  exact ⟨rfl, rfl⟩
def Mach.told (x : Mach) (v : Int) : Mach := { x with re := true, va := v }
theorem Lies.told {w : World} {g : Nat} {x : Mach} (h : Lies w g x) (v : Int) : Lies ((w.setCell ⟨g, 11, none⟩ (.bool true)).setCell ⟨g, 12, none⟩ (.int .i64 v)) g (x.told v) := blk_put (blk_put h 11 (.bool true) rfl) 12 (.int .i64 v) rfl

/-- The world but for one block, and what is new. -/
structure Keep (g : Nat) (w w' : World) : Prop where
  os : w'.os = w.os
  tape : w'.tape = w.tape
  output : w'.output = w.output
  size : w.heap.size ≤ w'.heap.size
  block : ∀ k, k < w.heap.size → k ≠ g → w'.heap[k]? = w.heap[k]?
theorem Keep.refl (g : Nat) (w : World) : Keep g w w := ⟨rfl, rfl, rfl, Nat.le_refl _, fun _ _ _ => rfl⟩
theorem Keep.of_below {g : Nat} {w w' : World} (h : Below w.heap.size w w') : Keep g w w' := ⟨h.os, h.tape, h.output, h.size, fun k hk _ => h.block k hk⟩
theorem Keep.trans {g : Nat} {a b c : World} (h : Keep g a b) (k : Keep g b c) : Keep g a c :=
  ⟨k.os.trans h.os, k.tape.trans h.tape, k.output.trans h.output, Nat.le_trans h.size k.size, fun i hi hg => (k.block i (Nat.lt_of_lt_of_le hi h.size) hg).trans (h.block i hi hg)⟩
theorem Keep.set {g : Nat} {w w' : World} (h : Keep g w w') (i : Nat) (v : Value) : Keep g w (w'.setCell ⟨g, i, none⟩ v) :=
  ⟨(Below.setCell (Below.refl 0 w') (Nat.zero_le _) v).os.trans h.os, (Below.setCell (Below.refl 0 w') (Nat.zero_le _) v).tape.trans h.tape, (Below.setCell (Below.refl 0 w') (Nat.zero_le _) v).output.trans h.output,
   Nat.le_trans h.size (Below.setCell (Below.refl 0 w') (Nat.zero_le _) v).size, fun k hk hg => (Below.heap_setCell w' ⟨g, i, none⟩ v k hg).trans (h.block k hk hg)⟩
/-- Behind an elder world nothing of it has changed, if the block is younger. -/
theorem Keep.below {g : Nat} {w0 w w' : World} (h : Keep g w w') (hb : Below w0.heap.size w0 w) (hg : w0.heap.size ≤ g) : Below w0.heap.size w0 w' :=
  ⟨h.os.trans hb.os, h.tape.trans hb.tape, h.output.trans hb.output, Nat.le_trans hb.size h.size, fun k hk => (h.block k (Nat.lt_of_lt_of_le hk hb.size) (by omega)).trans (hb.block k hk)⟩

theorem bel_drewN (w : World) (n : Nat) : Below w.heap.size w (w.drewN n) := bdrewN (Below.refl _ _) n
theorem load_ok (g : Nat) (x : Mach) (M : Option Addr) (cm : Nat) (m : List Int) (A : Option Addr) (c : Nat) (xs : List Rg) (a : Int) (w : World) (h : Lies w g x) (hm : x.mv = .slice M m.length cm) (hl : x.lv = .slice A xs.length c)
    (hr : (Kd.int .i64).C w M m.length m) (hx : RegsAt w A xs) (h0 : wrongN m.length xs a false = 0) :
    Calls Tryd.prog 54 #[.pointer (some ⟨g, 0, none⟩), .int .i64 a] w fun e w' => e = .returned (.int .i64 (loadV m xs a)) ∧
      ∃ w1, Below w.heap.size w w1 ∧ w' = (w1.setCell ⟨g, 11, none⟩ (.bool true)).setCell ⟨g, 12, none⟩ (.int .i64 (loadV m xs a)) := by
  have c5 : w.cell? ⟨g, 5, none⟩ = some (.slice M m.length cm) := by rw [blk_cell h 5, ← hm]; rfl
  have c6 : w.cell? ⟨g, 6, none⟩ = some (.slice A xs.length c) := by rw [blk_cell h 6, ← hl]; rfl
  have hL : ∀ n, _ := fun n => load_any M cm m A c xs a (w.drewN n) (Kd.C_below hr (bel_drewN w n)) (hx.below (bel_drewN w n))
  simp only [h0] at hL
  have HL := Lib.hid hL
  have H := Lib.hid h
  clear h hr hx hL hm hl h0
  generalize loadV m xs a = v at *
  go_enter Tryd.func54, Tryd.ntmps54
  go_wp2_with fail
  go_region_with ((go_at_call 17; refine (HL.out _).mono ?_; rintro e w1 ⟨rfl, hb⟩))
  all_goals (
    have HB := Lib.hid (btrans (bel_drewN w _) hb)
    clear hb
    go_wp2_with fail
    refine (touched_zero _).mono ?_
    rintro e w2 ⟨rfl, rfl⟩
    have H1 := Lib.hid (H.out.below HB.out)
    go_wp2_with fail
    refine (read_any g x v _ H1.out).mono ?_
    rintro e w2 ⟨rfl, rfl⟩
    go_wp2_with fail
    go_ret
    exact ⟨rfl, _, HB.out, rfl⟩)
theorem load_bad (g : Nat) (x : Mach) (M : Option Addr) (cm : Nat) (m : List Int) (A : Option Addr) (c : Nat) (xs : List Rg) (a : Int) (w : World) (h : Lies w g x) (hm : x.mv = .slice M m.length cm) (hl : x.lv = .slice A xs.length c)
    (hr : (Kd.int .i64).C w M m.length m) (hx : RegsAt w A xs) (h0 : ¬ wrongN m.length xs a false = 0) :
    Calls Tryd.prog 54 #[.pointer (some ⟨g, 0, none⟩), .int .i64 a] w fun e w' => e = faulted 5 ∧ Below w.heap.size w w' := by
  have c5 : w.cell? ⟨g, 5, none⟩ = some (.slice M m.length cm) := by rw [blk_cell h 5, ← hm]; rfl
  have c6 : w.cell? ⟨g, 6, none⟩ = some (.slice A xs.length c) := by rw [blk_cell h 6, ← hl]; rfl
  have hL : ∀ n, _ := fun n => load_any M cm m A c xs a (w.drewN n) (Kd.C_below hr (bel_drewN w n)) (hx.below (bel_drewN w n))
  have hT := fun W => touched_non _ h0 W
  unfold faulted at *
  have HL := Lib.hid hL
  have HT := Lib.hid hT
  clear h hr hx hL hm hl h0 hT
  generalize loadV m xs a = v at *
  generalize wrongN m.length xs a false = q at *
  go_enter Tryd.func54, Tryd.ntmps54
  go_wp2_with fail
  go_region_with ((go_at_call 17; refine (HL.out _).mono ?_; rintro e w1 ⟨rfl, hb⟩))
  all_goals (
    have HB := Lib.hid (btrans (bel_drewN w _) hb)
    clear hb
    go_wp2_with fail
    refine (HT.out _).mono ?_
    rintro e w2 ⟨rfl, rfl⟩
    go_wp2_with fail
    exact ⟨rfl, rfl, HB.out⟩)

theorem store_ok (g : Nat) (x : Mach) (M : Option Addr) (cm : Nat) (m : List Int) (A : Option Addr) (c : Nat) (xs : List Rg) (a v : Int) (w : World) (h : Lies w g x) (hm : x.mv = .slice M m.length cm) (hl : x.lv = .slice A xs.length c)
    (hr : (Kd.int .i64).C w M m.length m) (hL1 : m.length ≤ 1000000) (hx : RegsAt w A xs) (h0 : wrongN m.length xs a true = 0) :
    Calls Tryd.prog 55 #[.pointer (some ⟨g, 0, none⟩), .int .i64 a, .int .i64 v] w fun e w' => e = .returned (.tuple #[]) ∧
      ∃ w1 r, Below w.heap.size w w1 ∧ (Kd.int .i64).R 3 w1 w.heap.size (fun _ => True) r (storeV m xs a v) ∧ w' = w1.setCell ⟨g, 5, none⟩ r := by
  have c5 : w.cell? ⟨g, 5, none⟩ = some (.slice M m.length cm) := by rw [blk_cell h 5, ← hm]; rfl
  have c6 : w.cell? ⟨g, 6, none⟩ = some (.slice A xs.length c) := by rw [blk_cell h 6, ← hl]; rfl
  have hL : ∀ n, _ := fun n => store_any M cm m A c xs a v (w.drewN n) (Kd.C_below hr (bel_drewN w n)) hL1 (hx.below (bel_drewN w n))
  simp only [h0] at hL
  have HL := Lib.hid hL
  have H := Lib.hid h
  clear h hr hx hL hm hl h0 hL1
  generalize storeV m xs a v = u at *
  go_enter Tryd.func55, Tryd.ntmps55
  go_wp2_with fail
  go_region_with ((go_at_call 16; refine (HL.out _).mono ?_; rintro e w1 ⟨r, rfl, hr, hb⟩))
  all_goals (
    have HB := Lib.hid (btrans (bel_drewN w _) hb)
    obtain ⟨A', c', rfl, _, _⟩ := Kd.R_reads hr
    have HR := Lib.hid hr
    clear hb hr
    go_wp2_with fail
    refine (touched_zero _).mono ?_
    rintro e w2 ⟨rfl, rfl⟩
    have H1 := Lib.hid (H.out.below HB.out)
    have d5 : w1.cell? ⟨g, 5, none⟩ = some x.mv := (blk_cell H1.out 5).trans rfl
    have z5 := blk_frozen H1.out 5
    go_wp2_with fail
    go_end0
    exact ⟨rfl, _, _, HB.out, HR.out, rfl⟩)
theorem store_bad (g : Nat) (x : Mach) (M : Option Addr) (cm : Nat) (m : List Int) (A : Option Addr) (c : Nat) (xs : List Rg) (a v : Int) (w : World) (h : Lies w g x) (hm : x.mv = .slice M m.length cm) (hl : x.lv = .slice A xs.length c)
    (hr : (Kd.int .i64).C w M m.length m) (hL1 : m.length ≤ 1000000) (hx : RegsAt w A xs) (h0 : ¬ wrongN m.length xs a true = 0) :
    Calls Tryd.prog 55 #[.pointer (some ⟨g, 0, none⟩), .int .i64 a, .int .i64 v] w fun e w' => e = faulted 5 ∧ Below w.heap.size w w' := by
  have c5 : w.cell? ⟨g, 5, none⟩ = some (.slice M m.length cm) := by rw [blk_cell h 5, ← hm]; rfl
  have c6 : w.cell? ⟨g, 6, none⟩ = some (.slice A xs.length c) := by rw [blk_cell h 6, ← hl]; rfl
  have hL : ∀ n, _ := fun n => store_any M cm m A c xs a v (w.drewN n) (Kd.C_below hr (bel_drewN w n)) hL1 (hx.below (bel_drewN w n))
  have hT := fun W => touched_non _ h0 W
  unfold faulted at *
  have HL := Lib.hid hL
  have HT := Lib.hid hT
  clear h hr hx hL hm hl h0 hT hL1
  generalize storeV m xs a v = u at *
  generalize wrongN m.length xs a true = q at *
  go_enter Tryd.func55, Tryd.ntmps55
  go_wp2_with fail
  go_region_with ((go_at_call 16; refine (HL.out _).mono ?_; rintro e w1 ⟨r, rfl, hr, hb⟩))
  all_goals (
    have HB := Lib.hid (btrans (bel_drewN w _) hb)
    clear hb hr
    go_wp2_with fail
    refine (HT.out _).mono ?_
    rintro e w2 ⟨rfl, rfl⟩
    go_wp2_with fail
    exact ⟨rfl, rfl, HB.out⟩)

/-- slices.Clone of words that lie somewhere, or nowhere. -/
theorem clone_all (A : Option Addr) (c : Nat) (m : List Int) (w : World) (hr : (Kd.int .i64).C w A m.length m) (hl : m.length ≤ 1000000) :
    Calls Tryd.prog 20 #[.slice A m.length c] w fun e w' => ∃ v, e = .returned v ∧ (Kd.int .i64).R 3 w' w.heap.size (fun _ => True) v m ∧ Below w.heap.size w w' := by
  cases A with
  | some ad => exact clone_any ad c m w hr hl
  | none =>
    have hn : m = [] := by
      rcases Nat.eq_zero_or_pos m.length with h | h
      · exact List.eq_nil_of_length_eq_zero h
      · obtain ⟨ad, e, _⟩ := hr.2.2 h
        exact absurd e (by simp)
    subst hn
    have he : ∀ (c : Nat) (w : World), (binOp .eql 22 (.slice none 0 c) (.slice none 0 0)).run Tryd.prog w = .ok (.bool true) w := fun _ _ => rfl
    clear hr hl
    simp only [List.length_nil]
    go_enter Tryd.func20, Tryd.ntmps20
    go_wp2
    go_ret
    exact ⟨_, rfl, Kd.R_nil _ _ _ _ _, Below.refl _ _⟩
end Go.Proofs.YtlphgnfjemaliaaDoor.CpuA

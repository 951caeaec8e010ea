/-
  What the machine's two methods for one instruction do: two and one, operation by operation.
  Conditions: the machine's block lies in memory as told; the instruction's registers are below 4.
-/
import Derived.Test.YtlphgnfjemaliaaDoorCpuA
import Derived.Test.YtlphgnfjemaliaaDoorRealG
namespace Go.Proofs.YtlphgnfjemaliaaDoor.CpuB
set_option maxRecDepth 100000
set_option linter.unusedVariables false
open Go.RowKit Go.Proofs.YtlphgnfjemaliaaDoorW.PrintWords Go.Proofs.YtlphgnfjemaliaaDoor.Mem Go.Proofs.YtlphgnfjemaliaaDoor.CpuA

/-- What is given of the memory. -/
structure Has (w : World) (x : Mach) (M : Option Addr) (cm : Nat) (m : List Int) (A : Option Addr) (c : Nat) (xs : List Rg) : Prop where
  mv : x.mv = .slice M m.length cm
  lv : x.lv = .slice A xs.length c
  rd : (Kd.int .i64).C w M m.length m
  few : m.length ≤ 1000000
  rg : RegsAt w A xs
theorem Has.below {w w1 : World} {x : Mach} {M : Option Addr} {cm : Nat} {m : List Int} {A : Option Addr} {c : Nat} {xs : List Rg} (h : Has w x M cm m A c xs) (hb : Below w.heap.size w w1) : Has w1 x M cm m A c xs :=
  ⟨h.mv, h.lv, Kd.C_below h.rd hb, h.few, h.rg.below hb⟩
theorem load_lies (g : Nat) (x : Mach) {M : Option Addr} {cm : Nat} {m : List Int} {A : Option Addr} {c : Nat} {xs : List Rg} (a : Int) (w : World) (h : Lies w g x) (hh : Has w x M cm m A c xs) (h0 : wrongN m.length xs a false = 0) :
    Calls Tryd.prog 54 #[.pointer (some ⟨g, 0, none⟩), .int .i64 a] w fun e w' => e = .returned (.int .i64 (loadV m xs a)) ∧ Lies w' g (x.told (loadV m xs a)) ∧ Keep g w w' :=
  (load_ok g x M cm m A c xs a w h hh.mv hh.lv hh.rd hh.rg h0).mono fun e w' ⟨h1, w1, h2, h3⟩ => ⟨h1, by rw [h3]; exact (h.below h2).told _, by rw [h3]; exact ((Keep.of_below h2).set _ _).set _ _⟩
theorem lies_mv {w : World} {g : Nat} {x : Mach} (h : Lies w g x) (r : Value) : Lies (w.setCell ⟨g, 5, none⟩ r) g { x with mv := r } := blk_put h 5 r rfl
theorem store_lies (g : Nat) (x : Mach) {M : Option Addr} {cm : Nat} {m : List Int} {A : Option Addr} {c : Nat} {xs : List Rg} (a v : Int) (w : World) (h : Lies w g x) (hh : Has w x M cm m A c xs) (h0 : wrongN m.length xs a true = 0) :
    Calls Tryd.prog 55 #[.pointer (some ⟨g, 0, none⟩), .int .i64 a, .int .i64 v] w fun e w' => e = .returned (.tuple #[]) ∧ ∃ r, Lies w' g { x with mv := r } ∧ (Kd.int .i64).R 3 w' w.heap.size (fun _ => True) r (storeV m xs a v) ∧ Keep g w w' :=
  (store_ok g x M cm m A c xs a v w h hh.mv hh.lv hh.rd hh.few hh.rg h0).mono fun e w' ⟨h1, w1, r, h2, h3, h4⟩ => ⟨h1, r, by rw [h4]; exact lies_mv (h.below h2) r, by
    rw [h4]; exact Kd.R_mono (Kd.R_set h3 (h.below h2) (by decide) 5 r) (fun _ _ => trivial), by rw [h4]; exact (Keep.of_below h2).set _ _⟩
theorem keepd {g : Nat} {w w1 : World} (h : Keep g w w1) (n : Nat) : Keep g w (w1.drewN n) := ⟨h.os, h.tape, h.output, h.size, h.block⟩
theorem boxed (w : World) (o : Obj) (n : Nat) : Below w.heap.size w ((w.alloc o).drewN n) := bdrewN (balloc (Below.refl _ _) _) _
theorem boxed0 (w : World) (o : Obj) : Below w.heap.size w (w.alloc o) := balloc (Below.refl _ _) _
theorem lies_pc {w : World} {g : Nat} {x : Mach} (h : Lies w g x) (v : Int) : Lies (w.setCell ⟨g, 0, none⟩ (.int .i64 v)) g { x with pc := v } := blk_put h 0 _ rfl
theorem lies_ca {w : World} {g : Nat} {x : Mach} (h : Lies w g x) (v : Int) : Lies (w.setCell ⟨g, 9, none⟩ (.int .i64 v)) g { x with ca := v } := blk_put h 9 _ rfl
theorem lies_ha {w : World} {g : Nat} {x : Mach} (h : Lies w g x) : Lies (w.setCell ⟨g, 10, none⟩ (.bool true)) g { x with ha := true } := blk_put h 10 _ rfl

set_option maxHeartbeats 1000000 in
theorem two_2 (g : Nat) (x : Mach) (a b : Nat) (w : World) (h : Lies w g x) (ha : a < 4) (hb : b < 4) :
    Calls Tryd.prog 35 #[.pointer (some ⟨g, 0, none⟩), .agg #[.int .i64 2, .int .i64 a, .int .i64 b]] w fun e w' => e = .returned (.bool true) ∧ Lies w' g (x.setR a (x.r b)) ∧ Keep g w w' := by
  have ca : w.cell? ⟨g, 1 + a, none⟩ = some (.int .i64 (x.r a)) := (blk_cell h _).trans (cells_reg x a ha)
  have cb : w.cell? ⟨g, 1 + b, none⟩ = some (.int .i64 (x.r b)) := (blk_cell h _).trans (cells_reg x b hb)
  have za := blk_frozen h (1 + a)
  have hp := blk_lt h
  have H := Lib.hid h
  have HA := Lib.hid ha
  have e0 : (0 : Int) ≤ (a : Int) := by omega
  have e1 : (a : Int) < 4 := by omega
  have f0 : (0 : Int) ≤ (b : Int) := by omega
  have f1 : (b : Int) < 4 := by omega
  clear h ha hb
  go_enter Tryd.func35, Tryd.ntmps35
  go_wp2_with fail
  go_quiet (fail)
  go_wp2_with fail
  go_ret
  exact ⟨rfl, (H.out.below (boxed w _ _)).put a HA.out _, (Keep.of_below (boxed w _ _)).set _ _⟩

set_option maxHeartbeats 1000000 in
theorem two_3 (g : Nat) (x : Mach) (a b : Nat) (w : World) (h : Lies w g x) (ha : a < 4) (hb : b < 4) :
    Calls Tryd.prog 35 #[.pointer (some ⟨g, 0, none⟩), .agg #[.int .i64 3, .int .i64 a, .int .i64 b]] w fun e w' => e = .returned (.bool true) ∧ Lies w' g (x.setR a (wrap64 (x.r a + x.r b))) ∧ Keep g w w' := by
  have ca : w.cell? ⟨g, 1 + a, none⟩ = some (.int .i64 (x.r a)) := (blk_cell h _).trans (cells_reg x a ha)
  have cb : w.cell? ⟨g, 1 + b, none⟩ = some (.int .i64 (x.r b)) := (blk_cell h _).trans (cells_reg x b hb)
  have za := blk_frozen h (1 + a)
  have hp := blk_lt h
  have H := Lib.hid h
  have HA := Lib.hid ha
  have e0 : (0 : Int) ≤ (a : Int) := by omega
  have e1 : (a : Int) < 4 := by omega
  have f0 : (0 : Int) ≤ (b : Int) := by omega
  have f1 : (b : Int) < 4 := by omega
  clear h ha hb
  go_enter Tryd.func35, Tryd.ntmps35
  go_wp2_with fail
  go_quiet (fail)
  go_wp2_with fail
  go_ret
  exact ⟨rfl, (H.out.below (boxed w _ _)).put a HA.out _, (Keep.of_below (boxed w _ _)).set _ _⟩

set_option maxHeartbeats 1000000 in
theorem two_4 (g : Nat) (x : Mach) (a b : Nat) (w : World) (h : Lies w g x) (ha : a < 4) (hb : b < 4) :
    Calls Tryd.prog 35 #[.pointer (some ⟨g, 0, none⟩), .agg #[.int .i64 4, .int .i64 a, .int .i64 b]] w fun e w' => e = .returned (.bool true) ∧ Lies w' g (x.setR a (wrap64 (x.r a - x.r b))) ∧ Keep g w w' := by
  have ca : w.cell? ⟨g, 1 + a, none⟩ = some (.int .i64 (x.r a)) := (blk_cell h _).trans (cells_reg x a ha)
  have cb : w.cell? ⟨g, 1 + b, none⟩ = some (.int .i64 (x.r b)) := (blk_cell h _).trans (cells_reg x b hb)
  have za := blk_frozen h (1 + a)
  have hp := blk_lt h
  have H := Lib.hid h
  have HA := Lib.hid ha
  have e0 : (0 : Int) ≤ (a : Int) := by omega
  have e1 : (a : Int) < 4 := by omega
  have f0 : (0 : Int) ≤ (b : Int) := by omega
  have f1 : (b : Int) < 4 := by omega
  clear h ha hb
  go_enter Tryd.func35, Tryd.ntmps35
  go_wp2_with fail
  go_quiet (fail)
  go_wp2_with fail
  go_ret
  exact ⟨rfl, (H.out.below (boxed w _ _)).put a HA.out _, (Keep.of_below (boxed w _ _)).set _ _⟩

set_option maxHeartbeats 1000000 in
theorem two_5 (g : Nat) (x : Mach) (a b : Nat) (w : World) (h : Lies w g x) (ha : a < 4) (hb : b < 4) :
    Calls Tryd.prog 35 #[.pointer (some ⟨g, 0, none⟩), .agg #[.int .i64 5, .int .i64 a, .int .i64 b]] w fun e w' => e = .returned (.bool true) ∧ Lies w' g (x.setR a (wrap64 (x.r a * x.r b))) ∧ Keep g w w' := by
  have ca : w.cell? ⟨g, 1 + a, none⟩ = some (.int .i64 (x.r a)) := (blk_cell h _).trans (cells_reg x a ha)
  have cb : w.cell? ⟨g, 1 + b, none⟩ = some (.int .i64 (x.r b)) := (blk_cell h _).trans (cells_reg x b hb)
  have za := blk_frozen h (1 + a)
  have hp := blk_lt h
  have H := Lib.hid h
  have HA := Lib.hid ha
  have e0 : (0 : Int) ≤ (a : Int) := by omega
  have e1 : (a : Int) < 4 := by omega
  have f0 : (0 : Int) ≤ (b : Int) := by omega
  have f1 : (b : Int) < 4 := by omega
  clear h ha hb
  go_enter Tryd.func35, Tryd.ntmps35
  go_wp2_with fail
  go_quiet (fail)
  go_wp2_with fail
  go_ret
  exact ⟨rfl, (H.out.below (boxed w _ _)).put a HA.out _, (Keep.of_below (boxed w _ _)).set _ _⟩

set_option maxHeartbeats 1000000 in
theorem two_7 (g : Nat) (x : Mach) (a b : Nat) (w : World) (h : Lies w g x) (ha : a < 4) (hb : b < 4) :
    Calls Tryd.prog 35 #[.pointer (some ⟨g, 0, none⟩), .agg #[.int .i64 7, .int .i64 a, .int .i64 b]] w fun e w' => e = .returned (.bool true) ∧ Lies w' g (x.setR a (bitI (decide (x.r a < x.r b)))) ∧ Keep g w w' := by
  have ca : w.cell? ⟨g, 1 + a, none⟩ = some (.int .i64 (x.r a)) := (blk_cell h _).trans (cells_reg x a ha)
  have cb : w.cell? ⟨g, 1 + b, none⟩ = some (.int .i64 (x.r b)) := (blk_cell h _).trans (cells_reg x b hb)
  have za := blk_frozen h (1 + a)
  have hp := blk_lt h
  have H := Lib.hid h
  have HA := Lib.hid ha
  have e0 : (0 : Int) ≤ (a : Int) := by omega
  have e1 : (a : Int) < 4 := by omega
  have f0 : (0 : Int) ≤ (b : Int) := by omega
  have f1 : (b : Int) < 4 := by omega
  have hbit : ∀ W, _ := fun W => bit_any (decide (x.r a < x.r b)) W
  have HBIT := Lib.hid hbit
  clear h ha hb hbit
  go_enter Tryd.func35, Tryd.ntmps35
  go_wp2_with fail
  go_quiet (fail)
  go_wp2_with fail
  refine (HBIT.out _).mono ?_
  rintro e w1 ⟨rfl, rfl⟩
  go_wp2_with fail
  go_ret
  exact ⟨rfl, (H.out.below (boxed w _ _)).put a HA.out _, (Keep.of_below (boxed w _ _)).set _ _⟩

set_option maxHeartbeats 1000000 in
theorem two_15 (g : Nat) (x : Mach) (a b : Nat) (w : World) (h : Lies w g x) (ha : a < 4) (hb : b < 4) :
    Calls Tryd.prog 35 #[.pointer (some ⟨g, 0, none⟩), .agg #[.int .i64 15, .int .i64 a, .int .i64 b]] w fun e w' => e = .returned (.bool true) ∧ Lies w' g (x.setR a (bitI (RealG.belowX (x.r a) (x.r b)))) ∧ Keep g w w' := by
  have ca : w.cell? ⟨g, 1 + a, none⟩ = some (.int .i64 (x.r a)) := (blk_cell h _).trans (cells_reg x a ha)
  have cb : w.cell? ⟨g, 1 + b, none⟩ = some (.int .i64 (x.r b)) := (blk_cell h _).trans (cells_reg x b hb)
  have za := blk_frozen h (1 + a)
  have hp := blk_lt h
  have H := Lib.hid h
  have HA := Lib.hid ha
  have e0 : (0 : Int) ≤ (a : Int) := by omega
  have e1 : (a : Int) < 4 := by omega
  have f0 : (0 : Int) ≤ (b : Int) := by omega
  have f1 : (b : Int) < 4 := by omega
  have hbel : ∀ W, _ := fun W => RealG.below_eq (x.r a) (x.r b) W
  have hbit : ∀ W, _ := fun W => bit_any (RealG.belowX (x.r a) (x.r b)) W
  have HBEL := Lib.hid hbel
  have HBIT := Lib.hid hbit
  clear h ha hb hbit hbel
  generalize RealG.belowX (x.r a) (x.r b) = q at *
  go_enter Tryd.func35, Tryd.ntmps35
  go_wp2_with fail
  go_quiet (fail)
  go_wp2_with fail
  refine (HBEL.out _).mono ?_
  rintro e w1 ⟨rfl, n1, rfl⟩
  go_wp2_with fail
  refine (HBIT.out _).mono ?_
  rintro e w1 ⟨rfl, rfl⟩
  go_wp2_with fail
  go_ret
  exact ⟨rfl, (H.out.below (boxed w _ _)).put a HA.out _, (Keep.of_below (boxed w _ _)).set _ _⟩

set_option maxHeartbeats 1000000 in
theorem two_6 (g : Nat) (x : Mach) (a b : Nat) (w : World) (h : Lies w g x) (ha : a < 4) (hb : b < 4) (h0 : (Div.divI (x.r a) (x.r b)).2 = 0) :
    Calls Tryd.prog 35 #[.pointer (some ⟨g, 0, none⟩), .agg #[.int .i64 6, .int .i64 a, .int .i64 b]] w fun e w' => e = .returned (.bool true) ∧ Lies w' g (x.setR a (Div.divI (x.r a) (x.r b)).1) ∧ Keep g w w' := by
  have ca : w.cell? ⟨g, 1 + a, none⟩ = some (.int .i64 (x.r a)) := (blk_cell h _).trans (cells_reg x a ha)
  have cb : w.cell? ⟨g, 1 + b, none⟩ = some (.int .i64 (x.r b)) := (blk_cell h _).trans (cells_reg x b hb)
  have za := blk_frozen h (1 + a)
  have hp := blk_lt h
  have H := Lib.hid h
  have HA := Lib.hid ha
  have e0 : (0 : Int) ≤ (a : Int) := by omega
  have e1 : (a : Int) < 4 := by omega
  have f0 : (0 : Int) ≤ (b : Int) := by omega
  have f1 : (b : Int) < 4 := by omega
  have hD : ∀ W, _ := fun W => divided_ok (x.r a) (x.r b) h0 W
  have HD := Lib.hid hD
  clear h ha hb hD h0
  generalize (Div.divI (x.r a) (x.r b)).1 = q at *
  go_enter Tryd.func35, Tryd.ntmps35
  go_wp2_with fail
  go_quiet (fail)
  go_wp2_with fail
  refine (HD.out _).mono ?_
  rintro e w1 ⟨rfl, hb⟩
  have HB := Lib.hid (btrans (boxed w _ _) hb)
  have H1 := Lib.hid (H.out.below HB.out)
  clear hb
  have da : w1.cell? ⟨g, 1 + a, none⟩ = some (.int .i64 (x.r a)) := (blk_cell H1.out _).trans (cells_reg x a HA.out)
  have ya := blk_frozen H1.out (1 + a)
  go_wp2_with fail
  go_ret
  exact ⟨rfl, H1.out.put a HA.out _, (Keep.of_below HB.out).set _ _⟩
set_option maxHeartbeats 1000000 in
theorem two_6_bad (g : Nat) (x : Mach) (a b : Nat) (w : World) (h : Lies w g x) (ha : a < 4) (hb : b < 4) (h0 : ¬ (Div.divI (x.r a) (x.r b)).2 = 0) :
    Calls Tryd.prog 35 #[.pointer (some ⟨g, 0, none⟩), .agg #[.int .i64 6, .int .i64 a, .int .i64 b]] w fun e w' => e = faulted (Div.divI (x.r a) (x.r b)).2 ∧ Keep g w w' := by
  have ca : w.cell? ⟨g, 1 + a, none⟩ = some (.int .i64 (x.r a)) := (blk_cell h _).trans (cells_reg x a ha)
  have cb : w.cell? ⟨g, 1 + b, none⟩ = some (.int .i64 (x.r b)) := (blk_cell h _).trans (cells_reg x b hb)
  have za := blk_frozen h (1 + a)
  have hp := blk_lt h
  have H := Lib.hid h
  have HA := Lib.hid ha
  have e0 : (0 : Int) ≤ (a : Int) := by omega
  have e1 : (a : Int) < 4 := by omega
  have f0 : (0 : Int) ≤ (b : Int) := by omega
  have f1 : (b : Int) < 4 := by omega
  have hD : ∀ W, _ := fun W => divided_bad (x.r a) (x.r b) h0 W
  unfold faulted at *
  have HD := Lib.hid hD
  clear h ha hb hD h0
  generalize (Div.divI (x.r a) (x.r b)).2 = q at *
  go_enter Tryd.func35, Tryd.ntmps35
  go_wp2_with fail
  go_quiet (fail)
  go_wp2_with fail
  refine (HD.out _).mono ?_
  rintro e w1 ⟨rfl, hb⟩
  have HB := Lib.hid (btrans (boxed w _ _) hb)
  clear hb
  go_wp2_with fail
  exact ⟨rfl, rfl, Keep.of_below HB.out⟩

set_option maxHeartbeats 1000000 in
theorem two_8 (g : Nat) (x : Mach) (a b : Nat) (w : World) (h : Lies w g x) (ha : a < 4) (hb : b < 4) {M : Option Addr} {cm : Nat} {m : List Int} {A : Option Addr} {c : Nat} {xs : List Rg} (hh : Has w x M cm m A c xs) (h0 : wrongN m.length xs (x.r b) false = 0) :
    Calls Tryd.prog 35 #[.pointer (some ⟨g, 0, none⟩), .agg #[.int .i64 8, .int .i64 a, .int .i64 b]] w fun e w' => e = .returned (.bool true) ∧ Lies w' g ((x.told (loadV m xs (x.r b))).setR a (loadV m xs (x.r b))) ∧ Keep g w w' := by
  have ca : w.cell? ⟨g, 1 + a, none⟩ = some (.int .i64 (x.r a)) := (blk_cell h _).trans (cells_reg x a ha)
  have cb : w.cell? ⟨g, 1 + b, none⟩ = some (.int .i64 (x.r b)) := (blk_cell h _).trans (cells_reg x b hb)
  have za := blk_frozen h (1 + a)
  have hp := blk_lt h
  have H := Lib.hid h
  have HA := Lib.hid ha
  have e0 : (0 : Int) ≤ (a : Int) := by omega
  have e1 : (a : Int) < 4 := by omega
  have f0 : (0 : Int) ≤ (b : Int) := by omega
  have f1 : (b : Int) < 4 := by omega
  have hD : ∀ o n, _ := fun o n => load_lies g x (x.r b) ((w.alloc o).drewN n) (h.below (boxed w _ _)) (hh.below (boxed w _ _)) h0
  have HD := Lib.hid hD
  clear h ha hb hD h0 hh
  generalize loadV m xs (x.r b) = q at *
  go_enter Tryd.func35, Tryd.ntmps35
  go_wp2_with fail
  go_quiet (fail)
  go_wp2_with fail
  refine (HD.out _ _).mono ?_
  rintro e w1 ⟨rfl, hl, hk⟩
  have H1 := Lib.hid hl
  have HK := Lib.hid ((Keep.of_below (boxed w _ _)).trans hk)
  clear hl hk
  have da : w1.cell? ⟨g, 1 + a, none⟩ = some (.int .i64 (x.r a)) := (blk_cell H1.out _).trans (cells_reg (x.told q) a HA.out)
  have ya := blk_frozen H1.out (1 + a)
  go_wp2_with fail
  go_ret
  exact ⟨rfl, H1.out.put a HA.out _, HK.out.set _ _⟩
set_option maxHeartbeats 1000000 in
theorem two_8_bad (g : Nat) (x : Mach) (a b : Nat) (w : World) (h : Lies w g x) (ha : a < 4) (hb : b < 4) {M : Option Addr} {cm : Nat} {m : List Int} {A : Option Addr} {c : Nat} {xs : List Rg} (hh : Has w x M cm m A c xs) (h0 : ¬ wrongN m.length xs (x.r b) false = 0) :
    Calls Tryd.prog 35 #[.pointer (some ⟨g, 0, none⟩), .agg #[.int .i64 8, .int .i64 a, .int .i64 b]] w fun e w' => e = faulted 5 ∧ Keep g w w' := by
  have ca : w.cell? ⟨g, 1 + a, none⟩ = some (.int .i64 (x.r a)) := (blk_cell h _).trans (cells_reg x a ha)
  have cb : w.cell? ⟨g, 1 + b, none⟩ = some (.int .i64 (x.r b)) := (blk_cell h _).trans (cells_reg x b hb)
  have za := blk_frozen h (1 + a)
  have hp := blk_lt h
  have H := Lib.hid h
  have HA := Lib.hid ha
  have e0 : (0 : Int) ≤ (a : Int) := by omega
  have e1 : (a : Int) < 4 := by omega
  have f0 : (0 : Int) ≤ (b : Int) := by omega
  have f1 : (b : Int) < 4 := by omega
  have hD : ∀ o n, _ := fun o n => load_bad g x M cm m A c xs (x.r b) ((w.alloc o).drewN n) (h.below (boxed w _ _)) hh.mv hh.lv (hh.below (boxed w _ _)).rd (hh.below (boxed w _ _)).rg h0
  unfold faulted at *
  have HD := Lib.hid hD
  clear h ha hb hD h0 hh
  go_enter Tryd.func35, Tryd.ntmps35
  go_wp2_with fail
  go_quiet (fail)
  go_wp2_with fail
  refine (HD.out _ _).mono ?_
  rintro e w1 ⟨rfl, hb⟩
  have HB := Lib.hid (btrans (boxed w _ _) hb)
  clear hb
  go_wp2_with fail
  exact ⟨rfl, rfl, Keep.of_below HB.out⟩
set_option maxHeartbeats 1000000 in
theorem two_9 (g : Nat) (x : Mach) (a b : Nat) (w : World) (h : Lies w g x) (ha : a < 4) (hb : b < 4) {M : Option Addr} {cm : Nat} {m : List Int} {A : Option Addr} {c : Nat} {xs : List Rg} (hh : Has w x M cm m A c xs) (h0 : wrongN m.length xs (x.r b) true = 0) :
    Calls Tryd.prog 35 #[.pointer (some ⟨g, 0, none⟩), .agg #[.int .i64 9, .int .i64 a, .int .i64 b]] w fun e w' => e = .returned (.bool true) ∧ ∃ r, Lies w' g { x with mv := r } ∧ (Kd.int .i64).R 3 w' w.heap.size (fun _ => True) r (storeV m xs (x.r b) (x.r a)) ∧ Keep g w w' := by
  have ca : w.cell? ⟨g, 1 + a, none⟩ = some (.int .i64 (x.r a)) := (blk_cell h _).trans (cells_reg x a ha)
  have cb : w.cell? ⟨g, 1 + b, none⟩ = some (.int .i64 (x.r b)) := (blk_cell h _).trans (cells_reg x b hb)
  have za := blk_frozen h (1 + a)
  have hp := blk_lt h
  have H := Lib.hid h
  have HA := Lib.hid ha
  have e0 : (0 : Int) ≤ (a : Int) := by omega
  have e1 : (a : Int) < 4 := by omega
  have f0 : (0 : Int) ≤ (b : Int) := by omega
  have f1 : (b : Int) < 4 := by omega
  have hD : ∀ o n, _ := fun o n => store_lies g x (x.r b) (x.r a) ((w.alloc o).drewN n) (h.below (boxed w _ _)) (hh.below (boxed w _ _)) h0
  have HD := Lib.hid hD
  clear h ha hb hD h0 hh
  generalize storeV m xs (x.r b) (x.r a) = q at *
  go_enter Tryd.func35, Tryd.ntmps35
  go_wp2_with fail
  go_quiet (fail)
  go_wp2_with fail
  refine (HD.out _ _).mono ?_
  rintro e w1 ⟨rfl, r, hl, hr, hk⟩
  have HK := Lib.hid ((Keep.of_below (boxed w _ _)).trans hk)
  have H1 := Lib.hid (And.intro hl (Kd.R_lower hr (boxed w _ _).size))
  clear hl hk hr
  go_wp2_with fail
  go_ret
  exact ⟨rfl, r, H1.out.1, H1.out.2, HK.out⟩
set_option maxHeartbeats 1000000 in
theorem two_9_bad (g : Nat) (x : Mach) (a b : Nat) (w : World) (h : Lies w g x) (ha : a < 4) (hb : b < 4) {M : Option Addr} {cm : Nat} {m : List Int} {A : Option Addr} {c : Nat} {xs : List Rg} (hh : Has w x M cm m A c xs) (h0 : ¬ wrongN m.length xs (x.r b) true = 0) :
    Calls Tryd.prog 35 #[.pointer (some ⟨g, 0, none⟩), .agg #[.int .i64 9, .int .i64 a, .int .i64 b]] w fun e w' => e = faulted 5 ∧ Keep g w w' := by
  have ca : w.cell? ⟨g, 1 + a, none⟩ = some (.int .i64 (x.r a)) := (blk_cell h _).trans (cells_reg x a ha)
  have cb : w.cell? ⟨g, 1 + b, none⟩ = some (.int .i64 (x.r b)) := (blk_cell h _).trans (cells_reg x b hb)
  have za := blk_frozen h (1 + a)
  have hp := blk_lt h
  have H := Lib.hid h
  have HA := Lib.hid ha
  have e0 : (0 : Int) ≤ (a : Int) := by omega
  have e1 : (a : Int) < 4 := by omega
  have f0 : (0 : Int) ≤ (b : Int) := by omega
  have f1 : (b : Int) < 4 := by omega
  have hD : ∀ o n, _ := fun o n => store_bad g x M cm m A c xs (x.r b) (x.r a) ((w.alloc o).drewN n) (h.below (boxed w _ _)) hh.mv hh.lv (hh.below (boxed w _ _)).rd hh.few (hh.below (boxed w _ _)).rg h0
  unfold faulted at *
  have HD := Lib.hid hD
  clear h ha hb hD h0 hh
  go_enter Tryd.func35, Tryd.ntmps35
  go_wp2_with fail
  go_quiet (fail)
  go_wp2_with fail
  refine (HD.out _ _).mono ?_
  rintro e w1 ⟨rfl, hb⟩
  have HB := Lib.hid (btrans (boxed w _ _) hb)
  clear hb
  go_wp2_with fail
  exact ⟨rfl, rfl, Keep.of_below HB.out⟩

theorem two_out (op : Int) (g : Nat) (a : Nat) (b : Int) (w : World) (hb : b < 0 ∨ 4 ≤ b) :
    Calls Tryd.prog 35 #[.pointer (some ⟨g, 0, none⟩), .agg #[.int .i64 op, .int .i64 a, .int .i64 b]] w fun e w' => e = .returned (.bool false) ∧ Below w.heap.size w w' := by
  rcases hb with hb | hb
  · have d1 : decide (b < 0) = true := decide_eq_true hb
    clear hb
    go_enter Tryd.func35, Tryd.ntmps35
    go_wp2_with fail
    go_ret
    exact ⟨rfl, boxed0 w _⟩
  · have d1 : decide (b < 0) = false := decide_eq_false (by omega)
    have d2 : decide (4 ≤ b) = true := decide_eq_true hb
    clear hb
    go_enter Tryd.func35, Tryd.ntmps35
    go_wp2_with fail
    go_ret
    exact ⟨rfl, boxed0 w _⟩

/-- The operations that 'two' does not know. -/
def others (op : Int) : Prop := op = 0 ∨ op = 1 ∨ op = 10 ∨ op = 11 ∨ op = 12 ∨ op = 13 ∨ op = 14 ∨ op = 16 ∨ op = 17 ∨ op = 18 ∨ op = 19
set_option maxHeartbeats 4000000 in
theorem two_none (op : Int) (g : Nat) (x : Mach) (a b : Nat) (w : World) (h : Lies w g x) (ha : a < 4) (hb : b < 4) (ho : others op) :
    Calls Tryd.prog 35 #[.pointer (some ⟨g, 0, none⟩), .agg #[.int .i64 op, .int .i64 a, .int .i64 b]] w fun e w' => e = .returned (.bool false) ∧ Below w.heap.size w w' := by
  have ca : w.cell? ⟨g, 1 + a, none⟩ = some (.int .i64 (x.r a)) := (blk_cell h _).trans (cells_reg x a ha)
  have cb : w.cell? ⟨g, 1 + b, none⟩ = some (.int .i64 (x.r b)) := (blk_cell h _).trans (cells_reg x b hb)
  have za := blk_frozen h (1 + a)
  have hp := blk_lt h
  have H := Lib.hid h
  have HA := Lib.hid ha
  have e0 : (0 : Int) ≤ (a : Int) := by omega
  have e1 : (a : Int) < 4 := by omega
  have f0 : (0 : Int) ≤ (b : Int) := by omega
  have f1 : (b : Int) < 4 := by omega
  clear h ha hb
  unfold others at ho
  rcases ho with rfl | rfl | rfl | rfl | rfl | rfl | rfl | rfl | rfl | rfl | rfl <;> (
    go_enter Tryd.func35, Tryd.ntmps35
    go_wp2_with fail
    go_quiet (fail)
    go_wp2_with fail
    go_ret
    exact ⟨rfl, boxed w _ _⟩)

set_option maxHeartbeats 1000000 in
theorem one_1 (g : Nat) (x : Mach) (a : Nat) (b : Int) (w : World) (h : Lies w g x) (ha : a < 4) :
    Calls Tryd.prog 36 #[.pointer (some ⟨g, 0, none⟩), .agg #[.int .i64 1, .int .i64 a, .int .i64 b]] w fun e w' => e = .returned (.tuple #[]) ∧ Lies w' g (x.setR a b) ∧ Keep g w w' := by
  have ca : w.cell? ⟨g, 1 + a, none⟩ = some (.int .i64 (x.r a)) := (blk_cell h _).trans (cells_reg x a ha)
  have za := blk_frozen h (1 + a)
  have hp := blk_lt h
  have H := Lib.hid h
  have HA := Lib.hid ha
  have e0 : (0 : Int) ≤ (a : Int) := by omega
  have e1 : (a : Int) < 4 := by omega
  have z0 := blk_frozen h 0
  have z9 := blk_frozen h 9
  have z10 := blk_frozen h 10
  have c0 : w.cell? ⟨g, 0, none⟩ = some (.int .i64 x.pc) := (blk_cell h 0).trans rfl
  have c7 : w.cell? ⟨g, 7, none⟩ = some (.int .i64 x.now) := (blk_cell h 7).trans rfl
  have c9 : w.cell? ⟨g, 9, none⟩ = some (.int .i64 x.ca) := (blk_cell h 9).trans rfl
  have c10 : w.cell? ⟨g, 10, none⟩ = some (.bool x.ha) := (blk_cell h 10).trans rfl
  clear h ha
  go_enter Tryd.func36, Tryd.ntmps36
  go_wp2_with fail
  go_quiet (fail)
  go_wp2_with fail
  go_end0
  exact ⟨rfl, (H.out.below (boxed w _ _)).put a HA.out _, (Keep.of_below (boxed w _ _)).set _ _⟩

set_option maxHeartbeats 1000000 in
theorem one_12 (g : Nat) (x : Mach) (a : Nat) (b : Int) (w : World) (h : Lies w g x) (ha : a < 4) :
    Calls Tryd.prog 36 #[.pointer (some ⟨g, 0, none⟩), .agg #[.int .i64 12, .int .i64 a, .int .i64 b]] w fun e w' => e = .returned (.tuple #[]) ∧ Lies w' g (x.setR a (RealG.halfX (x.r a))) ∧ Keep g w w' := by
  have ca : w.cell? ⟨g, 1 + a, none⟩ = some (.int .i64 (x.r a)) := (blk_cell h _).trans (cells_reg x a ha)
  have za := blk_frozen h (1 + a)
  have hp := blk_lt h
  have H := Lib.hid h
  have HA := Lib.hid ha
  have e0 : (0 : Int) ≤ (a : Int) := by omega
  have e1 : (a : Int) < 4 := by omega
  have z0 := blk_frozen h 0
  have z9 := blk_frozen h 9
  have z10 := blk_frozen h 10
  have c0 : w.cell? ⟨g, 0, none⟩ = some (.int .i64 x.pc) := (blk_cell h 0).trans rfl
  have c7 : w.cell? ⟨g, 7, none⟩ = some (.int .i64 x.now) := (blk_cell h 7).trans rfl
  have c9 : w.cell? ⟨g, 9, none⟩ = some (.int .i64 x.ca) := (blk_cell h 9).trans rfl
  have c10 : w.cell? ⟨g, 10, none⟩ = some (.bool x.ha) := (blk_cell h 10).trans rfl
  have hq : ∀ W, _ := fun W => RealG.half_any (x.r a) W
  have HQ := Lib.hid hq
  clear hq
  generalize RealG.halfX (x.r a) = q at *
  clear h ha
  go_enter Tryd.func36, Tryd.ntmps36
  go_wp2_with fail
  go_quiet (fail)
  go_wp2_with fail
  refine (HQ.out _).mono ?_
  rintro e w1 ⟨rfl, n1, rfl⟩
  go_wp2_with fail
  go_end0
  exact ⟨rfl, (H.out.below (boxed w _ _)).put a HA.out _, (Keep.of_below (boxed w _ _)).set _ _⟩

set_option maxHeartbeats 1000000 in
theorem one_13 (g : Nat) (x : Mach) (a : Nat) (b : Int) (w : World) (h : Lies w g x) (ha : a < 4) :
    Calls Tryd.prog 36 #[.pointer (some ⟨g, 0, none⟩), .agg #[.int .i64 13, .int .i64 a, .int .i64 b]] w fun e w' => e = .returned (.tuple #[]) ∧ Lies w' g (x.setR a (RealG.twiceX (x.r a))) ∧ Keep g w w' := by
  have ca : w.cell? ⟨g, 1 + a, none⟩ = some (.int .i64 (x.r a)) := (blk_cell h _).trans (cells_reg x a ha)
  have za := blk_frozen h (1 + a)
  have hp := blk_lt h
  have H := Lib.hid h
  have HA := Lib.hid ha
  have e0 : (0 : Int) ≤ (a : Int) := by omega
  have e1 : (a : Int) < 4 := by omega
  have z0 := blk_frozen h 0
  have z9 := blk_frozen h 9
  have z10 := blk_frozen h 10
  have c0 : w.cell? ⟨g, 0, none⟩ = some (.int .i64 x.pc) := (blk_cell h 0).trans rfl
  have c7 : w.cell? ⟨g, 7, none⟩ = some (.int .i64 x.now) := (blk_cell h 7).trans rfl
  have c9 : w.cell? ⟨g, 9, none⟩ = some (.int .i64 x.ca) := (blk_cell h 9).trans rfl
  have c10 : w.cell? ⟨g, 10, none⟩ = some (.bool x.ha) := (blk_cell h 10).trans rfl
  have hq : ∀ W, _ := fun W => RealG.twice_any (x.r a) W
  have HQ := Lib.hid hq
  clear hq
  generalize RealG.twiceX (x.r a) = q at *
  clear h ha
  go_enter Tryd.func36, Tryd.ntmps36
  go_wp2_with fail
  go_quiet (fail)
  go_wp2_with fail
  refine (HQ.out _).mono ?_
  rintro e w1 ⟨rfl, n1, rfl⟩
  go_wp2_with fail
  go_end0
  exact ⟨rfl, (H.out.below (boxed w _ _)).put a HA.out _, (Keep.of_below (boxed w _ _)).set _ _⟩

set_option maxHeartbeats 1000000 in
theorem one_14 (g : Nat) (x : Mach) (a : Nat) (b : Int) (w : World) (h : Lies w g x) (ha : a < 4) :
    Calls Tryd.prog 36 #[.pointer (some ⟨g, 0, none⟩), .agg #[.int .i64 14, .int .i64 a, .int .i64 b]] w fun e w' => e = .returned (.tuple #[]) ∧ Lies w' g (x.setR a (RealG.flipX (x.r a))) ∧ Keep g w w' := by
  have ca : w.cell? ⟨g, 1 + a, none⟩ = some (.int .i64 (x.r a)) := (blk_cell h _).trans (cells_reg x a ha)
  have za := blk_frozen h (1 + a)
  have hp := blk_lt h
  have H := Lib.hid h
  have HA := Lib.hid ha
  have e0 : (0 : Int) ≤ (a : Int) := by omega
  have e1 : (a : Int) < 4 := by omega
  have z0 := blk_frozen h 0
  have z9 := blk_frozen h 9
  have z10 := blk_frozen h 10
  have c0 : w.cell? ⟨g, 0, none⟩ = some (.int .i64 x.pc) := (blk_cell h 0).trans rfl
  have c7 : w.cell? ⟨g, 7, none⟩ = some (.int .i64 x.now) := (blk_cell h 7).trans rfl
  have c9 : w.cell? ⟨g, 9, none⟩ = some (.int .i64 x.ca) := (blk_cell h 9).trans rfl
  have c10 : w.cell? ⟨g, 10, none⟩ = some (.bool x.ha) := (blk_cell h 10).trans rfl
  have hq : ∀ W, _ := fun W => RealG.flip_eq (x.r a) W
  have HQ := Lib.hid hq
  clear hq
  generalize RealG.flipX (x.r a) = q at *
  clear h ha
  go_enter Tryd.func36, Tryd.ntmps36
  go_wp2_with fail
  go_quiet (fail)
  go_wp2_with fail
  refine (HQ.out _).mono ?_
  rintro e w1 ⟨rfl, n1, rfl⟩
  go_wp2_with fail
  go_end0
  exact ⟨rfl, (H.out.below (boxed w _ _)).put a HA.out _, (Keep.of_below (boxed w _ _)).set _ _⟩

set_option maxHeartbeats 1000000 in
theorem one_16 (g : Nat) (x : Mach) (a : Nat) (b : Int) (w : World) (h : Lies w g x) (ha : a < 4) :
    Calls Tryd.prog 36 #[.pointer (some ⟨g, 0, none⟩), .agg #[.int .i64 16, .int .i64 a, .int .i64 b]] w fun e w' => e = .returned (.tuple #[]) ∧ Lies w' g (x.setR a (RealG.ofX (x.r a))) ∧ Keep g w w' := by
  have ca : w.cell? ⟨g, 1 + a, none⟩ = some (.int .i64 (x.r a)) := (blk_cell h _).trans (cells_reg x a ha)
  have za := blk_frozen h (1 + a)
  have hp := blk_lt h
  have H := Lib.hid h
  have HA := Lib.hid ha
  have e0 : (0 : Int) ≤ (a : Int) := by omega
  have e1 : (a : Int) < 4 := by omega
  have z0 := blk_frozen h 0
  have z9 := blk_frozen h 9
  have z10 := blk_frozen h 10
  have c0 : w.cell? ⟨g, 0, none⟩ = some (.int .i64 x.pc) := (blk_cell h 0).trans rfl
  have c7 : w.cell? ⟨g, 7, none⟩ = some (.int .i64 x.now) := (blk_cell h 7).trans rfl
  have c9 : w.cell? ⟨g, 9, none⟩ = some (.int .i64 x.ca) := (blk_cell h 9).trans rfl
  have c10 : w.cell? ⟨g, 10, none⟩ = some (.bool x.ha) := (blk_cell h 10).trans rfl
  have hq : ∀ W, _ := fun W => RealG.of_eq (x.r a) W
  have HQ := Lib.hid hq
  clear hq
  generalize RealG.ofX (x.r a) = q at *
  clear h ha
  go_enter Tryd.func36, Tryd.ntmps36
  go_wp2_with fail
  go_quiet (fail)
  go_wp2_with fail
  refine (HQ.out _).mono ?_
  rintro e w1 ⟨rfl, n1, rfl⟩
  go_wp2_with fail
  go_end0
  exact ⟨rfl, (H.out.below (boxed w _ _)).put a HA.out _, (Keep.of_below (boxed w _ _)).set _ _⟩

set_option maxHeartbeats 1000000 in
theorem one_17 (g : Nat) (x : Mach) (a : Nat) (b : Int) (w : World) (h : Lies w g x) (ha : a < 4) :
    Calls Tryd.prog 36 #[.pointer (some ⟨g, 0, none⟩), .agg #[.int .i64 17, .int .i64 a, .int .i64 b]] w fun e w' => e = .returned (.tuple #[]) ∧ Lies w' g (x.setR a (RealG.wholeX (x.r a))) ∧ Keep g w w' := by
  have ca : w.cell? ⟨g, 1 + a, none⟩ = some (.int .i64 (x.r a)) := (blk_cell h _).trans (cells_reg x a ha)
  have za := blk_frozen h (1 + a)
  have hp := blk_lt h
  have H := Lib.hid h
  have HA := Lib.hid ha
  have e0 : (0 : Int) ≤ (a : Int) := by omega
  have e1 : (a : Int) < 4 := by omega
  have z0 := blk_frozen h 0
  have z9 := blk_frozen h 9
  have z10 := blk_frozen h 10
  have c0 : w.cell? ⟨g, 0, none⟩ = some (.int .i64 x.pc) := (blk_cell h 0).trans rfl
  have c7 : w.cell? ⟨g, 7, none⟩ = some (.int .i64 x.now) := (blk_cell h 7).trans rfl
  have c9 : w.cell? ⟨g, 9, none⟩ = some (.int .i64 x.ca) := (blk_cell h 9).trans rfl
  have c10 : w.cell? ⟨g, 10, none⟩ = some (.bool x.ha) := (blk_cell h 10).trans rfl
  have hq : ∀ W, _ := fun W => RealG.whole_eq (x.r a) W
  have HQ := Lib.hid hq
  clear hq
  generalize RealG.wholeX (x.r a) = q at *
  clear h ha
  go_enter Tryd.func36, Tryd.ntmps36
  go_wp2_with fail
  go_quiet (fail)
  go_wp2_with fail
  refine (HQ.out _).mono ?_
  rintro e w1 ⟨rfl, n1, rfl⟩
  go_wp2_with fail
  go_end0
  exact ⟨rfl, (H.out.below (boxed w _ _)).put a HA.out _, (Keep.of_below (boxed w _ _)).set _ _⟩

set_option maxHeartbeats 1000000 in
theorem one_18 (g : Nat) (x : Mach) (a : Nat) (b : Int) (w : World) (h : Lies w g x) (ha : a < 4) :
    Calls Tryd.prog 36 #[.pointer (some ⟨g, 0, none⟩), .agg #[.int .i64 18, .int .i64 a, .int .i64 b]] w fun e w' => e = .returned (.tuple #[]) ∧ Lies w' g ((x.told x.now).setR a x.now) ∧ Keep g w w' := by
  have ca : w.cell? ⟨g, 1 + a, none⟩ = some (.int .i64 (x.r a)) := (blk_cell h _).trans (cells_reg x a ha)
  have za := blk_frozen h (1 + a)
  have hp := blk_lt h
  have H := Lib.hid h
  have HA := Lib.hid ha
  have e0 : (0 : Int) ≤ (a : Int) := by omega
  have e1 : (a : Int) < 4 := by omega
  have z0 := blk_frozen h 0
  have z9 := blk_frozen h 9
  have z10 := blk_frozen h 10
  have c0 : w.cell? ⟨g, 0, none⟩ = some (.int .i64 x.pc) := (blk_cell h 0).trans rfl
  have c7 : w.cell? ⟨g, 7, none⟩ = some (.int .i64 x.now) := (blk_cell h 7).trans rfl
  have c9 : w.cell? ⟨g, 9, none⟩ = some (.int .i64 x.ca) := (blk_cell h 9).trans rfl
  have c10 : w.cell? ⟨g, 10, none⟩ = some (.bool x.ha) := (blk_cell h 10).trans rfl
  have hq : ∀ o n, _ := fun o n => read_any g x x.now ((w.alloc o).drewN n) (h.below (boxed w _ _))
  have HQ := Lib.hid hq
  clear hq
  clear h ha
  go_enter Tryd.func36, Tryd.ntmps36
  go_wp2_with fail
  go_quiet (fail)
  go_wp2_with fail
  refine (HQ.out _ _).mono ?_
  rintro e w1 ⟨rfl, hw1⟩
  have H1 := Lib.hid (show Lies w1 g (x.told x.now) by rw [hw1]; exact (H.out.below (boxed w _ _)).told _)
  have HK := Lib.hid (show Keep g w w1 by rw [hw1]; exact ((Keep.of_below (boxed w _ _)).set _ _).set _ _)
  clear hw1
  have da : w1.cell? ⟨g, 1 + a, none⟩ = some (.int .i64 (x.r a)) := (blk_cell H1.out _).trans (cells_reg (x.told x.now) a HA.out)
  have ya := blk_frozen H1.out (1 + a)
  go_wp2_with fail
  go_end0
  exact ⟨rfl, H1.out.put a HA.out _, HK.out.set _ _⟩

set_option maxHeartbeats 1000000 in
theorem one_10 (g : Nat) (x : Mach) (a : Nat) (b : Int) (w : World) (h : Lies w g x) (ha : a < 4) :
    Calls Tryd.prog 36 #[.pointer (some ⟨g, 0, none⟩), .agg #[.int .i64 10, .int .i64 a, .int .i64 b]] w fun e w' => e = .returned (.tuple #[]) ∧ Lies w' g ({ x with pc := b }) ∧ Keep g w w' := by
  have ca : w.cell? ⟨g, 1 + a, none⟩ = some (.int .i64 (x.r a)) := (blk_cell h _).trans (cells_reg x a ha)
  have za := blk_frozen h (1 + a)
  have hp := blk_lt h
  have H := Lib.hid h
  have HA := Lib.hid ha
  have e0 : (0 : Int) ≤ (a : Int) := by omega
  have e1 : (a : Int) < 4 := by omega
  have z0 := blk_frozen h 0
  have z9 := blk_frozen h 9
  have z10 := blk_frozen h 10
  have c0 : w.cell? ⟨g, 0, none⟩ = some (.int .i64 x.pc) := (blk_cell h 0).trans rfl
  have c7 : w.cell? ⟨g, 7, none⟩ = some (.int .i64 x.now) := (blk_cell h 7).trans rfl
  have c9 : w.cell? ⟨g, 9, none⟩ = some (.int .i64 x.ca) := (blk_cell h 9).trans rfl
  have c10 : w.cell? ⟨g, 10, none⟩ = some (.bool x.ha) := (blk_cell h 10).trans rfl
  clear h ha
  go_enter Tryd.func36, Tryd.ntmps36
  go_wp2_with fail
  go_quiet (fail)
  go_wp2_with fail
  go_end0
  exact ⟨rfl, lies_pc (H.out.below (boxed w _ _)) _, (Keep.of_below (boxed w _ _)).set _ _⟩

set_option maxHeartbeats 1000000 in
theorem one_11z (g : Nat) (x : Mach) (a : Nat) (b : Int) (w : World) (h : Lies w g x) (ha : a < 4) (hz : x.r a = 0) :
    Calls Tryd.prog 36 #[.pointer (some ⟨g, 0, none⟩), .agg #[.int .i64 11, .int .i64 a, .int .i64 b]] w fun e w' => e = .returned (.tuple #[]) ∧ Lies w' g ({ x with pc := b }) ∧ Keep g w w' := by
  have ca : w.cell? ⟨g, 1 + a, none⟩ = some (.int .i64 (x.r a)) := (blk_cell h _).trans (cells_reg x a ha)
  have za := blk_frozen h (1 + a)
  have hp := blk_lt h
  have H := Lib.hid h
  have HA := Lib.hid ha
  have e0 : (0 : Int) ≤ (a : Int) := by omega
  have e1 : (a : Int) < 4 := by omega
  have z0 := blk_frozen h 0
  have z9 := blk_frozen h 9
  have z10 := blk_frozen h 10
  have c0 : w.cell? ⟨g, 0, none⟩ = some (.int .i64 x.pc) := (blk_cell h 0).trans rfl
  have c7 : w.cell? ⟨g, 7, none⟩ = some (.int .i64 x.now) := (blk_cell h 7).trans rfl
  have c9 : w.cell? ⟨g, 9, none⟩ = some (.int .i64 x.ca) := (blk_cell h 9).trans rfl
  have c10 : w.cell? ⟨g, 10, none⟩ = some (.bool x.ha) := (blk_cell h 10).trans rfl
  rw [hz] at ca
  clear hz
  clear h ha
  go_enter Tryd.func36, Tryd.ntmps36
  go_wp2_with fail
  go_quiet (fail)
  go_wp2_with fail
  go_end0
  exact ⟨rfl, lies_pc (H.out.below (boxed w _ _)) _, (Keep.of_below (boxed w _ _)).set _ _⟩

set_option maxHeartbeats 1000000 in
theorem one_11n (g : Nat) (x : Mach) (a : Nat) (b : Int) (w : World) (h : Lies w g x) (ha : a < 4) (hz : ¬ x.r a = 0) :
    Calls Tryd.prog 36 #[.pointer (some ⟨g, 0, none⟩), .agg #[.int .i64 11, .int .i64 a, .int .i64 b]] w fun e w' => e = .returned (.tuple #[]) ∧ Lies w' g (x) ∧ Keep g w w' := by
  have ca : w.cell? ⟨g, 1 + a, none⟩ = some (.int .i64 (x.r a)) := (blk_cell h _).trans (cells_reg x a ha)
  have za := blk_frozen h (1 + a)
  have hp := blk_lt h
  have H := Lib.hid h
  have HA := Lib.hid ha
  have e0 : (0 : Int) ≤ (a : Int) := by omega
  have e1 : (a : Int) < 4 := by omega
  have z0 := blk_frozen h 0
  have z9 := blk_frozen h 9
  have z10 := blk_frozen h 10
  have c0 : w.cell? ⟨g, 0, none⟩ = some (.int .i64 x.pc) := (blk_cell h 0).trans rfl
  have c7 : w.cell? ⟨g, 7, none⟩ = some (.int .i64 x.now) := (blk_cell h 7).trans rfl
  have c9 : w.cell? ⟨g, 9, none⟩ = some (.int .i64 x.ca) := (blk_cell h 9).trans rfl
  have c10 : w.cell? ⟨g, 10, none⟩ = some (.bool x.ha) := (blk_cell h 10).trans rfl
  have hz' : (x.r a == 0) = false := by simp [hz]
  clear hz
  clear h ha
  go_enter Tryd.func36, Tryd.ntmps36
  go_wp2_with fail
  go_quiet (fail)
  go_wp2_with fail
  go_end0
  exact ⟨rfl, H.out.below (boxed w _ _), Keep.of_below (boxed w _ _)⟩

set_option maxHeartbeats 1000000 in
theorem one_19 (g : Nat) (x : Mach) (a : Nat) (b : Int) (w : World) (h : Lies w g x) (ha : a < 4) :
    Calls Tryd.prog 36 #[.pointer (some ⟨g, 0, none⟩), .agg #[.int .i64 19, .int .i64 a, .int .i64 b]] w fun e w' => e = .returned (.tuple #[]) ∧ Lies w' g ({ x with ca := b }) ∧ Keep g w w' := by
  have ca : w.cell? ⟨g, 1 + a, none⟩ = some (.int .i64 (x.r a)) := (blk_cell h _).trans (cells_reg x a ha)
  have za := blk_frozen h (1 + a)
  have hp := blk_lt h
  have H := Lib.hid h
  have HA := Lib.hid ha
  have e0 : (0 : Int) ≤ (a : Int) := by omega
  have e1 : (a : Int) < 4 := by omega
  have z0 := blk_frozen h 0
  have z9 := blk_frozen h 9
  have z10 := blk_frozen h 10
  have c0 : w.cell? ⟨g, 0, none⟩ = some (.int .i64 x.pc) := (blk_cell h 0).trans rfl
  have c7 : w.cell? ⟨g, 7, none⟩ = some (.int .i64 x.now) := (blk_cell h 7).trans rfl
  have c9 : w.cell? ⟨g, 9, none⟩ = some (.int .i64 x.ca) := (blk_cell h 9).trans rfl
  have c10 : w.cell? ⟨g, 10, none⟩ = some (.bool x.ha) := (blk_cell h 10).trans rfl
  clear h ha
  go_enter Tryd.func36, Tryd.ntmps36
  go_wp2_with fail
  go_quiet (fail)
  go_wp2_with fail
  go_end0
  exact ⟨rfl, lies_ca (H.out.below (boxed w _ _)) _, (Keep.of_below (boxed w _ _)).set _ _⟩

set_option maxHeartbeats 1000000 in
theorem one_0 (g : Nat) (x : Mach) (a : Nat) (b : Int) (w : World) (h : Lies w g x) (ha : a < 4) :
    Calls Tryd.prog 36 #[.pointer (some ⟨g, 0, none⟩), .agg #[.int .i64 0, .int .i64 a, .int .i64 b]] w fun e w' => e = .returned (.tuple #[]) ∧ Lies w' g ({ x with ha := true, pc := wrap64 (x.pc - 1) }) ∧ Keep g w w' := by
  have ca : w.cell? ⟨g, 1 + a, none⟩ = some (.int .i64 (x.r a)) := (blk_cell h _).trans (cells_reg x a ha)
  have za := blk_frozen h (1 + a)
  have hp := blk_lt h
  have H := Lib.hid h
  have HA := Lib.hid ha
  have e0 : (0 : Int) ≤ (a : Int) := by omega
  have e1 : (a : Int) < 4 := by omega
  have z0 := blk_frozen h 0
  have z9 := blk_frozen h 9
  have z10 := blk_frozen h 10
  have c0 : w.cell? ⟨g, 0, none⟩ = some (.int .i64 x.pc) := (blk_cell h 0).trans rfl
  have c7 : w.cell? ⟨g, 7, none⟩ = some (.int .i64 x.now) := (blk_cell h 7).trans rfl
  have c9 : w.cell? ⟨g, 9, none⟩ = some (.int .i64 x.ca) := (blk_cell h 9).trans rfl
  have c10 : w.cell? ⟨g, 10, none⟩ = some (.bool x.ha) := (blk_cell h 10).trans rfl
  clear h ha
  go_enter Tryd.func36, Tryd.ntmps36
  go_wp2_with fail
  go_quiet (fail)
  go_wp2_with fail
  go_end0
  exact ⟨rfl, lies_pc (x := { x with ha := true }) (lies_ha (H.out.below (boxed w _ _))) _, ((Keep.of_below (boxed w _ _)).set _ _).set _ _⟩

end Go.Proofs.YtlphgnfjemaliaaDoor.CpuB

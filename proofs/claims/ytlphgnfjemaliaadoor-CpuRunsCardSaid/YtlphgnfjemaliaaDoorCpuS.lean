/-
  What cpu.Step answers: a core, words and what the step came to, as a function of the code, the core, the words, the regions and the tick.
  Conditions: the tables hold what the program's text lays; the arguments lie in memory as told; at most 1,000,000 words.
-/
import Derived.Test.YtlphgnfjemaliaaDoorCpuC
namespace Go.Proofs.YtlphgnfjemaliaaDoor.CpuS
set_option maxRecDepth 100000
set_option linter.unusedVariables false
open Go.RowKit Go.Proofs.YtlphgnfjemaliaaDoorW.PrintWords Go.Proofs.YtlphgnfjemaliaaDoor.Mem Go.Proofs.YtlphgnfjemaliaaDoor.CpuA Go.Proofs.YtlphgnfjemaliaaDoor.CpuB Go.Proofs.YtlphgnfjemaliaaDoor.CpuC Go.Proofs.YtlphgnfjemaliaaDoor.Instr

theorem kind0 : ∀ o : Fin 20, kindN o.val 0 = 0 ∨ kindN o.val 0 = 1 := by decide
theorem may_facts {op a b : Int} (h : Instr.mayB op a b = true) : 0 ≤ op ∧ op < 20 ∧ 0 ≤ a ∧ a < 4 := by
  unfold Instr.mayB at h
  simp only [Bool.and_eq_true, decide_eq_true_eq] at h
  obtain ⟨⟨⟨h0, h1⟩, h2⟩, _⟩ := h
  refine ⟨h0, h1, ?_⟩
  rcases kind0 ⟨op.toNat, by omega⟩ with hk | hk <;> (simp only at hk; rw [hk] at h2; simp [fitsB, boundsT] at h2; omega)
theorem may_two {op : Nat} {a b : Int} (h : Instr.mayB op a b = true) (h2 : isTwo op = true) : 0 ≤ b ∧ b < 4 := by
  have hf := may_facts h
  obtain ⟨k0, k1⟩ := kinds_two ⟨op, by omega⟩ h2
  unfold Instr.mayB at h
  simp only [Bool.and_eq_true, decide_eq_true_eq, Int.toNat_natCast] at h k0 k1
  have h3 := h.2
  rw [k1] at h3
  simp [fitsB, boundsT] at h3
  omega

/-- A core. -/
structure Core where
  pc : Int
  r : Nat → Int
/-- What a step came to. -/
structure Outc where
  fl : Int
  ca : Int
  ha : Bool
  re : Bool
  va : Int
def Core.cells (c : Core) : Array Value := #[.int .i64 c.pc, .int .i64 (c.r 0), .int .i64 (c.r 1), .int .i64 (c.r 2), .int .i64 (c.r 3)]
def Outc.cells (o : Outc) : Array Value := #[.int .i64 o.fl, .int .i64 o.ca, .bool o.ha, .bool o.re, .int .i64 o.va]
/-- A machine's core, and what it tells. -/
def coreOf (x : Mach) : Core := ⟨x.pc, x.r⟩
def outOf (x : Mach) : Outc := ⟨x.fl, x.ca, x.ha, x.re, x.va⟩
def machIn (c : Core) (mv lv : Value) (now : Int) : Mach := ⟨c.pc, c.r, mv, lv, now, 0, -1, false, false, 0⟩
def badOut (f : Int) : Outc := ⟨f, -1, false, false, 0⟩
/-- The instruction that is next. -/
def nextI (code : List (Int × Int × Int)) (c : Core) : Int × Int × Int := code.getD c.pc.toNat zI
/-- The machine when the instruction begins. -/
def machGo (c : Core) (mv lv : Value) (now : Int) : Mach := { machIn c mv lv now with pc := c.pc + 1 }
/-- The fault of a step. -/
def stepF (code : List (Int × Int × Int)) (c : Core) (m : List Int) (xs : List Rg) (now : Int) : Int :=
  if okAt c.pc code = true then faultOf (nextI code c).1.toNat (nextI code c).2.1.toNat (nextI code c).2.2.toNat (machGo c (.slice none 0 0) (.slice none 0 0) now) m xs else 4
/-- The machine behind it. -/
def stepX (code : List (Int × Int × Int)) (c : Core) (m : List Int) (xs : List Rg) (now : Int) : Mach :=
  machOf (nextI code c).1.toNat (nextI code c).2.1.toNat (nextI code c).2.2.toNat (nextI code c).2.2 (machGo c (.slice none 0 0) (.slice none 0 0) now) m xs
def stepC (code : List (Int × Int × Int)) (c : Core) (m : List Int) (xs : List Rg) (now : Int) : Core := if stepF code c m xs now = 0 then coreOf (stepX code c m xs now) else c
def stepM (code : List (Int × Int × Int)) (c : Core) (m : List Int) (xs : List Rg) (now : Int) : List Int :=
  if stepF code c m xs now = 0 then memOf (nextI code c).1.toNat (nextI code c).2.1.toNat (nextI code c).2.2.toNat (machGo c (.slice none 0 0) (.slice none 0 0) now) m xs else m
def stepO (code : List (Int × Int × Int)) (c : Core) (m : List Int) (xs : List Rg) (now : Int) : Outc := if stepF code c m xs now = 0 then outOf (stepX code c m xs now) else badOut (stepF code c m xs now)

/-- The memory's and the regions' values are only carried. -/
theorem mach_mv (op a b : Nat) (bI : Int) (x : Mach) (m : List Int) (xs : List Rg) (u v : Value) :
    machOf op a b bI { x with mv := u, lv := v } m xs = { machOf op a b bI x m xs with mv := u, lv := v } := by
  unfold machOf
  split <;> first | rfl | (simp only; split <;> rfl)
theorem memOf_len (op a b : Nat) (x : Mach) (m : List Int) (xs : List Rg) (hf : faultOf op a b x m xs = 0) : (memOf op a b x m xs).length = m.length := by
  unfold memOf
  by_cases h9 : op = 9
  · subst h9
    rw [if_pos rfl]
    unfold faultOf at hf
    rw [if_neg (by decide), if_neg (by decide), if_pos rfl] at hf
    by_cases hw : wrongN m.length xs (x.r b) true = 0
    · unfold storeV; rw [if_pos hw, List.length_set]
    · rw [if_neg hw] at hf; omega
  · rw [if_neg h9]

/-- 'run', all ways. -/
theorem run_any (g : Nat) (cc : Core) (A : Option Addr) (c : Nat) (code : List (Int × Int × Int)) (w w0 : World) (hB0 : Below w0.heap.size w0 w) (hg0 : w0.heap.size ≤ g) (hc : CodeAt w0 A code) (hG : Glob w0)
    (M : Option Addr) (cm : Nat) (m : List Int) (A' : Option Addr) (c' : Nat) (xs : List Rg) (now : Int) (hrd : (Kd.int .i64).C w0 M m.length m) (hfew : m.length ≤ 1000000) (hrg : RegsAt w0 A' xs)
    (h : Lies w g (machIn cc (.slice M m.length cm) (.slice A' xs.length c') now)) :
    Calls Tryd.prog 19 #[.pointer (some ⟨g, 0, none⟩), .slice A code.length c] w fun e w' =>
      e = .returned (.int .i64 (stepF code cc m xs now)) ∧ Keep g w w' ∧ (stepF code cc m xs now = 0 → ∃ B d, Lies w' g { stepX code cc m xs now with mv := .slice B (stepM code cc m xs now).length d, lv := .slice A' xs.length c' } ∧ (Kd.int .i64).C w' B (stepM code cc m xs now).length (stepM code cc m xs now)) := by
  have hcw := hc.below hB0
  have hgw := hG.below hB0
  have hh : Has w0 (machIn cc (.slice M m.length cm) (.slice A' xs.length c') now) M cm m A' c' xs := ⟨rfl, rfl, hrd, hfew, hrg⟩
  by_cases hok : okAt cc.pc code = true
  · have hok' := hok
    unfold okAt at hok'
    simp only [Bool.and_eq_true, decide_eq_true_eq] at hok'
    obtain ⟨⟨h0, h1⟩, hm⟩ := hok'
    obtain ⟨⟨op, a, b⟩, hi⟩ : ∃ i, code.getD cc.pc.toNat zI = i := ⟨_, rfl⟩
    rw [hi] at hm
    simp only at hm
    obtain ⟨f0, f1, f2, f3⟩ := may_facts hm
    obtain ⟨o, rfl⟩ : ∃ o : Nat, op = (o : Int) := ⟨op.toNat, by omega⟩
    obtain ⟨an, rfl⟩ : ∃ an : Nat, a = (an : Int) := ⟨a.toNat, by omega⟩
    have eF : stepF code cc m xs now = faultOf o an b.toNat (machGo cc (.slice none 0 0) (.slice none 0 0) now) m xs := by
      unfold stepF nextI; rw [if_pos hok, hi]; simp only [Int.toNat_natCast]
    have eX : stepX code cc m xs now = machOf o an b.toNat b (machGo cc (.slice none 0 0) (.slice none 0 0) now) m xs := by
      unfold stepX nextI; rw [hi]; simp only [Int.toNat_natCast]
    have eM : stepF code cc m xs now = 0 → stepM code cc m xs now = memOf o an b.toNat (machGo cc (.slice none 0 0) (.slice none 0 0) now) m xs := fun h => by
      unfold stepM nextI; rw [if_pos h, hi]; simp only [Int.toNat_natCast]
    have eMV : machOf o an b.toNat b (machGo cc (.slice M m.length cm) (.slice A' xs.length c') now) m xs = { machOf o an b.toNat b (machGo cc (.slice none 0 0) (.slice none 0 0) now) m xs with mv := .slice M m.length cm, lv := .slice A' xs.length c' } :=
      mach_mv o an b.toNat b (machGo cc (.slice none 0 0) (.slice none 0 0) now) m xs _ _
    have fin : ∀ w' m', CpuC.Left g w w' (machOf o an b.toNat b (machGo cc (.slice M m.length cm) (.slice A' xs.length c') now) m xs) m m' →
        Keep g w w' ∧ ∃ B d, Lies w' g { machOf o an b.toNat b (machGo cc (.slice none 0 0) (.slice none 0 0) now) m xs with mv := .slice B m'.length d, lv := .slice A' xs.length c' } ∧ (Kd.int .i64).C w' B m'.length m' := by
      intro w' m' ⟨r, hl, hr, hk⟩
      refine ⟨hk, ?_⟩
      rw [eMV] at hl hr
      rcases hr with ⟨rfl, rfl⟩ | hr
      · exact ⟨M, cm, hl, Kd.C_below hrd (hk.below hB0 hg0)⟩
      · obtain ⟨B, d, rfl, _, hC⟩ := Kd.R_reads hr
        exact ⟨B, d, hl, hC⟩
    by_cases h2 : isTwo o = true
    · obtain ⟨b0, b1⟩ := may_two hm h2
      obtain ⟨bn, rfl⟩ : ∃ bn : Nat, b = (bn : Int) := ⟨b.toNat, by omega⟩
      rw [Int.toNat_natCast] at eF eX eM eMV fin
      by_cases hf : faultOf o an bn (machGo cc (.slice none 0 0) (.slice none 0 0) now) m xs = 0
      · refine (run_two g _ A c code w h hcw hgw w0 hB0 hg0 hh h0 h1 o an bn hi hm (by omega) (by omega) (by omega) h2 hf).mono ?_
        rintro e w' ⟨rfl, hl⟩
        obtain ⟨hk, hfin⟩ := fin w' _ hl
        rw [eF, hf]
        refine ⟨rfl, hk, fun _ => ?_⟩
        rw [eX, eM (eF.trans hf)]
        exact hfin
      · refine (run_bad g _ A c code w h hcw hgw w0 hB0 hg0 hh h0 h1 o an bn hi hm (by omega) (by omega) (by omega) hf).mono ?_
        rintro e w' ⟨rfl, hk⟩
        rw [eF]
        exact ⟨rfl, hk, fun h => absurd h hf⟩
    · have h2' : isTwo o = false := by simpa using h2
      have hf : faultOf o an b.toNat (machGo cc (.slice none 0 0) (.slice none 0 0) now) m xs = 0 := by
        unfold faultOf
        rw [if_neg (fun e => h2 (by subst e; rfl)), if_neg (fun e => h2 (by subst e; rfl)), if_neg (fun e => h2 (by subst e; rfl))]
      have hmem : memOf o an b.toNat (machGo cc (.slice none 0 0) (.slice none 0 0) now) m xs = m := by
        unfold memOf
        rw [if_neg (fun e => h2 (by subst e; rfl))]
      refine (run_one g _ A c code w h hcw hgw w0 hB0 hg0 hh h0 h1 o an b hi hm (by omega) (by omega) h2').mono ?_
      rintro e w' ⟨rfl, hl⟩
      obtain ⟨hk, hfin⟩ := fin w' _ hl
      rw [eF, hf]
      refine ⟨rfl, hk, fun _ => ?_⟩
      rw [eX, eM (eF.trans hf), hmem]
      exact hfin
  · have eF : stepF code cc m xs now = 4 := by unfold stepF; rw [if_neg hok]
    rw [eF]
    by_cases hp : cc.pc < 0 ∨ (code.length : Int) ≤ cc.pc
    · exact (run_low g _ A code.length c w h hp).mono fun e w' ⟨h1, h2⟩ => ⟨h1, h2, fun h => absurd h (by decide)⟩
    · have hm : Instr.mayB (code.getD cc.pc.toNat zI).1 (code.getD cc.pc.toNat zI).2.1 (code.getD cc.pc.toNat zI).2.2 = false := by
        rw [Bool.eq_false_iff]
        intro hm
        refine hok ?_
        unfold okAt
        rw [hm]
        simp
        omega
      exact (run_no g _ A c code w h hcw hgw (by show 0 ≤ cc.pc; omega) (by show cc.pc < _; omega) hm).mono fun e w' ⟨h1, h2⟩ => ⟨h1, h2, fun h => absurd h (by decide)⟩

/-- A core and what a step came to, as values. -/
def coreV (c : Core) : Value := .agg c.cells
def outV (o : Outc) : Value := .agg o.cells
theorem bcell2 {W w1 : World} (hb : Below W.heap.size W w1) : (∀ b o, b < W.heap.size → w1.cell? ⟨b, o, none⟩ = W.cell? ⟨b, o, none⟩) ∧ (∀ b o, b < W.heap.size → w1.frozen? ⟨b, o, none⟩ = W.frozen? ⟨b, o, none⟩) :=
  ⟨fun b o h => hb.cell (p := ⟨b, o, none⟩) h, fun b o h => hb.frozen (p := ⟨b, o, none⟩) h⟩
theorem bcell3 {W w1 : World} {n : Nat} (hb : Below (W.drewN n).heap.size (W.drewN n) w1) : (∀ b o, b < W.heap.size → w1.cell? ⟨b, o, none⟩ = W.cell? ⟨b, o, none⟩) ∧ (∀ b o, b < W.heap.size → w1.frozen? ⟨b, o, none⟩ = W.frozen? ⟨b, o, none⟩) :=
  ⟨fun b o h => hb.cell (p := ⟨b, o, none⟩) h, fun b o h => hb.frozen (p := ⟨b, o, none⟩) h⟩
def zeroC : Array Value := #[.int .i64 0, .int .i64 0, .int .i64 0, .int .i64 0, .int .i64 0]
def zeroO : Array Value := #[.int .i64 0, .int .i64 0, .bool false, .bool false, .int .i64 0]
def setC (w : World) (q : Nat) (c : Core) : World := ((((w.setCell ⟨q, 0, none⟩ (.int .i64 c.pc)).setCell ⟨q, 1, none⟩ (.int .i64 (c.r 0))).setCell ⟨q, 2, none⟩ (.int .i64 (c.r 1))).setCell ⟨q, 3, none⟩ (.int .i64 (c.r 2))).setCell ⟨q, 4, none⟩ (.int .i64 (c.r 3))
def setO (w : World) (q : Nat) (o : Outc) : World := ((((w.setCell ⟨q, 0, none⟩ (.int .i64 o.fl)).setCell ⟨q, 1, none⟩ (.int .i64 o.ca)).setCell ⟨q, 2, none⟩ (.bool o.ha)).setCell ⟨q, 3, none⟩ (.bool o.re)).setCell ⟨q, 4, none⟩ (.int .i64 o.va)
theorem setC_blk {w : World} {q : Nat} (h : w.heap[q]? = some (.cells zeroC 29 (0, 0))) (c : Core) : (setC w q c).heap[q]? = some (.cells c.cells 29 (0, 0)) :=
  blk_put (blk_put (blk_put (blk_put (blk_put h 0 _ rfl) 1 _ rfl) 2 _ rfl) 3 _ rfl) 4 _ rfl
theorem setO_blk {w : World} {q : Nat} (h : w.heap[q]? = some (.cells zeroO 34 (0, 0))) (o : Outc) : (setO w q o).heap[q]? = some (.cells o.cells 34 (0, 0)) :=
  blk_put (blk_put (blk_put (blk_put (blk_put h 0 _ rfl) 1 _ rfl) 2 _ rfl) 3 _ rfl) 4 _ rfl
theorem setC_far (w : World) {q k : Nat} (h : k ≠ q) (c : Core) : (setC w q c).heap[k]? = w.heap[k]? :=
  (Below.heap_setCell _ ⟨q, 4, none⟩ _ k h).trans ((Below.heap_setCell _ ⟨q, 3, none⟩ _ k h).trans ((Below.heap_setCell _ ⟨q, 2, none⟩ _ k h).trans ((Below.heap_setCell _ ⟨q, 1, none⟩ _ k h).trans (Below.heap_setCell _ ⟨q, 0, none⟩ _ k h))))
theorem setO_far (w : World) {q k : Nat} (h : k ≠ q) (o : Outc) : (setO w q o).heap[k]? = w.heap[k]? :=
  (Below.heap_setCell _ ⟨q, 4, none⟩ _ k h).trans ((Below.heap_setCell _ ⟨q, 3, none⟩ _ k h).trans ((Below.heap_setCell _ ⟨q, 2, none⟩ _ k h).trans ((Below.heap_setCell _ ⟨q, 1, none⟩ _ k h).trans (Below.heap_setCell _ ⟨q, 0, none⟩ _ k h))))
theorem setC_below {s : Nat} {w w2 : World} {q : Nat} (hb : Below s w w2) (hq : s ≤ q) (c : Core) : Below s w (setC w2 q c) := ((((hb.setCell hq _).setCell hq _).setCell hq _).setCell hq _).setCell hq _
theorem setO_below {s : Nat} {w w2 : World} {q : Nat} (hb : Below s w w2) (hq : s ≤ q) (o : Outc) : Below s w (setO w2 q o) := ((((hb.setCell hq _).setCell hq _).setCell hq _).setCell hq _).setCell hq _
/-- What the end of a step leaves. -/
theorem step_end {w w1 w2 : World} {n : Nat} (HB1 : Below w.heap.size w w1) (h1 : w1.heap[w.heap.size + 1]? = some (.cells zeroC 29 (0, 0))) (h2 : w1.heap[w.heap.size + 1 + 1]? = some (.cells zeroO 34 (0, 0)))
    (hb : Below (w1.drewN n).heap.size (w1.drewN n) w2) {v : Value} {m : List Int} (hr : (Kd.int .i64).R 3 w2 (w1.drewN n).heap.size (fun _ => True) v m) (c : Core) (o : Outc) :
    (setO (setC w2 (w.heap.size + 1) c) (w.heap.size + 1 + 1) o).heap[w.heap.size + 1]? = some (.cells c.cells 29 (0, 0)) ∧
    (setO (setC w2 (w.heap.size + 1) c) (w.heap.size + 1 + 1) o).heap[w.heap.size + 1 + 1]? = some (.cells o.cells 34 (0, 0)) ∧
    (Kd.int .i64).R 3 (setO (setC w2 (w.heap.size + 1) c) (w.heap.size + 1 + 1) o) w.heap.size (fun _ => True) v m ∧ Below w.heap.size w (setO (setC w2 (w.heap.size + 1) c) (w.heap.size + 1 + 1) o) := by
  have l1 := blk_lt h1
  have l2 := blk_lt h2
  have k1 : w2.heap[w.heap.size + 1]? = some (.cells zeroC 29 (0, 0)) := (hb.block _ l1).trans h1
  have k2 : w2.heap[w.heap.size + 1 + 1]? = some (.cells zeroO 34 (0, 0)) := (hb.block _ l2).trans h2
  refine ⟨?_, ?_, ?_, ?_⟩
  · rw [setO_far _ (by omega)]; exact setC_blk k1 c
  · exact setO_blk (by rw [setC_far _ (by omega)]; exact k2) o
  · refine Kd.R_mono (Kd.R_lower (Kd.R_step (Kd.R_bound hr) (fun k hk _ => ?_)) HB1.size) (fun _ _ => trivial)
    have h3 : w1.heap.size ≤ k := hk.2.1
    rw [setO_far _ (by omega), setC_far _ (by omega)]
  · exact setO_below (setC_below (btrans (bdrewN HB1 n) hb) (by omega) c) (by omega) o

/-- The world before the run: four new blocks. -/
theorem step_start (w : World) (cc : Core) (x : Mach) : ∃ W, W = (((w.alloc (.cells cc.cells 29)).alloc (.cells zeroC 29)).alloc (.cells zeroO 34)).alloc (.cells x.cells 54) ∧
    Below w.heap.size w W ∧ W.heap[w.heap.size]? = some (.cells cc.cells 29 (0, 0)) ∧ W.heap[w.heap.size + 1]? = some (.cells zeroC 29 (0, 0)) ∧
    W.heap[w.heap.size + 1 + 1]? = some (.cells zeroO 34 (0, 0)) ∧ Lies W (w.heap.size + 1 + 1 + 1) x := by
  have s1 := alloc_size w (.cells cc.cells 29)
  have s2 := alloc_size (w.alloc (.cells cc.cells 29)) (.cells zeroC 29)
  have s3 := alloc_size ((w.alloc (.cells cc.cells 29)).alloc (.cells zeroC 29)) (.cells zeroO 34)
  refine ⟨_, rfl, balloc (balloc (balloc (balloc (Below.refl _ _) _) _) _) _, blk_alloc (blk_alloc (blk_alloc (blk_new _ _) _) _) _, ?_, ?_, ?_⟩
  · have h := blk_new (w.alloc (.cells cc.cells 29)) (.cells zeroC 29)
    rw [s1] at h
    exact blk_alloc (blk_alloc h _) _
  · have h := blk_new ((w.alloc (.cells cc.cells 29)).alloc (.cells zeroC 29)) (.cells zeroO 34)
    rw [s2, s1] at h
    exact blk_alloc h _
  · have h := blk_new (((w.alloc (.cells cc.cells 29)).alloc (.cells zeroC 29)).alloc (.cells zeroO 34)) (.cells x.cells 54)
    rw [s3, s2, s1] at h
    exact h

set_option maxHeartbeats 4000000 in
theorem step_good (cc : Core) (A : Option Addr) (c : Nat) (code : List (Int × Int × Int)) (w : World) (hc : CodeAt w A code) (hG : Glob w)
    (M : Option Addr) (cm : Nat) (m : List Int) (A' : Option Addr) (c' : Nat) (xs : List Rg) (now : Int) (hrd : (Kd.int .i64).C w M m.length m) (hfew : m.length ≤ 1000000) (hrg : RegsAt w A' xs) (hf : stepF code cc m xs now = 0) :
    Calls Tryd.prog 11 #[.slice A code.length c, coreV cc, .slice M m.length cm, .slice A' xs.length c', .int .i64 now] w fun e w' =>
      ∃ v, e = .returned (.tuple #[coreV (stepC code cc m xs now), v, outV (stepO code cc m xs now)]) ∧ (Kd.int .i64).R 3 w' w.heap.size (fun _ => True) v (stepM code cc m xs now) ∧ Below w.heap.size w w' := by
  have hR := fun W g hB hg => run_any g cc A c code W w hB hg hc hG M cm m A' c' xs now hrd hfew hrg
  rw [hf] at hR
  have eC : stepC code cc m xs now = coreOf (stepX code cc m xs now) := by unfold stepC; rw [if_pos hf]
  have eO : stepO code cc m xs now = outOf (stepX code cc m xs now) := by unfold stepO; rw [if_pos hf]
  have hlen : (stepM code cc m xs now).length ≤ 1000000 := by
    unfold stepM
    rw [if_pos hf]
    unfold stepF at hf
    by_cases hok : okAt cc.pc code = true
    · rw [if_pos hok] at hf; rw [memOf_len _ _ _ _ _ _ hf]; exact hfew
    · rw [if_neg hok] at hf; omega
  rw [eC, eO]
  have HLEN := Lib.hid hlen
  obtain ⟨_, rfl, hBW, hq0, hq1, hq2, hL⟩ := step_start w cc (machIn cc (.slice M m.length cm) (.slice A' xs.length c') now)
  have hRW := hR _ _ hBW (by omega) hL
  have hsz := hBW.size
  have HRW := Lib.hid hRW
  have HBW := Lib.hid hBW
  have HQ0 := Lib.hid hq0
  have HQ1 := Lib.hid hq1
  have HQ2 := Lib.hid hq2
  clear hR hRW hc hG hrd hrg hBW hq0 hq1 hq2 hL hf eC eO hlen hfew
  generalize stepX code cc m xs now = X at *
  generalize stepM code cc m xs now = m' at *
  unfold coreV Core.cells
  go_enter Tryd.func11, Tryd.ntmps11
  go_wp2_with fail
  refine HRW.out.mono ?_
  rintro e w1 ⟨rfl, hk, hfin⟩
  obtain ⟨B, d, hl, hC⟩ := hfin trivial
  have HB1 := Lib.hid (hk.below HBW.out (by omega))
  have HQ0' := Lib.hid (show w1.heap[w.heap.size]? = some (.cells cc.cells 29 (0, 0)) by rw [hk.block _ (blk_lt HQ0.out) (by omega)]; exact HQ0.out)
  have HQ1' := Lib.hid (show w1.heap[w.heap.size + 1]? = some (.cells zeroC 29 (0, 0)) by rw [hk.block _ (blk_lt HQ1.out) (by omega)]; exact HQ1.out)
  have HQ2' := Lib.hid (show w1.heap[w.heap.size + 1 + 1]? = some (.cells zeroO 34 (0, 0)) by rw [hk.block _ (blk_lt HQ2.out) (by omega)]; exact HQ2.out)
  have hcl : ∀ n, _ := fun n => clone_all B d m' (w1.drewN n) (Kd.C_below hC (bel_drewN w1 n)) HLEN.out
  have HCL := Lib.hid hcl
  have HL := Lib.hid hl
  have l0 := blk_lt HQ0'.out
  have l1 := blk_lt HQ1'.out
  have l2 := blk_lt HQ2'.out
  have l3 := blk_lt hl
  have g0 : w1.cell? ⟨w.heap.size + 1 + 1 + 1, 0, none⟩ = some (.int .i64 X.pc) := (blk_cell hl 0).trans rfl
  have g1 : w1.cell? ⟨w.heap.size + 1 + 1 + 1, 1, none⟩ = some (.int .i64 (X.r 0)) := (blk_cell hl 1).trans rfl
  have g2 : w1.cell? ⟨w.heap.size + 1 + 1 + 1, 2, none⟩ = some (.int .i64 (X.r 1)) := (blk_cell hl 2).trans rfl
  have g3 : w1.cell? ⟨w.heap.size + 1 + 1 + 1, 3, none⟩ = some (.int .i64 (X.r 2)) := (blk_cell hl 3).trans rfl
  have g4 : w1.cell? ⟨w.heap.size + 1 + 1 + 1, 4, none⟩ = some (.int .i64 (X.r 3)) := (blk_cell hl 4).trans rfl
  have g5 : w1.cell? ⟨w.heap.size + 1 + 1 + 1, 5, none⟩ = some (.slice B m'.length d) := (blk_cell hl 5).trans rfl
  have g8 : w1.cell? ⟨w.heap.size + 1 + 1 + 1, 8, none⟩ = some (.int .i64 X.fl) := (blk_cell hl 8).trans rfl
  have g9 : w1.cell? ⟨w.heap.size + 1 + 1 + 1, 9, none⟩ = some (.int .i64 X.ca) := (blk_cell hl 9).trans rfl
  have g10 : w1.cell? ⟨w.heap.size + 1 + 1 + 1, 10, none⟩ = some (.bool X.ha) := (blk_cell hl 10).trans rfl
  have g11 : w1.cell? ⟨w.heap.size + 1 + 1 + 1, 11, none⟩ = some (.bool X.re) := (blk_cell hl 11).trans rfl
  have g12 : w1.cell? ⟨w.heap.size + 1 + 1 + 1, 12, none⟩ = some (.int .i64 X.va) := (blk_cell hl 12).trans rfl
  have i0 : w1.cell? ⟨w.heap.size + 1, 0, none⟩ = some (.int .i64 0) := (blk_cell HQ1'.out 0).trans rfl
  have i1 : w1.cell? ⟨w.heap.size + 1, 1, none⟩ = some (.int .i64 0) := (blk_cell HQ1'.out 1).trans rfl
  have i2 : w1.cell? ⟨w.heap.size + 1, 2, none⟩ = some (.int .i64 0) := (blk_cell HQ1'.out 2).trans rfl
  have i3 : w1.cell? ⟨w.heap.size + 1, 3, none⟩ = some (.int .i64 0) := (blk_cell HQ1'.out 3).trans rfl
  have i4 : w1.cell? ⟨w.heap.size + 1, 4, none⟩ = some (.int .i64 0) := (blk_cell HQ1'.out 4).trans rfl
  have j0 : w1.cell? ⟨w.heap.size + 1 + 1, 0, none⟩ = some (.int .i64 0) := (blk_cell HQ2'.out 0).trans rfl
  have j1 : w1.cell? ⟨w.heap.size + 1 + 1, 1, none⟩ = some (.int .i64 0) := (blk_cell HQ2'.out 1).trans rfl
  have j2 : w1.cell? ⟨w.heap.size + 1 + 1, 2, none⟩ = some (.bool false) := (blk_cell HQ2'.out 2).trans rfl
  have j3 : w1.cell? ⟨w.heap.size + 1 + 1, 3, none⟩ = some (.bool false) := (blk_cell HQ2'.out 3).trans rfl
  have j4 : w1.cell? ⟨w.heap.size + 1 + 1, 4, none⟩ = some (.int .i64 0) := (blk_cell HQ2'.out 4).trans rfl
  have y0 := blk_frozen HQ1'.out 0
  have y1 := blk_frozen HQ1'.out 1
  have y2 := blk_frozen HQ1'.out 2
  have y3 := blk_frozen HQ1'.out 3
  have y4 := blk_frozen HQ1'.out 4
  have z0 := blk_frozen HQ2'.out 0
  have z1 := blk_frozen HQ2'.out 1
  have z2 := blk_frozen HQ2'.out 2
  have z3 := blk_frozen HQ2'.out 3
  have z4 := blk_frozen HQ2'.out 4
  clear hcl hl hC hk hfin
  go_wp2_with fail
  go_region_with ((go_at_call 20; refine (HCL.out _).mono ?_; rintro e w2 ⟨v, rfl, hr, hb⟩; obtain ⟨hcc, hff⟩ := bcell3 hb; obtain ⟨V1, V2, rfl, _, _⟩ := Kd.R_reads hr))
  all_goals (
    have HE := Lib.hid (step_end HB1.out HQ1'.out HQ2'.out hb hr (coreOf X) (outOf X))
    clear hcc hff hb hr l0 l1 l2 l3 g0 g1 g2 g3 g4 g5 g8 g9 g10 g11 g12 i0 i1 i2 i3 i4 j0 j1 j2 j3 j4 y0 y1 y2 y3 y4 z0 z1 z2 z3 z4
    generalize hq1 : w.heap.size + 1 = q1 at *
    generalize hq2 : q1 + 1 = q2 at *
    clear hq1 hq2
    go_wp2_with fail
    refine bodyPost_ret (results_list (rs := [.cell 10 29, .tmp 11, .cell 12 34]) rfl (by simp) (.cell q1 29 (coreOf X).cells (0, 0) _ rfl HE.out.1 Tryd.underlying29 rfl (by kernel_rfl) (.tmp (.cell q2 34 (outOf X).cells (0, 0) _ rfl HE.out.2.1 Tryd.underlying34 rfl (by kernel_rfl) .nil)))) rfl ?_
    exact ⟨_, rfl, HE.out.2.2⟩)
set_option maxHeartbeats 4000000 in
theorem step_bad (cc : Core) (A : Option Addr) (c : Nat) (code : List (Int × Int × Int)) (w : World) (hc : CodeAt w A code) (hG : Glob w)
    (M : Option Addr) (cm : Nat) (m : List Int) (A' : Option Addr) (c' : Nat) (xs : List Rg) (now : Int) (hrd : (Kd.int .i64).C w M m.length m) (hfew : m.length ≤ 1000000) (hrg : RegsAt w A' xs) (hf : ¬ stepF code cc m xs now = 0) :
    Calls Tryd.prog 11 #[.slice A code.length c, coreV cc, .slice M m.length cm, .slice A' xs.length c', .int .i64 now] w fun e w' =>
      ∃ v, e = .returned (.tuple #[coreV (stepC code cc m xs now), v, outV (stepO code cc m xs now)]) ∧ (Kd.int .i64).R 3 w' w.heap.size (fun _ => True) v (stepM code cc m xs now) ∧ Below w.heap.size w w' := by
  have hR := fun W g hB hg => run_any g cc A c code W w hB hg hc hG M cm m A' c' xs now hrd hfew hrg
  have eC : stepC code cc m xs now = cc := by unfold stepC; rw [if_neg hf]
  have eO : stepO code cc m xs now = badOut (stepF code cc m xs now) := by unfold stepO; rw [if_neg hf]
  have eM : stepM code cc m xs now = m := by unfold stepM; rw [if_neg hf]
  rw [eC, eO, eM]
  have hlen := hfew
  have HRD := Lib.hid hrd
  have fb : (stepF code cc m xs now == 0) = false := by simp [hf]
  have HLEN := Lib.hid hlen
  obtain ⟨_, rfl, hBW, hq0, hq1, hq2, hL⟩ := step_start w cc (machIn cc (.slice M m.length cm) (.slice A' xs.length c') now)
  have hRW := hR _ _ hBW (by omega) hL
  have hsz := hBW.size
  have HRW := Lib.hid hRW
  have HBW := Lib.hid hBW
  have HQ0 := Lib.hid hq0
  have HQ1 := Lib.hid hq1
  have HQ2 := Lib.hid hq2
  clear hR hRW hc hG hrd hrg hBW hq0 hq1 hq2 hL hf eC eO eM hlen hfew
  generalize stepX code cc m xs now = X at *
  generalize stepM code cc m xs now = m' at *
  generalize stepF code cc m xs now = f at *
  unfold coreV Core.cells
  go_enter Tryd.func11, Tryd.ntmps11
  go_wp2_with fail
  refine HRW.out.mono ?_
  rintro e w1 ⟨rfl, hk, hfin⟩
  have HB1 := Lib.hid (hk.below HBW.out (by omega))
  have HQ0' := Lib.hid (show w1.heap[w.heap.size]? = some (.cells cc.cells 29 (0, 0)) by rw [hk.block _ (blk_lt HQ0.out) (by omega)]; exact HQ0.out)
  have HQ1' := Lib.hid (show w1.heap[w.heap.size + 1]? = some (.cells zeroC 29 (0, 0)) by rw [hk.block _ (blk_lt HQ1.out) (by omega)]; exact HQ1.out)
  have HQ2' := Lib.hid (show w1.heap[w.heap.size + 1 + 1]? = some (.cells zeroO 34 (0, 0)) by rw [hk.block _ (blk_lt HQ2.out) (by omega)]; exact HQ2.out)
  have hcl : ∀ n, _ := fun n => clone_all M cm m (w1.drewN n) (Kd.C_below HRD.out (bdrewN HB1.out n)) HLEN.out
  have HCL := Lib.hid hcl
  have l0 := blk_lt HQ0'.out
  have l1 := blk_lt HQ1'.out
  have l2 := blk_lt HQ2'.out
  have g0 : w1.cell? ⟨w.heap.size, 0, none⟩ = some (.int .i64 cc.pc) := (blk_cell HQ0'.out 0).trans rfl
  have g1 : w1.cell? ⟨w.heap.size, 1, none⟩ = some (.int .i64 (cc.r 0)) := (blk_cell HQ0'.out 1).trans rfl
  have g2 : w1.cell? ⟨w.heap.size, 2, none⟩ = some (.int .i64 (cc.r 1)) := (blk_cell HQ0'.out 2).trans rfl
  have g3 : w1.cell? ⟨w.heap.size, 3, none⟩ = some (.int .i64 (cc.r 2)) := (blk_cell HQ0'.out 3).trans rfl
  have g4 : w1.cell? ⟨w.heap.size, 4, none⟩ = some (.int .i64 (cc.r 3)) := (blk_cell HQ0'.out 4).trans rfl
  have i0 : w1.cell? ⟨w.heap.size + 1, 0, none⟩ = some (.int .i64 0) := (blk_cell HQ1'.out 0).trans rfl
  have i1 : w1.cell? ⟨w.heap.size + 1, 1, none⟩ = some (.int .i64 0) := (blk_cell HQ1'.out 1).trans rfl
  have i2 : w1.cell? ⟨w.heap.size + 1, 2, none⟩ = some (.int .i64 0) := (blk_cell HQ1'.out 2).trans rfl
  have i3 : w1.cell? ⟨w.heap.size + 1, 3, none⟩ = some (.int .i64 0) := (blk_cell HQ1'.out 3).trans rfl
  have i4 : w1.cell? ⟨w.heap.size + 1, 4, none⟩ = some (.int .i64 0) := (blk_cell HQ1'.out 4).trans rfl
  have j0 : w1.cell? ⟨w.heap.size + 1 + 1, 0, none⟩ = some (.int .i64 0) := (blk_cell HQ2'.out 0).trans rfl
  have j1 : w1.cell? ⟨w.heap.size + 1 + 1, 1, none⟩ = some (.int .i64 0) := (blk_cell HQ2'.out 1).trans rfl
  have j2 : w1.cell? ⟨w.heap.size + 1 + 1, 2, none⟩ = some (.bool false) := (blk_cell HQ2'.out 2).trans rfl
  have j3 : w1.cell? ⟨w.heap.size + 1 + 1, 3, none⟩ = some (.bool false) := (blk_cell HQ2'.out 3).trans rfl
  have j4 : w1.cell? ⟨w.heap.size + 1 + 1, 4, none⟩ = some (.int .i64 0) := (blk_cell HQ2'.out 4).trans rfl
  have y0 := blk_frozen HQ1'.out 0
  have y1 := blk_frozen HQ1'.out 1
  have y2 := blk_frozen HQ1'.out 2
  have y3 := blk_frozen HQ1'.out 3
  have y4 := blk_frozen HQ1'.out 4
  have z0 := blk_frozen HQ2'.out 0
  have z1 := blk_frozen HQ2'.out 1
  have z2 := blk_frozen HQ2'.out 2
  have z3 := blk_frozen HQ2'.out 3
  have z4 := blk_frozen HQ2'.out 4
  clear hcl hk hfin
  go_wp2_with fail
  go_region_with ((go_at_call 20; refine (HCL.out _).mono ?_; rintro e w2 ⟨v, rfl, hr, hb⟩; obtain ⟨hcc, hff⟩ := bcell3 hb; obtain ⟨V1, V2, rfl, _, _⟩ := Kd.R_reads hr))
  all_goals (
    have HE := Lib.hid (step_end HB1.out HQ1'.out HQ2'.out hb hr cc (badOut f))
    clear hcc hff hb hr l0 l1 l2 g0 g1 g2 g3 g4 i0 i1 i2 i3 i4 j0 j1 j2 j3 j4 y0 y1 y2 y3 y4 z0 z1 z2 z3 z4
    generalize hq1 : w.heap.size + 1 = q1 at *
    generalize hq2 : q1 + 1 = q2 at *
    clear hq1 hq2
    go_wp2_with fail
    refine bodyPost_ret (results_list (rs := [.cell 10 29, .tmp 11, .cell 12 34]) rfl (by simp) (.cell q1 29 cc.cells (0, 0) _ rfl HE.out.1 Tryd.underlying29 rfl (by kernel_rfl) (.tmp (.cell q2 34 (badOut f).cells (0, 0) _ rfl HE.out.2.1 Tryd.underlying34 rfl (by kernel_rfl) .nil)))) rfl ?_
    exact ⟨_, rfl, HE.out.2.2⟩)
theorem step_any (cc : Core) (A : Option Addr) (c : Nat) (code : List (Int × Int × Int)) (w : World) (hc : CodeAt w A code) (hG : Glob w)
    (M : Option Addr) (cm : Nat) (m : List Int) (A' : Option Addr) (c' : Nat) (xs : List Rg) (now : Int) (hrd : (Kd.int .i64).C w M m.length m) (hfew : m.length ≤ 1000000) (hrg : RegsAt w A' xs) :
    Calls Tryd.prog 11 #[.slice A code.length c, coreV cc, .slice M m.length cm, .slice A' xs.length c', .int .i64 now] w fun e w' =>
      ∃ v, e = .returned (.tuple #[coreV (stepC code cc m xs now), v, outV (stepO code cc m xs now)]) ∧ (Kd.int .i64).R 3 w' w.heap.size (fun _ => True) v (stepM code cc m xs now) ∧ Below w.heap.size w w' := by
  by_cases hf : stepF code cc m xs now = 0
  · exact step_good cc A c code w hc hG M cm m A' c' xs now hrd hfew hrg hf
  · exact step_bad cc A c code w hc hG M cm m A' c' xs now hrd hfew hrg hf
end Go.Proofs.YtlphgnfjemaliaaDoor.CpuS

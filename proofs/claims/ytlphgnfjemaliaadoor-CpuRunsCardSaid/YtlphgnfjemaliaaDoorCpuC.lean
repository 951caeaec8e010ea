/-
  What cpu.Step answers: the machine's two methods as functions of what lies in memory, one instruction run to its end or its fault, and the copy that comes back.
  Conditions: the tables hold what the program's text lays; the arguments lie in memory as told; at most 1,000,000 words.
-/
import Derived.Test.YtlphgnfjemaliaaDoorCpuB
import Derived.Test.YtlphgnfjemaliaaDoorInstr
import Derived.Defers
import Derived.Recover
namespace Go.Proofs.YtlphgnfjemaliaaDoor.CpuC
set_option maxRecDepth 100000
set_option linter.unusedVariables false
open Go.RowKit Go.Proofs.YtlphgnfjemaliaaDoorW.PrintWords Go.Proofs.YtlphgnfjemaliaaDoor.Mem Go.Proofs.YtlphgnfjemaliaaDoor.CpuA Go.Proofs.YtlphgnfjemaliaaDoor.CpuB Go.Proofs.YtlphgnfjemaliaaDoor.Instr

/-- The fault of an instruction that may be. -/
def faultOf (op : Nat) (a b : Nat) (x : Mach) (m : List Int) (xs : List Rg) : Int :=
  if op = 6 then (Div.divI (x.r a) (x.r b)).2
  else if op = 8 then (if wrongN m.length xs (x.r b) false = 0 then 0 else 5)
  else if op = 9 then (if wrongN m.length xs (x.r b) true = 0 then 0 else 5) else 0
/-- The memory behind it. -/
def memOf (op : Nat) (a b : Nat) (x : Mach) (m : List Int) (xs : List Rg) : List Int := if op = 9 then storeV m xs (x.r b) (x.r a) else m
/-- The machine behind it (but for the memory). -/
def machOf (op : Nat) (a b : Nat) (bI : Int) (x : Mach) (m : List Int) (xs : List Rg) : Mach :=
  match op with
  | 0 => { x with ha := true, pc := wrap64 (x.pc - 1) }
  | 1 => x.setR a bI
  | 2 => x.setR a (x.r b)
  | 3 => x.setR a (wrap64 (x.r a + x.r b))
  | 4 => x.setR a (wrap64 (x.r a - x.r b))
  | 5 => x.setR a (wrap64 (x.r a * x.r b))
  | 6 => x.setR a (Div.divI (x.r a) (x.r b)).1
  | 7 => x.setR a (bitI (decide (x.r a < x.r b)))
  | 8 => (x.told (loadV m xs (x.r b))).setR a (loadV m xs (x.r b))
  | 9 => x
  | 10 => { x with pc := bI }
  | 11 => if x.r a = 0 then { x with pc := bI } else x
  | 12 => x.setR a (RealG.halfX (x.r a))
  | 13 => x.setR a (RealG.twiceX (x.r a))
  | 14 => x.setR a (RealG.flipX (x.r a))
  | 15 => x.setR a (bitI (RealG.belowX (x.r a) (x.r b)))
  | 16 => x.setR a (RealG.ofX (x.r a))
  | 17 => x.setR a (RealG.wholeX (x.r a))
  | 18 => (x.told x.now).setR a x.now
  | 19 => { x with ca := bI }
  | _ => x

/-- What a walk leaves of the machine: it lies there, the memory new or as it was. -/
def Left (g : Nat) (w w' : World) (x : Mach) (m m' : List Int) : Prop :=
  ∃ r, Lies w' g { x with mv := r } ∧ ((r = x.mv ∧ m' = m) ∨ (Kd.int .i64).R 3 w' w.heap.size (fun _ => True) r m') ∧ Keep g w w'
theorem Left.same {g : Nat} {w w' : World} {x : Mach} {m : List Int} (h : Lies w' g x) (k : Keep g w w') : Left g w w' x m m := ⟨x.mv, h, .inl ⟨rfl, rfl⟩, k⟩

/-- Is it one of two registers? -/
def isTwo (op : Nat) : Bool := op == 2 || op == 3 || op == 4 || op == 5 || op == 6 || op == 7 || op == 8 || op == 9 || op == 15
theorem kinds_two : ∀ o : Fin 20, isTwo o.val = true → kindN o.val 0 = 1 ∧ kindN o.val 1 = 1 := by decide
theorem not_two (o : Nat) (ho : o < 20) (h : isTwo o = false) : others (o : Int) := by
  simp [isTwo] at h
  unfold others
  omega

section
variable (g : Nat) (x : Mach) (a b : Nat) (w : World) (h : Lies w g x) (ha : a < 4) (hb : b < 4)
variable {M : Option Addr} {cm : Nat} {m : List Int} {A : Option Addr} {c : Nat} {xs : List Rg} (hh : Has w x M cm m A c xs)
include h ha hb hh
/-- 'two', where it does the instruction to its end. -/
theorem two_ok (op : Nat) (ho : op < 20) (h2 : isTwo op = true) (hf : faultOf op a b x m xs = 0) :
    Calls Tryd.prog 35 #[.pointer (some ⟨g, 0, none⟩), .agg #[.int .i64 op, .int .i64 a, .int .i64 b]] w fun e w' => e = .returned (.bool true) ∧ Left g w w' (machOf op a b b x m xs) m (memOf op a b x m xs) := by
  have hop : op = 2 ∨ op = 3 ∨ op = 4 ∨ op = 5 ∨ op = 6 ∨ op = 7 ∨ op = 8 ∨ op = 9 ∨ op = 15 := by
    simp [isTwo] at h2; omega
  rcases hop with rfl | rfl | rfl | rfl | rfl | rfl | rfl | rfl | rfl
  · exact (two_2 g x a b w h ha hb).mono fun e w' ⟨h1, h2, h3⟩ => ⟨h1, Left.same h2 h3⟩
  · exact (two_3 g x a b w h ha hb).mono fun e w' ⟨h1, h2, h3⟩ => ⟨h1, Left.same h2 h3⟩
  · exact (two_4 g x a b w h ha hb).mono fun e w' ⟨h1, h2, h3⟩ => ⟨h1, Left.same h2 h3⟩
  · exact (two_5 g x a b w h ha hb).mono fun e w' ⟨h1, h2, h3⟩ => ⟨h1, Left.same h2 h3⟩
  · exact (two_6 g x a b w h ha hb hf).mono fun e w' ⟨h1, h2, h3⟩ => ⟨h1, Left.same h2 h3⟩
  · exact (two_7 g x a b w h ha hb).mono fun e w' ⟨h1, h2, h3⟩ => ⟨h1, Left.same h2 h3⟩
  · have h0 : wrongN m.length xs (x.r b) false = 0 := by
      rcases Classical.em (wrongN m.length xs (x.r b) false = 0) with h | h
      · exact h
      · unfold faultOf at hf; rw [if_neg (by decide), if_pos rfl, if_neg h] at hf; omega
    exact (two_8 g x a b w h ha hb hh h0).mono fun e w' ⟨h1, h2, h3⟩ => ⟨h1, Left.same h2 h3⟩
  · have h0 : wrongN m.length xs (x.r b) true = 0 := by
      rcases Classical.em (wrongN m.length xs (x.r b) true = 0) with h | h
      · exact h
      · unfold faultOf at hf; rw [if_neg (by decide), if_neg (by decide), if_pos rfl, if_neg h] at hf; omega
    exact (two_9 g x a b w h ha hb hh h0).mono fun e w' ⟨h1, r, h2, h3, h4⟩ => ⟨h1, r, h2, .inr h3, h4⟩
  · exact (two_15 g x a b w h ha hb).mono fun e w' ⟨h1, h2, h3⟩ => ⟨h1, Left.same h2 h3⟩
/-- 'two', where it ends with a fault. -/
theorem two_bad (op : Nat) (ho : op < 20) (hf : ¬ faultOf op a b x m xs = 0) :
    Calls Tryd.prog 35 #[.pointer (some ⟨g, 0, none⟩), .agg #[.int .i64 op, .int .i64 a, .int .i64 b]] w fun e w' => e = faulted (faultOf op a b x m xs) ∧ Keep g w w' := by
  have hop : op = 6 ∨ op = 8 ∨ op = 9 := by
    unfold faultOf at hf
    by_cases h6 : op = 6
    · exact .inl h6
    · rw [if_neg h6] at hf
      by_cases h8 : op = 8
      · exact .inr (.inl h8)
      · rw [if_neg h8] at hf
        by_cases h9 : op = 9
        · exact .inr (.inr h9)
        · rw [if_neg h9] at hf; exact absurd rfl hf
  rcases hop with rfl | rfl | rfl
  · exact two_6_bad g x a b w h ha hb hf
  · have hw : ¬ wrongN m.length xs (x.r b) false = 0 := fun e => hf (by unfold faultOf; rw [if_neg (by decide), if_pos rfl, if_pos e])
    have e : faultOf 8 a b x m xs = 5 := by unfold faultOf; rw [if_neg (by decide), if_pos rfl, if_neg hw]
    rw [e]
    exact two_8_bad g x a b w h ha hb hh hw
  · have hw : ¬ wrongN m.length xs (x.r b) true = 0 := fun e => hf (by unfold faultOf; rw [if_neg (by decide), if_neg (by decide), if_pos rfl, if_pos e])
    have e : faultOf 9 a b x m xs = 5 := by unfold faultOf; rw [if_neg (by decide), if_neg (by decide), if_pos rfl, if_neg hw]
    rw [e]
    exact two_9_bad g x a b w h ha hb hh hw
end

/-- 'one'. -/
theorem one_any (g : Nat) (x : Mach) (a : Nat) (b : Int) (w : World) (h : Lies w g x) (ha : a < 4) (m : List Int) (xs : List Rg) (op : Nat) (ho : op < 20) (h2 : isTwo op = false) :
    Calls Tryd.prog 36 #[.pointer (some ⟨g, 0, none⟩), .agg #[.int .i64 op, .int .i64 a, .int .i64 b]] w fun e w' => e = .returned (.tuple #[]) ∧ Lies w' g (machOf op a b.toNat b x m xs) ∧ Keep g w w' := by
  have hop : op = 0 ∨ op = 1 ∨ op = 10 ∨ op = 11 ∨ op = 12 ∨ op = 13 ∨ op = 14 ∨ op = 16 ∨ op = 17 ∨ op = 18 ∨ op = 19 := by
    simp [isTwo] at h2; omega
  rcases hop with rfl | rfl | rfl | rfl | rfl | rfl | rfl | rfl | rfl | rfl | rfl
  · exact one_0 g x a b w h ha
  · exact one_1 g x a b w h ha
  · exact one_10 g x a b w h ha
  · unfold machOf
    by_cases hz : x.r a = 0
    · rw [if_pos hz]; exact one_11z g x a b w h ha hz
    · rw [if_neg hz]; exact one_11n g x a b w h ha hz
  · exact one_12 g x a b w h ha
  · exact one_13 g x a b w h ha
  · exact one_14 g x a b w h ha
  · exact one_16 g x a b w h ha
  · exact one_17 g x a b w h ha
  · exact one_18 g x a b w h ha
  · exact one_19 g x a b w h ha

/-- Instructions that lie in memory. -/
def CodeAt (w : World) (A : Option Addr) (xs : List (Int × Int × Int)) : Prop :=
  xs.length ≤ 9223372036854775807 ∧ (0 < xs.length → ∃ ad : Addr, A = some ad ∧ ∀ i x, xs[i]? = some x →
    w.cell? (ad.add (i * 3)) = some (.int .i64 x.1) ∧ w.cell? ⟨(ad.add (i * 3)).block, (ad.add (i * 3)).off + 1, none⟩ = some (.int .i64 x.2.1) ∧ w.cell? ⟨(ad.add (i * 3)).block, (ad.add (i * 3)).off + 2, none⟩ = some (.int .i64 x.2.2))
theorem CodeAt.below {w w1 : World} {A : Option Addr} {xs : List (Int × Int × Int)} (h : CodeAt w A xs) (hb : Below w.heap.size w w1) : CodeAt w1 A xs :=
  ⟨h.1, fun hn => by
    obtain ⟨ad, e, hc⟩ := h.2 hn
    exact ⟨ad, e, fun i x hx => ⟨Mem.bcell hb (hc i x hx).1, Mem.bcell hb (hc i x hx).2.1, Mem.bcell hb (hc i x hx).2.2⟩⟩⟩

theorem catch_fault (p : Addr) (x f : Int) (w : World) (hc : w.cell? p = some (.int .i64 x)) (hz : w.frozen? p = false) (older : List PanicEntry) :
    CallsD Tryd.prog 32 #[.pointer (some p)] (.panicking ({ v := .iface 68 (.int .i64 f), recovered := false } :: older)) w fun e u' w' =>
      e = .returned (.tuple #[]) ∧ u' = .panicking ({ v := .iface 68 (.int .i64 f), recovered := true } :: older) ∧ w' = w.setCell p (.int .i64 f) := by
  have hta : ∀ (v : Value) (W : World), (Instr.typeAssert (.iface 68 v) 20 68 true).run Tryd.prog W = .ok (.tuple #[v, .bool true]) W := fun v W => by rfl
  refine callsD_of_wpS Tryd.func32 rfl fun c₀ cs hu => ?_
  apply wpS_seq
  apply wpS_region
  simp [wpOpsS, go_sem, recoverD, hu, Tryd.ntmps32, Exit.thenS, Array.replicate]
  refine wpS_of_wp ?_
  go_wp2_with fail
  simp [bodyPostS, results, Tryd.results32, go_sem]

theorem catch_idle (p : Addr) (w : World) :
    CallsD Tryd.prog 32 #[.pointer (some p)] .returning w fun e u' w' => e = .returned (.tuple #[]) ∧ u' = .returning ∧ w' = w := by
  have hta : ∀ (W : World), (Instr.typeAssert .nilIface 20 68 true).run Tryd.prog W = .ok (.tuple #[.int .i64 0, .bool false]) W := fun W => by rfl
  have hne : ∀ (W : World), (binOp .neq 20 .nilIface .nilIface).run Tryd.prog W = .ok (.bool false) W := fun W => by rfl
  refine callsD_of_wpS Tryd.func32 rfl fun c₀ cs hu => ?_
  apply wpS_seq
  apply wpS_region
  simp [wpOpsS, go_sem, recoverD, hu, Tryd.ntmps32, Exit.thenS, Array.replicate]
  refine wpS_of_wp ?_
  go_wp2_with fail
  cases c₀
  simp_all [bodyPostS, results, Tryd.results32, go_sem]

/-- What is given of the machine's code. -/
def zI : Int × Int × Int := (0, 0, 0)
def okAt (pc : Int) (code : List (Int × Int × Int)) : Bool := decide (0 ≤ pc) && decide (pc < code.length) && mayB (code.getD pc.toNat zI).1 (code.getD pc.toNat zI).2.1 (code.getD pc.toNat zI).2.2

theorem keep_setNew {g : Nat} {w w' : World} (h : Keep g w w') (q i : Nat) (hq : w.heap.size ≤ q) (v : Value) : Keep g w (w'.setCell ⟨q, i, none⟩ v) :=
  ⟨(Below.setCell (Below.refl 0 w') (Nat.zero_le _) v).os.trans h.os, (Below.setCell (Below.refl 0 w') (Nat.zero_le _) v).tape.trans h.tape, (Below.setCell (Below.refl 0 w') (Nat.zero_le _) v).output.trans h.output,
   Nat.le_trans h.size (Below.setCell (Below.refl 0 w') (Nat.zero_le _) v).size, fun k hk hg => (Below.heap_setCell w' ⟨q, i, none⟩ v k (by simp only; omega)).trans (h.block k hk hg)⟩
/-- The deferred call, behind a fault. -/
theorem leaves_fault (R : Ending → World → Prop) (ts : Array Value) (q : Nat) (f : Int) (W : World) (hts : ts.getD 4 undef = .pointer (some ⟨q, 0, none⟩)) (hq : W.heap[q]? = some (.cells #[.int .i64 0] 3 (0, 0)))
    (hR : R (.returned (.int .i64 f)) (W.setCell ⟨q, 0, none⟩ (.int .i64 f))) :
    bodyPostD Tryd.prog Tryd.f19 R (Exit.panic [{ v := .iface 68 (.int .i64 f), recovered := false }])
      { tmps := ts, defers := [{ target := Target.fn (Fn.func 32) #[.pointer (some ⟨q, 0, none⟩)], args := #[] }] } W := by
  refine leaves_cons (f := 32) (args := #[.pointer (some ⟨q, 0, none⟩)]) (by simp) (by simp [go_sem]) ?_
  refine (catch_fault ⟨q, 0, none⟩ 0 f _ ((blk_cell hq 0).trans rfl) (blk_frozen hq 0) []).mono ?_
  rintro e u' w'' ⟨rfl, rfl, rfl⟩
  have hc2 := (blk_cell (blk_put hq 0 (.int .i64 f) rfl) 0).trans rfl
  generalize W.setCell ⟨q, 0, none⟩ (.int .i64 f) = W2 at *
  have hts' : ts[4]?.getD undef = .pointer (some ⟨q, 0, none⟩) := by simpa using hts
  simp [Leaves, settle, results, Tryd.results19, go_sem, hc2, hts']
  exact hR
theorem leaves_idle (R : Ending → World → Prop) (ts : Array Value) (q : Nat) (f : Int) (W : World) (hts : ts.getD 4 undef = .pointer (some ⟨q, 0, none⟩)) (hq : W.heap[q]? = some (.cells #[.int .i64 f] 3 (0, 0)))
    (hR : R (.returned (.int .i64 f)) W) :
    bodyPostD Tryd.prog Tryd.f19 R Exit.ret
      { tmps := ts, defers := [{ target := Target.fn (Fn.func 32) #[.pointer (some ⟨q, 0, none⟩)], args := #[] }] } W := by
  refine leaves_cons (f := 32) (args := #[.pointer (some ⟨q, 0, none⟩)]) (by simp) (by simp [go_sem]) ?_
  refine (catch_idle ⟨q, 0, none⟩ _).mono ?_
  rintro e u' w'' ⟨rfl, rfl, rfl⟩
  have hc2 := (blk_cell hq 0).trans rfl
  have hts' : ts[4]?.getD undef = .pointer (some ⟨q, 0, none⟩) := by simpa using hts
  simp [Leaves, settle, results, Tryd.results19, go_sem, hc2, hts']
  exact hR

set_option maxHeartbeats 1000000 in
theorem run_low (g : Nat) (x : Mach) (A : Option Addr) (n c : Nat) (w : World) (h : Lies w g x) (hp : x.pc < 0 ∨ (n : Int) ≤ x.pc) :
    Calls Tryd.prog 19 #[.pointer (some ⟨g, 0, none⟩), .slice A n c] w fun e w' => e = .returned (.int .i64 4) ∧ Keep g w w' := by
  have hmf : ∀ (fn : Fn) (first cap : Array Value) (w : World), (Instr.makeFunc fn first cap).run Tryd.prog w = .ok (.func fn first cap) w := fun _ _ _ _ => rfl
  have c0 : w.cell? ⟨g, 0, none⟩ = some (.int .i64 x.pc) := (blk_cell h 0).trans rfl
  have hlt := blk_lt h
  have hrs : ∀ W, _ := fun W => raise_non 4 (by decide) W
  unfold faulted at hrs
  have HR := Lib.hid hrs
  clear hrs h
  by_cases hn : x.pc < 0
  · have d1 : decide (x.pc < 0) = true := decide_eq_true hn
    clear hp hn
    go_enter_defers Tryd.func19, Tryd.ntmps19
    go_wp2_with (go_at_call 34; refine (HR.out _).mono ?_; rintro e w' ⟨rfl, rfl⟩)
    exact leaves_fault _ _ w.heap.size 4 _ rfl (blk_new _ _) ⟨rfl, keep_setNew (Keep.of_below (boxed0 w _)) _ _ (Nat.le_refl _) _⟩
  · have d1 : decide (x.pc < 0) = false := decide_eq_false hn
    have d2 : decide ((n : Int) ≤ x.pc) = true := decide_eq_true (by omega)
    clear hp hn
    go_enter_defers Tryd.func19, Tryd.ntmps19
    go_wp2_with (go_at_call 34; refine (HR.out _).mono ?_; rintro e w' ⟨rfl, rfl⟩)
    exact leaves_fault _ _ w.heap.size 4 _ rfl (blk_new _ _) ⟨rfl, keep_setNew (Keep.of_below (boxed0 w _)) _ _ (Nat.le_refl _) _⟩

section
variable (g : Nat) (x : Mach) (A : Option Addr) (c : Nat) (code : List (Int × Int × Int)) (w : World) (h : Lies w g x) (hc : CodeAt w A code) (hG : Glob w)
include h hc hG
set_option maxHeartbeats 1000000 in
theorem run_no (h0 : 0 ≤ x.pc) (h1 : x.pc < code.length) (hm : mayB (code.getD x.pc.toNat zI).1 (code.getD x.pc.toNat zI).2.1 (code.getD x.pc.toNat zI).2.2 = false) :
    Calls Tryd.prog 19 #[.pointer (some ⟨g, 0, none⟩), .slice A code.length c] w fun e w' => e = .returned (.int .i64 4) ∧ Keep g w w' := by
  have hmf : ∀ (fn : Fn) (first cap : Array Value) (w : World), (Instr.makeFunc fn first cap).run Tryd.prog w = .ok (.func fn first cap) w := fun _ _ _ _ => rfl
  have c0 : w.cell? ⟨g, 0, none⟩ = some (.int .i64 x.pc) := (blk_cell h 0).trans rfl
  have hlt := blk_lt h
  have hrs : ∀ W, _ := fun W => raise_non 4 (by decide) W
  unfold faulted at hrs
  have HR := Lib.hid hrs
  obtain ⟨k, hk⟩ : ∃ k : Nat, x.pc = (k : Int) := ⟨x.pc.toNat, by omega⟩
  rw [hk, Int.toNat_natCast] at hm
  rw [hk] at h0 h1 c0
  obtain ⟨ad, rfl, hcell⟩ := hc.2 (by omega)
  have hkl : k < code.length := by omega
  obtain ⟨a0, a1, a2⟩ := hcell k (code.getD k zI) (by rw [List.getD_eq_getElem?_getD, List.getElem?_eq_getElem hkl]; rfl)
  have hb0 := World.block_lt_of_cell? w _ a0
  have hmay : ∀ W, Glob W → _ := fun W hg => may_any (code.getD k zI).1 (code.getD k zI).2.1 (code.getD k zI).2.2 W hg
  simp only [hm] at hmay
  have HM := Lib.hid hmay
  have HG := Lib.hid hG
  have d1 : decide ((k : Int) < 0) = false := decide_eq_false (by omega)
  have d2 : decide ((code.length : Int) ≤ (k : Int)) = false := decide_eq_false (by omega)
  have d3 : decide (code.length ≤ k) = false := decide_eq_false (by omega)
  generalize code.getD k zI = i at *
  obtain ⟨o, a, b⟩ := i
  simp only at a0 a1 a2 HM
  clear hrs h hc hG hmay hm hcell hk
  go_enter_defers Tryd.func19, Tryd.ntmps19
  go_wp2_with fail
  refine (HM.out _ (HG.out.alloc _)).mono ?_
  rintro e w1 ⟨rfl, hb⟩
  have HK := Lib.hid (btrans (boxed0 w _) hb)
  have HQ := Lib.hid (blk_below (blk_new w (.cells #[.int .i64 0] 3)) hb)
  clear hb
  go_wp2_with fail
  refine (HR.out _).mono ?_
  rintro e w2 ⟨rfl, rfl⟩
  go_wp2_with fail
  exact leaves_fault _ _ w.heap.size 4 _ rfl HQ.out ⟨rfl, keep_setNew (Keep.of_below HK.out) _ _ (Nat.le_refl _) _⟩
end
theorem left_end {g q : Nat} {w W2 w2 : World} {x : Mach} {m m' : List Int} (hg : g < w.heap.size) (hq : w.heap.size ≤ q) (hq2 : q < W2.heap.size) (hk : Keep g w W2) (h : Left g W2 w2 x m m') (v : Value) : Left g w (w2.setCell ⟨q, 0, none⟩ v) x m m' := by
  obtain ⟨r, h1, h2, h3⟩ := h
  refine ⟨r, blk_far h1 (by simp only; omega) v, ?_, keep_setNew (hk.trans h3) q 0 hq v⟩
  rcases h2 with h2 | h2
  · exact .inl h2
  · refine .inr (Kd.R_mono (Kd.R_lower (Kd.R_far (p := ⟨q, 0, none⟩) (Kd.R_bound h2) (fun k hk e => ?_) v) hk.size) (fun _ _ => trivial))
    have := hk.2.1
    simp only at e
    omega

set_option maxHeartbeats 2000000 in
theorem run_two (g : Nat) (x : Mach) (A : Option Addr) (c : Nat) (code : List (Int × Int × Int)) (w : World) (h : Lies w g x) (hc : CodeAt w A code) (hG : Glob w)
    (w0 : World) (hB0 : Below w0.heap.size w0 w) (hg0 : w0.heap.size ≤ g) {M : Option Addr} {cm : Nat} {m : List Int} {A' : Option Addr} {c' : Nat} {xs : List Rg} (hh : Has w0 x M cm m A' c' xs)
    (h0 : 0 ≤ x.pc) (h1 : x.pc < code.length) (op a b : Nat) (hi : code.getD x.pc.toNat zI = ((op : Int), (a : Int), (b : Int))) (hm : mayB op a b = true) (ho : op < 20) (ha : a < 4) (hb4 : b < 4) (h2 : isTwo op = true)
    (hf : faultOf op a b { x with pc := x.pc + 1 } m xs = 0) :
    Calls Tryd.prog 19 #[.pointer (some ⟨g, 0, none⟩), .slice A code.length c] w fun e w' => e = .returned (.int .i64 0) ∧ Left g w w' (machOf op a b b { x with pc := x.pc + 1 } m xs) m (memOf op a b { x with pc := x.pc + 1 } m xs) := by
  have hmf : ∀ (fn : Fn) (first cap : Array Value) (w : World), (Instr.makeFunc fn first cap).run Tryd.prog w = .ok (.func fn first cap) w := fun _ _ _ _ => rfl
  have c0 : w.cell? ⟨g, 0, none⟩ = some (.int .i64 x.pc) := (blk_cell h 0).trans rfl
  have hlt := blk_lt h
  have H := Lib.hid h
  obtain ⟨k, hk⟩ : ∃ k : Nat, x.pc = (k : Int) := ⟨x.pc.toNat, by omega⟩
  rw [hk, Int.toNat_natCast] at hi
  have HKP := Lib.hid hk
  rw [hk] at h0 h1 c0
  obtain ⟨ad, rfl, hcell⟩ := hc.2 (by omega)
  have hkl : k < code.length := by omega
  have hk64 := hc.1
  obtain ⟨a0, a1, a2⟩ := hcell k (code.getD k zI) (by rw [List.getD_eq_getElem?_getD, List.getElem?_eq_getElem hkl]; rfl)
  rw [hi] at a0 a1 a2
  have hb0 := World.block_lt_of_cell? w _ a0
  have hmay : ∀ W, Glob W → _ := fun W hg => may_any op a b W hg
  simp only [hm] at hmay
  have HM := Lib.hid hmay
  have HG := Lib.hid hG
  have HA := Lib.hid ha
  have d1 : decide ((k : Int) < 0) = false := decide_eq_false (by omega)
  have d2 : decide ((code.length : Int) ≤ (k : Int)) = false := decide_eq_false (by omega)
  have d3 : decide (code.length ≤ k) = false := decide_eq_false (by omega)
  simp only at a0 a1 a2
  rw [hk] at hf ⊢
  have hT : ∀ W, Lies W g { x with pc := (k : Int) + 1 } → Keep g w W → _ := fun W hl hkk => two_ok g { x with pc := (k : Int) + 1 } a b W hl ha hb4 (Has.below (x := { x with pc := (k : Int) + 1 }) ⟨hh.mv, hh.lv, hh.rd, hh.few, hh.rg⟩ (hkk.below hB0 hg0)) op ho h2 hf
  have HT := Lib.hid hT
  have hgw := Lib.hid hlt
  clear h hc hG hmay hm hcell hi hh ha hT hf hb4 ho h2 hB0 hg0
  generalize machOf op a b b { x with pc := (k : Int) + 1 } m xs = X at *
  generalize memOf op a b { x with pc := (k : Int) + 1 } m xs = m' at *
  go_enter_defers Tryd.func19, Tryd.ntmps19
  go_wp2_with fail
  refine (HM.out _ (HG.out.alloc _)).mono ?_
  rintro e w1 ⟨rfl, hb⟩
  have HK := Lib.hid (btrans (boxed0 w _) hb)
  have HQ := Lib.hid (blk_below (blk_new w (.cells #[.int .i64 0] 3)) hb)
  have HL := Lib.hid (H.out.below HK.out)
  clear hb
  have e0 := Mem.bcell HK.out a0
  have e1 := Mem.bcell HK.out a1
  have e2 := Mem.bcell HK.out a2
  have p0 : w1.cell? ⟨g, 0, none⟩ = some (.int .i64 k) := Mem.bcell HK.out c0
  have z0 := blk_frozen HL.out 0
  have hsz := HK.out.size
  have hb1 : (ad.add (k * 3)).block < w1.heap.size := Nat.lt_of_lt_of_le hb0 hsz
  have hg1 : g < w1.heap.size := Nat.lt_of_lt_of_le hlt hsz
  clear a0 a1 a2 c0 hb0 hlt
  go_wp2_with fail
  obtain ⟨W2, hW2⟩ : ∃ W2, W2 = (w1.setCell ⟨g, 0, none⟩ (.int .i64 (k + 1))).alloc (.cells #[.int .i64 op, .int .i64 a, .int .i64 b] 31) := ⟨_, rfl⟩
  rw [← hW2]
  have HL2 := Lib.hid (show Lies W2 g { x with pc := (k : Int) + 1 } by rw [hW2]; exact (lies_pc HL.out _).below (boxed0 _ _))
  have HK2 := Lib.hid (show Keep g w W2 by rw [hW2]; exact ((Keep.of_below HK.out).set _ _).trans (Keep.of_below (boxed0 _ _)))
  have HQ2 := Lib.hid (show W2.heap[w.heap.size]? = some (.cells #[.int .i64 0] 3 (0, 0)) by rw [hW2]; exact blk_alloc (blk_far HQ.out (Nat.ne_of_gt hgw.out) _) _)
  have x0 : W2.cell? ⟨w1.heap.size, 0, none⟩ = some (.int .i64 op) := by
    rw [hW2]
    have hs : (w1.setCell ⟨g, 0, none⟩ (.int .i64 (k + 1))).heap.size = w1.heap.size := by simp
    rw [← hs]; exact (blk_cell (blk_new _ _) 0).trans rfl
  have x1 : W2.cell? ⟨w1.heap.size, 1, none⟩ = some (.int .i64 a) := by
    rw [hW2]
    have hs : (w1.setCell ⟨g, 0, none⟩ (.int .i64 (k + 1))).heap.size = w1.heap.size := by simp
    rw [← hs]; exact (blk_cell (blk_new _ _) 1).trans rfl
  have x2 : W2.cell? ⟨w1.heap.size, 2, none⟩ = some (.int .i64 b) := by
    rw [hW2]
    have hs : (w1.setCell ⟨g, 0, none⟩ (.int .i64 (k + 1))).heap.size = w1.heap.size := by simp
    rw [← hs]; exact (blk_cell (blk_new _ _) 2).trans rfl
  have HI2 := Lib.hid (show W2.heap[w1.heap.size]? = some (.cells #[.int .i64 op, .int .i64 a, .int .i64 b] 31 (0, 0)) by
    rw [hW2]
    have hs : (w1.setCell ⟨g, 0, none⟩ (.int .i64 (k + 1))).heap.size = w1.heap.size := by simp
    rw [← hs]; exact blk_new _ _)
  clear hW2 e0 e1 e2 p0 z0 hb1
  refine (HT.out _ HL2.out HK2.out).mono ?_
  rintro e w2 ⟨rfl, hl⟩
  have HLE := Lib.hid hl
  have HK3 := Lib.hid (show Keep g W2 w2 by obtain ⟨_, _, _, h⟩ := hl; exact h)
  have HQ3 := Lib.hid (show w2.heap[w.heap.size]? = some (.cells #[.int .i64 0] 3 (0, 0)) by rw [HK3.out.block _ (blk_lt HQ2.out) (Nat.ne_of_gt hgw.out)]; exact HQ2.out)
  clear hl x0 x1 x2
  have q0 : w2.cell? ⟨w.heap.size, 0, none⟩ = some (.int .i64 0) := (blk_cell HQ3.out 0).trans rfl
  have qz := blk_frozen HQ3.out 0
  go_wp2_with fail
  exact leaves_idle _ _ w.heap.size 0 _ rfl (blk_put HQ3.out 0 (.int .i64 0) rfl) ⟨rfl, left_end hgw.out (Nat.le_refl _) (blk_lt HQ2.out) HK2.out HLE.out _⟩

set_option maxHeartbeats 2000000 in
theorem run_bad (g : Nat) (x : Mach) (A : Option Addr) (c : Nat) (code : List (Int × Int × Int)) (w : World) (h : Lies w g x) (hc : CodeAt w A code) (hG : Glob w)
    (w0 : World) (hB0 : Below w0.heap.size w0 w) (hg0 : w0.heap.size ≤ g) {M : Option Addr} {cm : Nat} {m : List Int} {A' : Option Addr} {c' : Nat} {xs : List Rg} (hh : Has w0 x M cm m A' c' xs)
    (h0 : 0 ≤ x.pc) (h1 : x.pc < code.length) (op a b : Nat) (hi : code.getD x.pc.toNat zI = ((op : Int), (a : Int), (b : Int))) (hm : mayB op a b = true) (ho : op < 20) (ha : a < 4) (hb4 : b < 4)
    (hf : ¬ faultOf op a b { x with pc := x.pc + 1 } m xs = 0) :
    Calls Tryd.prog 19 #[.pointer (some ⟨g, 0, none⟩), .slice A code.length c] w fun e w' => e = .returned (.int .i64 (faultOf op a b { x with pc := x.pc + 1 } m xs)) ∧ Keep g w w' := by
  have hmf : ∀ (fn : Fn) (first cap : Array Value) (w : World), (Instr.makeFunc fn first cap).run Tryd.prog w = .ok (.func fn first cap) w := fun _ _ _ _ => rfl
  have c0 : w.cell? ⟨g, 0, none⟩ = some (.int .i64 x.pc) := (blk_cell h 0).trans rfl
  have hlt := blk_lt h
  have H := Lib.hid h
  obtain ⟨k, hk⟩ : ∃ k : Nat, x.pc = (k : Int) := ⟨x.pc.toNat, by omega⟩
  rw [hk, Int.toNat_natCast] at hi
  have HKP := Lib.hid hk
  rw [hk] at h0 h1 c0
  obtain ⟨ad, rfl, hcell⟩ := hc.2 (by omega)
  have hkl : k < code.length := by omega
  have hk64 := hc.1
  obtain ⟨a0, a1, a2⟩ := hcell k (code.getD k zI) (by rw [List.getD_eq_getElem?_getD, List.getElem?_eq_getElem hkl]; rfl)
  rw [hi] at a0 a1 a2
  have hb0 := World.block_lt_of_cell? w _ a0
  have hmay : ∀ W, Glob W → _ := fun W hg => may_any op a b W hg
  simp only [hm] at hmay
  have HM := Lib.hid hmay
  have HG := Lib.hid hG
  have HA := Lib.hid ha
  have d1 : decide ((k : Int) < 0) = false := decide_eq_false (by omega)
  have d2 : decide ((code.length : Int) ≤ (k : Int)) = false := decide_eq_false (by omega)
  have d3 : decide (code.length ≤ k) = false := decide_eq_false (by omega)
  simp only at a0 a1 a2
  rw [hk] at hf ⊢
  have hT : ∀ W, Lies W g { x with pc := (k : Int) + 1 } → Keep g w W → _ := fun W hl hkk => two_bad g { x with pc := (k : Int) + 1 } a b W hl ha hb4 (Has.below (x := { x with pc := (k : Int) + 1 }) ⟨hh.mv, hh.lv, hh.rd, hh.few, hh.rg⟩ (hkk.below hB0 hg0)) op ho hf
  unfold faulted at hT
  have HT := Lib.hid hT
  have hgw := Lib.hid hlt
  clear h hc hG hmay hm hcell hi hh ha hT hf hb4 ho hB0 hg0
  generalize faultOf op a b { x with pc := (k : Int) + 1 } m xs = f at *
  go_enter_defers Tryd.func19, Tryd.ntmps19
  go_wp2_with fail
  refine (HM.out _ (HG.out.alloc _)).mono ?_
  rintro e w1 ⟨rfl, hb⟩
  have HK := Lib.hid (btrans (boxed0 w _) hb)
  have HQ := Lib.hid (blk_below (blk_new w (.cells #[.int .i64 0] 3)) hb)
  have HL := Lib.hid (H.out.below HK.out)
  clear hb
  have e0 := Mem.bcell HK.out a0
  have e1 := Mem.bcell HK.out a1
  have e2 := Mem.bcell HK.out a2
  have p0 : w1.cell? ⟨g, 0, none⟩ = some (.int .i64 k) := Mem.bcell HK.out c0
  have z0 := blk_frozen HL.out 0
  have hsz := HK.out.size
  have hb1 : (ad.add (k * 3)).block < w1.heap.size := Nat.lt_of_lt_of_le hb0 hsz
  have hg1 : g < w1.heap.size := Nat.lt_of_lt_of_le hlt hsz
  clear a0 a1 a2 c0 hb0 hlt
  go_wp2_with fail
  obtain ⟨W2, hW2⟩ : ∃ W2, W2 = (w1.setCell ⟨g, 0, none⟩ (.int .i64 (k + 1))).alloc (.cells #[.int .i64 op, .int .i64 a, .int .i64 b] 31) := ⟨_, rfl⟩
  rw [← hW2]
  have HL2 := Lib.hid (show Lies W2 g { x with pc := (k : Int) + 1 } by rw [hW2]; exact (lies_pc HL.out _).below (boxed0 _ _))
  have HK2 := Lib.hid (show Keep g w W2 by rw [hW2]; exact ((Keep.of_below HK.out).set _ _).trans (Keep.of_below (boxed0 _ _)))
  have HQ2 := Lib.hid (show W2.heap[w.heap.size]? = some (.cells #[.int .i64 0] 3 (0, 0)) by rw [hW2]; exact blk_alloc (blk_far HQ.out (Nat.ne_of_gt hgw.out) _) _)
  have x0 : W2.cell? ⟨w1.heap.size, 0, none⟩ = some (.int .i64 op) := by
    rw [hW2]
    have hs : (w1.setCell ⟨g, 0, none⟩ (.int .i64 (k + 1))).heap.size = w1.heap.size := by simp
    rw [← hs]; exact (blk_cell (blk_new _ _) 0).trans rfl
  have x1 : W2.cell? ⟨w1.heap.size, 1, none⟩ = some (.int .i64 a) := by
    rw [hW2]
    have hs : (w1.setCell ⟨g, 0, none⟩ (.int .i64 (k + 1))).heap.size = w1.heap.size := by simp
    rw [← hs]; exact (blk_cell (blk_new _ _) 1).trans rfl
  have x2 : W2.cell? ⟨w1.heap.size, 2, none⟩ = some (.int .i64 b) := by
    rw [hW2]
    have hs : (w1.setCell ⟨g, 0, none⟩ (.int .i64 (k + 1))).heap.size = w1.heap.size := by simp
    rw [← hs]; exact (blk_cell (blk_new _ _) 2).trans rfl
  have HI2 := Lib.hid (show W2.heap[w1.heap.size]? = some (.cells #[.int .i64 op, .int .i64 a, .int .i64 b] 31 (0, 0)) by
    rw [hW2]
    have hs : (w1.setCell ⟨g, 0, none⟩ (.int .i64 (k + 1))).heap.size = w1.heap.size := by simp
    rw [← hs]; exact blk_new _ _)
  clear hW2 e0 e1 e2 p0 z0 hb1
  refine (HT.out _ HL2.out HK2.out).mono ?_
  rintro e w2 ⟨rfl, hl⟩
  have HK3 := Lib.hid hl
  have HQ3 := Lib.hid (show w2.heap[w.heap.size]? = some (.cells #[.int .i64 0] 3 (0, 0)) by rw [HK3.out.block _ (blk_lt HQ2.out) (Nat.ne_of_gt hgw.out)]; exact HQ2.out)
  clear hl x0 x1 x2
  go_wp2_with fail
  exact leaves_fault _ _ w.heap.size f _ rfl HQ3.out ⟨rfl, keep_setNew (HK2.out.trans HK3.out) _ _ (Nat.le_refl _) _⟩
set_option maxHeartbeats 2000000 in
theorem run_one (g : Nat) (x : Mach) (A : Option Addr) (c : Nat) (code : List (Int × Int × Int)) (w : World) (h : Lies w g x) (hc : CodeAt w A code) (hG : Glob w)
    (w0 : World) (hB0 : Below w0.heap.size w0 w) (hg0 : w0.heap.size ≤ g) {M : Option Addr} {cm : Nat} {m : List Int} {A' : Option Addr} {c' : Nat} {xs : List Rg} (hh : Has w0 x M cm m A' c' xs)
    (h0 : 0 ≤ x.pc) (h1 : x.pc < code.length) (op a : Nat) (b : Int) (hi : code.getD x.pc.toNat zI = ((op : Int), (a : Int), b)) (hm : mayB op a b = true) (ho : op < 20) (ha : a < 4) (h2 : isTwo op = false) :
    Calls Tryd.prog 19 #[.pointer (some ⟨g, 0, none⟩), .slice A code.length c] w fun e w' => e = .returned (.int .i64 0) ∧ Left g w w' (machOf op a b.toNat b { x with pc := x.pc + 1 } m xs) m m := by
  have hmf : ∀ (fn : Fn) (first cap : Array Value) (w : World), (Instr.makeFunc fn first cap).run Tryd.prog w = .ok (.func fn first cap) w := fun _ _ _ _ => rfl
  have c0 : w.cell? ⟨g, 0, none⟩ = some (.int .i64 x.pc) := (blk_cell h 0).trans rfl
  have hlt := blk_lt h
  have H := Lib.hid h
  obtain ⟨k, hk⟩ : ∃ k : Nat, x.pc = (k : Int) := ⟨x.pc.toNat, by omega⟩
  rw [hk, Int.toNat_natCast] at hi
  have HKP := Lib.hid hk
  rw [hk] at h0 h1 c0
  obtain ⟨ad, rfl, hcell⟩ := hc.2 (by omega)
  have hkl : k < code.length := by omega
  have hk64 := hc.1
  obtain ⟨a0, a1, a2⟩ := hcell k (code.getD k zI) (by rw [List.getD_eq_getElem?_getD, List.getElem?_eq_getElem hkl]; rfl)
  rw [hi] at a0 a1 a2
  have hb0 := World.block_lt_of_cell? w _ a0
  have hmay : ∀ W, Glob W → _ := fun W hg => may_any op a b W hg
  simp only [hm] at hmay
  have HM := Lib.hid hmay
  have HG := Lib.hid hG
  have HA := Lib.hid ha
  have d1 : decide ((k : Int) < 0) = false := decide_eq_false (by omega)
  have d2 : decide ((code.length : Int) ≤ (k : Int)) = false := decide_eq_false (by omega)
  have d3 : decide (code.length ≤ k) = false := decide_eq_false (by omega)
  simp only at a0 a1 a2
  rw [hk]
  have hT : ∀ W, Lies W g { x with pc := (k : Int) + 1 } → Calls Tryd.prog 35 #[.pointer (some ⟨g, 0, none⟩), .agg #[.int .i64 op, .int .i64 a, .int .i64 b]] W fun e w' => e = .returned (.bool false) ∧ Below W.heap.size W w' := fun W hl => by
    by_cases hb : b < 0 ∨ 4 ≤ b
    · exact two_out op g a b W hb
    · obtain ⟨bn, rfl⟩ : ∃ bn : Nat, b = (bn : Int) := ⟨b.toNat, by omega⟩
      exact two_none op g _ a bn W hl ha (by omega) (not_two op ho h2)
  have hO : ∀ W, Lies W g { x with pc := (k : Int) + 1 } → _ := fun W hl => one_any g { x with pc := (k : Int) + 1 } a b W hl ha m xs op ho h2
  have HT := Lib.hid hT
  have HO := Lib.hid hO
  have hgw := Lib.hid hlt
  have HMV := Lib.hid hh.mv
  clear h hc hG hmay hm hcell hi ha hT ho hO
  have HMM : (machOf op a b.toNat b { x with pc := (k : Int) + 1 } m xs).mv = x.mv := by
    unfold machOf
    split <;> first | rfl | (split <;> rfl)
  have HMX := Lib.hid HMM
  clear HMM hh hB0 hg0 h2
  generalize machOf op a b.toNat b { x with pc := (k : Int) + 1 } m xs = X at *
  go_enter_defers Tryd.func19, Tryd.ntmps19
  go_wp2_with fail
  refine (HM.out _ (HG.out.alloc _)).mono ?_
  rintro e w1 ⟨rfl, hb⟩
  have HK := Lib.hid (btrans (boxed0 w _) hb)
  have HQ := Lib.hid (blk_below (blk_new w (.cells #[.int .i64 0] 3)) hb)
  have HL := Lib.hid (H.out.below HK.out)
  clear hb
  have e0 := Mem.bcell HK.out a0
  have e1 := Mem.bcell HK.out a1
  have e2 := Mem.bcell HK.out a2
  have p0 : w1.cell? ⟨g, 0, none⟩ = some (.int .i64 k) := Mem.bcell HK.out c0
  have z0 := blk_frozen HL.out 0
  have hsz := HK.out.size
  have hb1 : (ad.add (k * 3)).block < w1.heap.size := Nat.lt_of_lt_of_le hb0 hsz
  have hg1 : g < w1.heap.size := Nat.lt_of_lt_of_le hlt hsz
  clear a0 a1 a2 c0 hb0 hlt
  go_wp2_with fail
  obtain ⟨W2, hW2⟩ : ∃ W2, W2 = (w1.setCell ⟨g, 0, none⟩ (.int .i64 (k + 1))).alloc (.cells #[.int .i64 op, .int .i64 a, .int .i64 b] 31) := ⟨_, rfl⟩
  rw [← hW2]
  have HL2 := Lib.hid (show Lies W2 g { x with pc := (k : Int) + 1 } by rw [hW2]; exact (lies_pc HL.out _).below (boxed0 _ _))
  have HK2 := Lib.hid (show Keep g w W2 by rw [hW2]; exact ((Keep.of_below HK.out).set _ _).trans (Keep.of_below (boxed0 _ _)))
  have HQ2 := Lib.hid (show W2.heap[w.heap.size]? = some (.cells #[.int .i64 0] 3 (0, 0)) by rw [hW2]; exact blk_alloc (blk_far HQ.out (Nat.ne_of_gt hgw.out) _) _)
  have x0 : W2.cell? ⟨w1.heap.size, 0, none⟩ = some (.int .i64 op) := by
    rw [hW2]
    have hs : (w1.setCell ⟨g, 0, none⟩ (.int .i64 (k + 1))).heap.size = w1.heap.size := by simp
    rw [← hs]; exact (blk_cell (blk_new _ _) 0).trans rfl
  have x1 : W2.cell? ⟨w1.heap.size, 1, none⟩ = some (.int .i64 a) := by
    rw [hW2]
    have hs : (w1.setCell ⟨g, 0, none⟩ (.int .i64 (k + 1))).heap.size = w1.heap.size := by simp
    rw [← hs]; exact (blk_cell (blk_new _ _) 1).trans rfl
  have x2 : W2.cell? ⟨w1.heap.size, 2, none⟩ = some (.int .i64 b) := by
    rw [hW2]
    have hs : (w1.setCell ⟨g, 0, none⟩ (.int .i64 (k + 1))).heap.size = w1.heap.size := by simp
    rw [← hs]; exact (blk_cell (blk_new _ _) 2).trans rfl
  have HI2 := Lib.hid (show W2.heap[w1.heap.size]? = some (.cells #[.int .i64 op, .int .i64 a, .int .i64 b] 31 (0, 0)) by
    rw [hW2]
    have hs : (w1.setCell ⟨g, 0, none⟩ (.int .i64 (k + 1))).heap.size = w1.heap.size := by simp
    rw [← hs]; exact blk_new _ _)
  clear hW2 e0 e1 e2 p0 z0 hb1
  refine (HT.out _ HL2.out).mono ?_
  rintro e w2 ⟨rfl, hbb⟩
  have HK3 := Lib.hid (HK2.out.trans (Keep.of_below hbb))
  have HL3 := Lib.hid (HL2.out.below hbb)
  have HQ3 := Lib.hid (blk_below HQ2.out hbb)
  have y0 := Mem.bcell hbb x0
  have y1 := Mem.bcell hbb x1
  have y2 := Mem.bcell hbb x2
  clear hbb x0 x1 x2
  go_wp2_with fail
  refine (HO.out _ HL3.out).mono ?_
  rintro e w3 ⟨rfl, hl, hkk⟩
  have HL4 := Lib.hid hl
  have HQ4 := Lib.hid (show w3.heap[w.heap.size]? = some (.cells #[.int .i64 0] 3 (0, 0)) by rw [hkk.block _ (blk_lt HQ3.out) (Nat.ne_of_gt hgw.out)]; exact HQ3.out)
  have HKK := Lib.hid hkk
  clear hl hkk y0 y1 y2
  have q0 : w3.cell? ⟨w.heap.size, 0, none⟩ = some (.int .i64 0) := (blk_cell HQ4.out 0).trans rfl
  have qz := blk_frozen HQ4.out 0
  go_wp2_with fail
  exact leaves_idle _ _ w.heap.size 0 _ rfl (blk_put HQ4.out 0 (.int .i64 0) rfl) ⟨rfl, left_end hgw.out (Nat.le_refl _) (blk_lt HQ3.out) HK3.out (Left.same HL4.out HKK.out) _⟩

end Go.Proofs.YtlphgnfjemaliaaDoor.CpuC

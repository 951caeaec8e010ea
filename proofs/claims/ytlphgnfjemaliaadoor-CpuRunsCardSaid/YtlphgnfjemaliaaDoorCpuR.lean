/-
  The law function CpuRuns, walked: it answers true. Conditions: the tables hold what the program's text lays; the arguments lie in memory as told; the words and the registers are of 64 bits.
-/
import Derived.Test.YtlphgnfjemaliaaDoorRefAny
import Derived.Test.YtlphgnfjemaliaaDoorCpuJ
namespace Go.Proofs.YtlphgnfjemaliaaDoor.CpuR
set_option maxRecDepth 100000
set_option linter.unusedVariables false
set_option linter.unusedSimpArgs false
open Go.RowKit Go.Proofs.YtlphgnfjemaliaaDoorW.PrintWords Go.Proofs.YtlphgnfjemaliaaDoor.Mem Go.Proofs.YtlphgnfjemaliaaDoor.CpuA Go.Proofs.YtlphgnfjemaliaaDoor.CpuB Go.Proofs.YtlphgnfjemaliaaDoor.CpuC Go.Proofs.YtlphgnfjemaliaaDoor.CpuS Go.Proofs.YtlphgnfjemaliaaDoor.CpuL Go.Proofs.YtlphgnfjemaliaaDoor.CpuJ Go.Proofs.YtlphgnfjemaliaaDoor.PureC Go.Proofs.YtlphgnfjemaliaaDoor.RefAny Go.Proofs.YtlphgnfjemaliaaDoor.Flt Go.Proofs.YtlphgnfjemaliaaDoor.RealW Go.Proofs.YtlphgnfjemaliaaDoor.RealG Go.Proofs.YtlphgnfjemaliaaDoor.Instr

theorem stepM_len (code : List (Int × Int × Int)) (cc : Core) (m : List Int) (xs : List Rg) (now : Int) : (stepM code cc m xs now).length = m.length := by
  unfold stepM
  by_cases hf : stepF code cc m xs now = 0
  · rw [if_pos hf]
    unfold stepF at hf
    by_cases hok : okAt cc.pc code = true
    · rw [if_pos hok] at hf; exact memOf_len _ _ _ _ _ _ hf
    · rw [if_neg hok] at hf; omega
  · rw [if_neg hf]
theorem put5_below {s : Nat} {w W : World} (h : Below s w W) {q : Nat} (hq : s ≤ q) (a b c d e : Value) : Below s w (((((W.setCell ⟨q, 0, none⟩ a).setCell ⟨q, 1, none⟩ b).setCell ⟨q, 2, none⟩ c).setCell ⟨q, 3, none⟩ d).setCell ⟨q, 4, none⟩ e) :=
  ((((h.setCell hq a).setCell hq b).setCell hq c).setCell hq d).setCell hq e
theorem put5_blk {W : World} {q : Nat} {t : TypeId} {x0 x1 x2 x3 x4 : Value} (h : W.heap[q]? = some (.cells #[x0, x1, x2, x3, x4] t (0, 0))) (a b c d e : Value) :
    (((((W.setCell ⟨q, 0, none⟩ a).setCell ⟨q, 1, none⟩ b).setCell ⟨q, 2, none⟩ c).setCell ⟨q, 3, none⟩ d).setCell ⟨q, 4, none⟩ e).heap[q]? = some (.cells #[a, b, c, d, e] t (0, 0)) :=
  blk_put (blk_put (blk_put (blk_put (blk_put h 0 a rfl) 1 b rfl) 2 c rfl) 3 d rfl) 4 e rfl
theorem put5_far {W : World} {q k : Nat} {t : TypeId} {cs : Array Value} (h : W.heap[k]? = some (.cells cs t (0, 0))) (hk : k ≠ q) (a b c d e : Value) :
    (((((W.setCell ⟨q, 0, none⟩ a).setCell ⟨q, 1, none⟩ b).setCell ⟨q, 2, none⟩ c).setCell ⟨q, 3, none⟩ d).setCell ⟨q, 4, none⟩ e).heap[k]? = some (.cells cs t (0, 0)) :=
  blk_far (blk_far (blk_far (blk_far (blk_far h hk a) hk b) hk c) hk d) hk e
theorem wrap_in (x : Int) : In64 (wrap64 x) := by unfold wrap64 In64; omega
theorem bit_in (b : Bool) : In64 (bitI b) := by cases b <;> (unfold bitI In64; decide)
theorem none_in : In64 noneX := by unfold noneX In64; omega
theorem half_in {x : Int} (h : In64 x) : In64 (halfX x) := by
  rw [half_eq h]
  by_cases h1 : 9218868437227405312 < restX x
  · rw [if_pos h1]; exact none_in
  · rw [if_neg h1]; exact withX_in (by have := halfN_le (restX x) (by omega); omega)
theorem twice_in {x : Int} (h : In64 x) : In64 (twiceX x) := by
  rw [twice_eq h]
  by_cases h1 : 9218868437227405312 < restX x
  · rw [if_pos h1]; exact none_in
  · rw [if_neg h1]; exact withX_in (by have := twiceN_le (restX x); omega)
theorem flip_in {x : Int} (h : In64 x) : In64 (flipX x) := by
  rw [flip_eq' h]
  by_cases h1 : 9218868437227405312 < restX x
  · rw [if_pos h1]; exact none_in
  · rw [if_neg h1]; exact withX_in (restX_lt x h)
theorem of_in (x : Int) : In64 (ofX x) := by
  unfold ofX
  exact withX_in (by have := ofN_le (mnC (mxC x)).natAbs (by unfold mnC mxC; omega); omega)
theorem whole_in (x : Int) : In64 (wholeX x) := by
  unfold wholeX
  split
  · unfold In64; omega
  · split
    · unfold In64; omega
    · split
      · unfold In64; omega
      · have := intN_lt (rg (U x))
        unfold signedU In64; split <;> omega
theorem div_in (x y : Int) : In64 (Div.divI x y).1 := by
  unfold Div.divI; split
  · unfold In64; decide
  · exact wrap_in _
theorem upd_in {r : Nat → Int} {a : Nat} {v : Int} (h : ∀ i, i < 4 → In64 (r i)) (hv : In64 v) : ∀ i, i < 4 → In64 (upd r a v i) := fun i hi => by
  unfold upd; split
  · exact hv
  · exact h i hi
theorem load_in {m : List Int} {xs : List Rg} {a : Int} (hm : ∀ x ∈ m, In64 x) : In64 (loadV m xs a) := by
  unfold loadV
  by_cases hw : wrongN m.length xs a false = 0
  · rw [if_pos hw]
    have hr := wrong_ok hw
    unfold rd
    rw [List.getD_eq_getElem?_getD, List.getElem?_eq_getElem (show a.toNat < m.length by omega)]
    exact hm _ (List.getElem_mem _)
  · rw [if_neg hw]; unfold In64; decide
theorem mach_in (op a b : Nat) (bI : Int) (x : Mach) (m : List Int) (xs : List Rg) (ho : op < 20) (ha : a < 4) (hb : isTwo op = true → b < 4) (hr : ∀ i, i < 4 → In64 (x.r i)) (hm : ∀ y ∈ m, In64 y) (hn : In64 x.now) (hbI : In64 bI) :
    ∀ i, i < 4 → In64 ((machOf op a b bI x m xs).r i) := by
  unfold machOf
  split <;> first
    | exact hr
    | exact upd_in hr hbI
    | exact upd_in hr (wrap_in _)
    | exact upd_in hr (div_in _ _)
    | exact upd_in hr (bit_in _)
    | exact upd_in hr (load_in hm)
    | exact upd_in hr (half_in (hr _ ha))
    | exact upd_in hr (twice_in (hr _ ha))
    | exact upd_in hr (flip_in (hr _ ha))
    | exact upd_in hr (of_in _)
    | exact upd_in hr (whole_in _)
    | exact upd_in hr hn
    | exact upd_in hr (hr _ (hb rfl))
    | (split <;> exact hr)
/-- A step leaves registers and words of 64 bits. -/
theorem step_in (code : List (Int × Int × Int)) (cc : Core) (m : List Int) (xs : List Rg) (now : Int) (hr : ∀ i, i < 4 → In64 (cc.r i)) (hm : ∀ y ∈ m, In64 y) (hn : In64 now) :
    (∀ i, i < 4 → In64 ((stepC code cc m xs now).r i)) ∧ ∀ y ∈ stepM code cc m xs now, In64 y := by
  by_cases hf : stepF code cc m xs now = 0
  · have hok : okAt cc.pc code = true := by
      cases h : okAt cc.pc code with
      | true => rfl
      | false => unfold stepF at hf; rw [h] at hf; simp at hf
    unfold okAt at hok
    simp only [Bool.and_eq_true, decide_eq_true_eq] at hok
    have hk : Instr.mayB (nextI code cc).1 (nextI code cc).2.1 (nextI code cc).2.2 = true := hok.2
    obtain ⟨g0, g1, g2, g3, g4, g5⟩ := PureC.may_facts hk
    have hb : isTwo (nextI code cc).1.toNat = true → (nextI code cc).2.2.toNat < 4 := fun h2 => by
      have := may_two (op := (nextI code cc).1.toNat) (by rw [Int.toNat_of_nonneg g0]; exact hk) h2
      omega
    constructor
    · unfold stepC; rw [if_pos hf]
      exact mach_in _ _ _ _ _ m xs (by omega) (by omega) hb hr hm hn (by unfold In64; omega)
    · unfold stepM; rw [if_pos hf]
      unfold memOf
      by_cases h9 : (nextI code cc).1.toNat = 9
      · rw [if_pos h9]
        unfold storeV
        split
        · intro y hy
          rcases List.mem_or_eq_of_mem_set hy with h | h
          · exact hm y h
          · rw [h]; exact hr _ (by omega)
        · intro y hy; cases hy
      · rw [if_neg h9]; exact hm
  · constructor
    · unfold stepC; rw [if_neg hf]; exact hr
    · unfold stepM; rw [if_neg hf]; exact hm
theorem may_regions {words : Int} {l : List PureC.S} (h : mayV words (l.map rg_) = true) : 1 ≤ words ∧ words ≤ 64 ∧ l.length ≤ 4 ∧ ∀ x ∈ l, x.f1 ≤ 200 ∧ x.f0 < 1000 := by
  unfold mayV at h
  simp only [Bool.and_eq_true, decide_eq_true_eq, List.length_map] at h
  obtain ⟨⟨⟨h1, h2⟩, h3⟩, h4⟩ := h
  refine ⟨h1, h2, h3, fun x hx => ?_⟩
  obtain ⟨k, hk, rfl⟩ := List.getElem_of_mem hx
  unfold mayTo at h4
  rw [List.all_eq_true] at h4
  have h5 := h4 k (List.mem_range.2 hk)
  unfold mayAt at h5
  rw [Bool.and_eq_true] at h5
  have h6 := h5.1
  rw [List.getD_eq_getElem?_getD, List.getElem?_map, List.getElem?_eq_getElem hk] at h6
  unfold regB rg_ at h6
  simp only [Option.map_some, Option.getD_some, Bool.not_eq_true', Bool.or_eq_false_iff, decide_eq_false_iff_not] at h6
  unfold wrap64 at h6
  omega

/-- The state of a run. -/
def Good (n0 : Nat) (cc : Core) (m : List Int) : Prop := m.length = n0 ∧ (∀ i, i < 4 → In64 (cc.r i)) ∧ ∀ y ∈ m, In64 y
/-- The words lie neither in the one block nor in the other. -/
def Far (g h : Nat) (A : Option Addr) : Prop := ∀ ad, A = some ad → ad.block ≠ g ∧ ad.block ≠ h
theorem good_step {n0 : Nat} {cc : Core} {m : List Int} (hg : Good n0 cc m) (code : List (Int × Int × Int)) (xs : List Rg) (k : Nat) (hk : k ≤ 200) : Good n0 (stepC code cc m xs k) (stepM code cc m xs k) := by
  obtain ⟨h1, h2⟩ := step_in code cc m xs k hg.2.1 hg.2.2 (by unfold In64; omega)
  exact ⟨by rw [stepM_len]; exact hg.1, h1, h2⟩
theorem step_round {n0 : Nat} (h0 : 0 < n0) (h64 : n0 ≤ 64) (cc : Core) (A : Option Addr) (c : Nat) (code : List (Int × Int × Int)) (M : Option Addr) (cm : Nat) (m : List Int) (A' : Option Addr) (c' : Nat) (l : List PureC.S) (k : Nat) (W : World) (g h : Nat)
    (hg : g < W.heap.size) (hh : h < W.heap.size) (hgood : Good n0 cc m) (hc : CodeAt W A code) (hG : Glob W) (hr : (Kd.int .i64).C W M n0 m) (hl : Kd.C Pr.k25 W A' l.length l) :
    Calls Tryd.prog 11 #[.slice A code.length c, coreV cc, .slice M n0 cm, .slice A' l.length c', .int .i64 k] W fun e w' =>
      ∃ A1 d1, e = .returned (.tuple #[coreV (stepC code cc m (l.map rg_) k), .slice A1 n0 d1, outV (stepO code cc m (l.map rg_) k)]) ∧ n0 ≤ d1 ∧ (Kd.int .i64).C w' A1 n0 (stepM code cc m (l.map rg_) k) ∧ Far g h A1 ∧ Below W.heap.size W w' := by
  have hm := hgood.1
  have hs := step_any cc A c code W hc hG M cm m A' c' (l.map rg_) k (by rw [hm]; exact hr) (by omega) (regs_at hl)
  rw [List.length_map, hm] at hs
  refine hs.mono ?_
  rintro e w' ⟨v, rfl, hv, hb⟩
  have hlen : (stepM code cc m (l.map rg_) k).length = n0 := by rw [stepM_len, hm]
  obtain ⟨g1, cap, rfl⟩ := Kd.R_slice1 hv (by omega)
  obtain ⟨b, rfl⟩ := Kd.R_head hv
  have hbg := Kd.R_base hv b (by simp [Value.ownBlock])
  obtain ⟨_, hd, hC⟩ := Kd.R_reads' hv
  rw [hlen] at hd hC
  exact ⟨_, cap, by rw [hlen], hd, hC, fun ad had => by cases had; simp only; omega, hb⟩
theorem ref_round {n0 : Nat} (h0 : 0 < n0) (h64 : n0 ≤ 64) (cc : Core) (A : Option Addr) (c : Nat) (code : List (Int × Int × Int)) (M : Option Addr) (cm : Nat) (m : List Int) (A' : Option Addr) (c' : Nat) (l : List PureC.S) (k : Nat) (W : World) (g h : Nat)
    (hg : g < W.heap.size) (hh : h < W.heap.size) (hgood : Good n0 cc m) (hc : CodeAt W A code) (hr : (Kd.int .i64).C W M n0 m) (hcm : n0 ≤ cm) (hf : Far g h M) (hl : Kd.C Pr.k25 W A' l.length l) (hcl : l.length ≤ c') (hl4 : l.length ≤ 4)
    (hfew : ∀ x ∈ l, x.f1 ≤ 200 ∧ x.f0 < 1000) :
    Calls Tryd.prog 13 #[.slice A code.length c, coreV cc, .slice M n0 cm, .slice A' l.length c', .int .i64 k] W fun e w' =>
      ∃ A1 d1, e = .returned (.tuple #[coreV (stepC code cc m (l.map rg_) k), .slice A1 n0 d1, outV (stepO code cc m (l.map rg_) k)]) ∧ n0 ≤ d1 ∧ (Kd.int .i64).C w' A1 n0 (stepM code cc m (l.map rg_) k) ∧ Far g h A1 ∧ Below W.heap.size W w' := by
  have hm := hgood.1
  have hs := ref_new cc A c code W M cm m A' c' l k hc (by rw [hm]; exact hr) (by omega) (by omega) hl hcl (by omega) hfew hgood.2.1
  rw [hm] at hs
  refine hs.mono ?_
  rintro e w' ⟨v, rfl, ⟨B, d, rfl, hd, hC, hnew⟩, hb⟩
  have hlen : (stepM code cc m (l.map rg_) k).length = n0 := by rw [stepM_len, hm]
  rw [hlen] at hd hC hnew
  refine ⟨B, d, by rw [hlen], hd, hC, ?_, hb⟩
  rcases hnew with he | hb1
  · simp only [Value.slice.injEq] at he
    rw [he.1]; exact hf
  · obtain ⟨b, rfl, hbb⟩ := hb1 h0
    exact fun ad had => by cases had; simp only; omega
theorem put5_keep (W : World) (q : Nat) (a b c d e : Value) : KeepBut W (((((W.setCell ⟨q, 0, none⟩ a).setCell ⟨q, 1, none⟩ b).setCell ⟨q, 2, none⟩ c).setCell ⟨q, 3, none⟩ d).setCell ⟨q, 4, none⟩ e) q none :=
  (((((KeepBut.refl W q none).set_ 0 a).set_ 1 b).set_ 2 c).set_ 3 d).set_ 4 e
theorem words_put5 {W : World} {A : Option Addr} {n : Nat} {m : List Int} (h : (Kd.int .i64).C W A n m) {q : Nat} (hq : ∀ ad, A = some ad → ad.block ≠ q) (a b c d e : Value) :
    (Kd.int .i64).C (((((W.setCell ⟨q, 0, none⟩ a).setCell ⟨q, 1, none⟩ b).setCell ⟨q, 2, none⟩ c).setCell ⟨q, 3, none⟩ d).setCell ⟨q, 4, none⟩ e) A n m :=
  Kd.C_keep (enc := Value.int .i64) (h1 := fun _ => rfl) (0 : Int) h (put5_keep W q a b c d e) (fun ad ha _ => hq ad ha)

theorem runs_big (cc : Core) (A : Option Addr) (c n : Nat) (M : Option Addr) (cm k : Nat) (A' : Option Addr) (c' n' : Nat) (steps : Int) (w : World) (hG : Glob w) (h : 64 < n) :
    Calls Tryd.prog 4 #[.slice A n c, .agg #[.int .i64 cc.pc, .int .i64 (cc.r 0), .int .i64 (cc.r 1), .int .i64 (cc.r 2), .int .i64 (cc.r 3)], .slice M k cm, .slice A' n' c', .int .i64 steps] w fun e w' => e = .returned (.bool true) ∧ Below w.heap.size w w' := by
  have hA : ∀ o, _ := fun o => awake_any (w.alloc o) (hG.alloc o)
  have HA := Lib.hid hA
  have d2 : decide (64 < (n : Int)) = true := decide_eq_true (by omega)
  have d3 : decide (64 < n) = true := decide_eq_true (by omega)
  clear hA hG h
  go_enter Tryd.func4, Tryd.ntmps4
  go_wp2_with fail
  refine (HA.out _).mono ?_
  rintro e w1 ⟨rfl, hb⟩
  have HB1 := Lib.hid (btrans (balloc (Below.refl _ _) _) hb)
  clear hb
  go_wp2_with fail
  go_ret
  exact ⟨rfl, HB1.out⟩
theorem runs_may (cc : Core) (A : Option Addr) (c n : Nat) (M : Option Addr) (cm k : Nat) (A' : Option Addr) (c' n' : Nat) (steps : Int) (w : World) (hG : Glob w) (h : n ≤ 64) (hMay : ∀ W, Below w.heap.size w W → Calls Tryd.prog 12 #[.slice A' n' c', .int .i64 k] W fun e w' => e = .returned (.bool false) ∧ Below W.heap.size W w') :
    Calls Tryd.prog 4 #[.slice A n c, .agg #[.int .i64 cc.pc, .int .i64 (cc.r 0), .int .i64 (cc.r 1), .int .i64 (cc.r 2), .int .i64 (cc.r 3)], .slice M k cm, .slice A' n' c', .int .i64 steps] w fun e w' => e = .returned (.bool true) ∧ Below w.heap.size w w' := by
  have hA : ∀ o, _ := fun o => awake_any (w.alloc o) (hG.alloc o)
  have HA := Lib.hid hA
  have HMAY := Lib.hid hMay
  have d2 : decide (64 < (n : Int)) = false := decide_eq_false (by omega)
  have d3 : decide (64 < n) = false := decide_eq_false (by omega)
  clear hA hG h hMay
  go_enter Tryd.func4, Tryd.ntmps4
  go_wp2_with fail
  refine (HA.out _).mono ?_
  rintro e w1 ⟨rfl, hb⟩
  have HB1 := Lib.hid (btrans (balloc (Below.refl _ _) _) hb)
  clear hb
  go_wp2_with fail
  refine (HMAY.out _ HB1.out).mono ?_
  rintro e w2 ⟨rfl, hb⟩
  have HB2 := Lib.hid (btrans HB1.out hb)
  clear hb
  go_wp2_with fail
  go_ret
  exact ⟨rfl, HB2.out⟩
theorem runs_long (cc : Core) (A : Option Addr) (c n : Nat) (M : Option Addr) (cm k : Nat) (A' : Option Addr) (c' n' : Nat) (steps : Int) (w : World) (hG : Glob w) (h : n ≤ 64) (h2 : 200 < steps) (hMay : ∀ W, Below w.heap.size w W → Calls Tryd.prog 12 #[.slice A' n' c', .int .i64 k] W fun e w' => e = .returned (.bool true) ∧ Below W.heap.size W w') :
    Calls Tryd.prog 4 #[.slice A n c, .agg #[.int .i64 cc.pc, .int .i64 (cc.r 0), .int .i64 (cc.r 1), .int .i64 (cc.r 2), .int .i64 (cc.r 3)], .slice M k cm, .slice A' n' c', .int .i64 steps] w fun e w' => e = .returned (.bool true) ∧ Below w.heap.size w w' := by
  have hA : ∀ o, _ := fun o => awake_any (w.alloc o) (hG.alloc o)
  have HA := Lib.hid hA
  have HMAY := Lib.hid hMay
  have d2 : decide (64 < (n : Int)) = false := decide_eq_false (by omega)
  have d3 : decide (64 < n) = false := decide_eq_false (by omega)
  have e2 : decide (200 < steps) = true := decide_eq_true (by omega)
  clear hA hG h hMay h2
  go_enter Tryd.func4, Tryd.ntmps4
  go_wp2_with fail
  refine (HA.out _).mono ?_
  rintro e w1 ⟨rfl, hb⟩
  have HB1 := Lib.hid (btrans (balloc (Below.refl _ _) _) hb)
  clear hb
  go_wp2_with fail
  refine (HMAY.out _ HB1.out).mono ?_
  rintro e w2 ⟨rfl, hb⟩
  have HB2 := Lib.hid (btrans HB1.out hb)
  clear hb
  go_wp2_with fail
  go_ret
  exact ⟨rfl, HB2.out⟩
theorem same_below (A0 A1 : Option Addr) (c0 c1 : Nat) (m : List Int) (n0 : Nat) (hm : m.length = n0) (h64 : n0 ≤ 64) (w : World) (h0 : (Kd.int .i64).C w A0 n0 m) (hc0 : n0 ≤ c0) (h1 : (Kd.int .i64).C w A1 n0 m) (hc1 : n0 ≤ c1) :
    Calls Tryd.prog 14 #[.slice A0 n0 c0, .slice A1 n0 c1] w fun e w' => e = .returned (.bool true) ∧ Below w.heap.size w w' := by
  subst hm
  exact (same_any A0 A1 c0 c1 m (by omega) w h0 hc0 h1 hc1).mono fun e w' ⟨h, n, h2⟩ => ⟨h, by rw [h2]; exact bdrewN (Below.refl _ _) n⟩
set_option maxHeartbeats 4000000 in
theorem runs_main (cc : Core) (A : Option Addr) (c : Nat) (code : List (Int × Int × Int)) (M : Option Addr) (cm : Nat) (m : List Int) (A' : Option Addr) (c' : Nat) (l : List PureC.S) (steps : Int) (w : World)
    (hc : CodeAt w A code) (hG : Glob w) (hr : (Kd.int .i64).C w M m.length m) (hcm : m.length ≤ cm) (hl : Kd.C Pr.k25 w A' l.length l) (hcl : l.length ≤ c') (h64 : ∀ i, i < 4 → In64 (cc.r i)) (hm64 : ∀ y ∈ m, In64 y)
    (hn : code.length ≤ 64) (hst : steps ≤ 200) (hn0 : 0 < m.length) (hn64 : m.length ≤ 64) (hl4 : l.length ≤ 4) (hfew : ∀ x ∈ l, x.f1 ≤ 200 ∧ x.f0 < 1000)
    (hMay : ∀ W, Below w.heap.size w W → Calls Tryd.prog 12 #[.slice A' l.length c', .int .i64 m.length] W fun e w' => e = .returned (.bool true) ∧ Below W.heap.size W w') :
    Calls Tryd.prog 4 #[.slice A code.length c, .agg #[.int .i64 cc.pc, .int .i64 (cc.r 0), .int .i64 (cc.r 1), .int .i64 (cc.r 2), .int .i64 (cc.r 3)], .slice M m.length cm, .slice A' l.length c', .int .i64 steps] w fun e w' => e = .returned (.bool true) ∧ Below w.heap.size w w' := by
  have hA : ∀ o, _ := fun o => awake_any (w.alloc o) (hG.alloc o)
  have HA := Lib.hid hA
  have HMAY := Lib.hid hMay
  have HN0 := Lib.hid hn0
  have HN64 := Lib.hid hn64
  have HR := Lib.hid hr
  have HCM := Lib.hid hcm
  have HGOOD : Hid (Good m.length cc m) := Lib.hid ⟨rfl, h64, hm64⟩
  have hS : ∀ (cc : Core) M cm (m1 : List Int) (k : Nat) W g h, Below w.heap.size w W → g < W.heap.size → h < W.heap.size → Good m.length cc m1 → (Kd.int .i64).C W M m.length m1 → _ :=
    fun cc M cm m1 k W g h hb hg hh hgd hC => step_round hn0 hn64 cc A c code M cm m1 A' c' l k W g h hg hh hgd (hc.below hb) (hG.below hb) hC (Kd.C_below hl hb)
  have hS2 : ∀ (cc : Core) M cm (m1 : List Int) (k : Nat) W g h, Below w.heap.size w W → g < W.heap.size → h < W.heap.size → Good m.length cc m1 → (Kd.int .i64).C W M m.length m1 → m.length ≤ cm → Far g h M → _ :=
    fun cc M cm m1 k W g h hb hg hh hgd hC hcm hF => ref_round hn0 hn64 cc A c code M cm m1 A' c' l k W g h hg hh hgd (hc.below hb) hC hcm hF (Kd.C_below hl hb) hcl hl4 hfew
  have HS := Lib.hid hS
  have HS2 := Lib.hid hS2
  have hi3 : (Tryd.prog.info? 3).map (fun i => (i.zero, i.size, i.bytes)) = some (some (.int .i64 0), 1, 8) := rfl
  have HI3 := Lib.hid hi3
  have d2 : decide (64 < (code.length : Int)) = false := decide_eq_false (by omega)
  have d3 : decide (64 < code.length) = false := decide_eq_false (by omega)
  have e2 : decide (200 < steps) = false := decide_eq_false (by omega)
  clear hA hMay hn0 hn64 hr hcm hS hS2 hi3 hc hG hl hcl h64 hm64 hn hl4 hfew
  go_enter Tryd.func4, Tryd.ntmps4
  go_wp2_with fail
  refine (HA.out _).mono ?_
  rintro e w1 ⟨rfl, hb⟩
  have B0_ := Lib.hid (Below.refl w.heap.size w)
  have K1_c := Lib.hid (blk_below (blk_new w (.cells #[.int .i64 cc.pc, .int .i64 (cc.r 0), .int .i64 (cc.r 1), .int .i64 (cc.r 2), .int .i64 (cc.r 3)] 29)) hb)
  have B1_ := Lib.hid (btrans (balloc B0_.out (.cells #[.int .i64 cc.pc, .int .i64 (cc.r 0), .int .i64 (cc.r 1), .int .i64 (cc.r 2), .int .i64 (cc.r 3)] 29)) hb)
  have l1_c := blk_lt K1_c.out
  have q1_c_1 : w.heap.size ≤ w1.heap.size := by omega
  have q1_c_2 : w.heap.size ≤ w1.heap.size + 1 := by omega
  have q1_c_3 : w.heap.size < w1.heap.size + 1 := by omega
  clear hb
  go_wp2_with fail
  refine (HMAY.out _ B1_.out).mono ?_
  rintro e w2 ⟨rfl, hb⟩
  have K2_c := Lib.hid (blk_below K1_c.out hb)
  have B2_ := Lib.hid (btrans B1_.out hb)
  have l2_c := blk_lt K2_c.out
  have q2_c_1 : w.heap.size ≤ w2.heap.size := by omega
  have q2_c_2 : w.heap.size ≤ w2.heap.size + 1 := by omega
  have q2_c_3 : w.heap.size < w2.heap.size + 1 := by omega
  have c2_c_0 : w2.cell? ⟨w.heap.size, 0, none⟩ = some (.int .i64 cc.pc) := (blk_cell K2_c.out 0).trans rfl
  have c2_c_1 : w2.cell? ⟨w.heap.size, 1, none⟩ = some (.int .i64 (cc.r 0)) := (blk_cell K2_c.out 1).trans rfl
  have c2_c_2 : w2.cell? ⟨w.heap.size, 2, none⟩ = some (.int .i64 (cc.r 1)) := (blk_cell K2_c.out 2).trans rfl
  have c2_c_3 : w2.cell? ⟨w.heap.size, 3, none⟩ = some (.int .i64 (cc.r 2)) := (blk_cell K2_c.out 3).trans rfl
  have c2_c_4 : w2.cell? ⟨w.heap.size, 4, none⟩ = some (.int .i64 (cc.r 3)) := (blk_cell K2_c.out 4).trans rfl
  have hgg : w.heap.size < w2.heap.size := l2_c
  clear hb l1_c q1_c_1 q1_c_2 q1_c_3
  go_wp2_with ((with_reducible refine gate_builtin (b := .append) (xs := #[.const (.slice none 0 0), .tmp 43]) rfl ?_); at_builtin; refine Kd.R_append_rows (Kd.int .i64) _ rfl (.const (.slice none 0 0)) (.tmp 43) 22 3 (.int .i64 0) 8 rfl Tryd.underlying22 HI3.out rfl (by decide) (by omega) (.slice none 0 0) [] m _ _ _ (fun _ => True) (fun _ => False) rfl rfl (Kd.R_nil _ _ _ _ _) (Kd.C_below HR.out (balloc B2_.out _)) (fun _ _ h => h) (fun _ h => h.elim) (fun _ _ => trivial) (Below.refl _ _) (Nat.le_refl _) (by have := HN64.out; simp only [List.length_nil]; omega) ?_; intro vn w3 ho hb hg hat; rw [List.nil_append] at ho; have hp0 := HN0.out; obtain ⟨g, cap, rfl⟩ := Kd.R_slice1 ho (by omega); obtain ⟨b, rfl⟩ := Kd.R_head ho; have hbg := Kd.R_base ho b (by simp [Value.ownBlock]); rw [alloc_size] at hbg; have HRD := Lib.hid (Kd.R_reads' ho).2; have HB3 := Lib.hid hb; clear ho hb hg hat hp0)
  have K3_c := Lib.hid (blk_below (blk_alloc K2_c.out (.cells #[.int .i64 cc.pc, .int .i64 (cc.r 0), .int .i64 (cc.r 1), .int .i64 (cc.r 2), .int .i64 (cc.r 3)] 29)) HB3.out)
  have K3_d := Lib.hid (blk_below (blk_new w2 (.cells #[.int .i64 cc.pc, .int .i64 (cc.r 0), .int .i64 (cc.r 1), .int .i64 (cc.r 2), .int .i64 (cc.r 3)] 29)) HB3.out)
  have B3_ := Lib.hid (btrans (balloc B2_.out (.cells #[.int .i64 cc.pc, .int .i64 (cc.r 0), .int .i64 (cc.r 1), .int .i64 (cc.r 2), .int .i64 (cc.r 3)] 29)) HB3.out)
  have l3_c := blk_lt K3_c.out
  have q3_c_1 : w.heap.size ≤ w3.heap.size := by omega
  have q3_c_2 : w.heap.size ≤ w3.heap.size + 1 := by omega
  have q3_c_3 : w.heap.size < w3.heap.size + 1 := by omega
  have l3_d := blk_lt K3_d.out
  have q3_d_5 : w2.heap.size ≤ w3.heap.size := by omega
  have q3_d_6 : w2.heap.size ≤ w3.heap.size + 1 := by omega
  have q3_d_7 : w2.heap.size < w3.heap.size + 1 := by omega
  clear HB3 l2_c q2_c_1 q2_c_2 q2_c_3 c2_c_0 c2_c_1 c2_c_2 c2_c_3 c2_c_4 l3_c q3_c_1 q3_c_2 q3_c_3 l3_d q3_d_5 q3_d_6 q3_d_7
  have HF1 : Hid (Far w.heap.size w2.heap.size M) := Lib.hid (fun ad had => by
    obtain ⟨a1, h1, h2⟩ := Kd.at_int HR.out 0 (by omega) (by have := HN0.out; omega)
    have h3 : a1 = ad := Option.some.inj (h1.symm.trans had)
    have h4 := World.block_lt_of_cell? w _ h2
    subst h3
    have h5 : a1.block < w.heap.size := h4
    omega)
  have HF2 : Hid (Far w.heap.size w2.heap.size (some ⟨b, 0, none⟩)) := Lib.hid (fun ad had => by cases had; simp only; omega)
  have HC1 := Lib.hid (Kd.C_below HR.out B3_.out)
  go_loopw [2, 13, 14] (fun a_ b_ k_ wr_ => ∃ (k : Nat) (cc : Core) (m1 : List Int) (M1 : Option Addr) (k1 : Nat) (M2 : Option Addr) (k2 : Nat), (k = 0 ∨ (k : Int) ≤ steps) ∧ a_ = .slice M1 m.length k1 ∧ b_ = .slice M2 m.length k2 ∧ k_ = .int .i64 k ∧ Hid (Good m.length cc m1) ∧ Hid (Below w.heap.size w wr_) ∧ Hid (wr_.heap[w.heap.size]? = some (.cells #[.int .i64 cc.pc, .int .i64 (cc.r 0), .int .i64 (cc.r 1), .int .i64 (cc.r 2), .int .i64 (cc.r 3)] 29 (0, 0))) ∧ Hid (wr_.heap[w2.heap.size]? = some (.cells #[.int .i64 cc.pc, .int .i64 (cc.r 0), .int .i64 (cc.r 1), .int .i64 (cc.r 2), .int .i64 (cc.r 3)] 29 (0, 0))) ∧ Hid ((Kd.int .i64).C wr_ M1 m.length m1) ∧ Hid ((Kd.int .i64).C wr_ M2 m.length m1) ∧ Hid (m.length ≤ k1 ∧ m.length ≤ k2) ∧ Hid (Far w.heap.size w2.heap.size M1) ∧ Hid (Far w.heap.size w2.heap.size M2)) (fun _ _ k_ _ => steps.toNat - (intOf k_).toNat)
  case atStart => exact ⟨0, cc, m, M, cm, _, cap, .inl rfl, rfl, rfl, rfl, HGOOD, B3_, K3_c, K3_d, HC1, Lib.hid HRD.out.2, Lib.hid ⟨HCM.out, HRD.out.1⟩, HF1, HF2⟩
  case round =>
    obtain ⟨k, cc, m1, M1, k1, M2, k2, hk, rfl, rfl, rfl, hgood, hB, hc6, hc12, hC1, hC2, hcap, hF1, hF2⟩ := hrel
    have l6 := blk_lt hc6.out
    have l12 := blk_lt hc12.out
    by_cases hlt : (k : Int) < steps
    · have hk200 : k ≤ 200 := by omega
      have hs1 := HS.out cc M1 k1 m1 k wr w.heap.size w2.heap.size hB.out l6 l12 hgood.out hC1.out
      have hs2 : ∀ W, Below wr.heap.size wr W → _ := fun W hb => HS2.out cc M2 k2 m1 k W w.heap.size w2.heap.size (btrans hB.out hb) (Nat.lt_of_lt_of_le l6 hb.size) (Nat.lt_of_lt_of_le l12 hb.size) hgood.out (Kd.C_below hC2.out hb) hcap.out.2 hF2.out
      have hgood2 := good_step hgood.out code (l.map rg_) k hk200
      generalize stepC code cc m1 (l.map rg_) k = X at *
      generalize stepO code cc m1 (l.map rg_) k = O at *
      generalize stepM code cc m1 (l.map rg_) k = m2 at *
      obtain ⟨fl, ca, ha, re, va⟩ := O
      unfold coreV outV Core.cells Outc.cells at hs1 hs2
      dsimp only at hs1 hs2
      have hSame : ∀ A0 A1 c0 c1 W, (Kd.int .i64).C W A0 m.length m2 → m.length ≤ c0 → (Kd.int .i64).C W A1 m.length m2 → m.length ≤ c1 → _ := fun A0 A1 c0 c1 W h0 h1 h2 h3 => same_below A0 A1 c0 c1 m2 m.length hgood2.1 HN64.out W h0 h1 h2 h3
      have heq : ∀ W, _ := fun W => eq_regs 9997 (X.r 0) (X.r 1) (X.r 2) (X.r 3) W
      simp only [Nat.reduceAdd] at heq
      have HG2 := Lib.hid hgood2
      have HSAME := Lib.hid hSame
      have HS1 := Lib.hid hs1
      have HS3 := Lib.hid hs2
      clear hgood2 hSame hs1 hs2
      obtain ⟨x0, x1, x2, x3, x4⟩ := cells5 hc6.out
      have y6 : w.heap.size ≤ wr.heap.size := by omega
      have y12 : w2.heap.size ≤ wr.heap.size := by omega
      go_wp2_with fail
      refine HS1.out.mono ?_
      rintro e v1 ⟨A1, d1, rfl, hd1, hv1, hf1, hb⟩
      have hbr := hb
      have K1_c := Lib.hid (blk_below hc6.out hb)
      have K1_d := Lib.hid (blk_below hc12.out hb)
      have B1_ := Lib.hid (btrans hB.out hb)
      have l1_c := blk_lt K1_c.out
      have q1_c_1 : w.heap.size ≤ v1.heap.size := by omega
      have q1_c_2 : w.heap.size ≤ v1.heap.size + 1 := by omega
      have q1_c_3 : w.heap.size < v1.heap.size + 1 := by omega
      have l1_d := blk_lt K1_d.out
      have q1_d_5 : w2.heap.size ≤ v1.heap.size := by omega
      have q1_d_6 : w2.heap.size ≤ v1.heap.size + 1 := by omega
      have q1_d_7 : w2.heap.size < v1.heap.size + 1 := by omega
      have c1_d_0 : v1.cell? ⟨w2.heap.size, 0, none⟩ = some (.int .i64 cc.pc) := (blk_cell K1_d.out 0).trans rfl
      have c1_d_1 : v1.cell? ⟨w2.heap.size, 1, none⟩ = some (.int .i64 (cc.r 0)) := (blk_cell K1_d.out 1).trans rfl
      have c1_d_2 : v1.cell? ⟨w2.heap.size, 2, none⟩ = some (.int .i64 (cc.r 1)) := (blk_cell K1_d.out 2).trans rfl
      have c1_d_3 : v1.cell? ⟨w2.heap.size, 3, none⟩ = some (.int .i64 (cc.r 2)) := (blk_cell K1_d.out 3).trans rfl
      have c1_d_4 : v1.cell? ⟨w2.heap.size, 4, none⟩ = some (.int .i64 (cc.r 3)) := (blk_cell K1_d.out 4).trans rfl
      have w12 : w2.heap.size < v1.heap.size := l1_d
      have HV1 := Lib.hid hv1
      have HD1 := Lib.hid hd1
      have HFA1 := Lib.hid hf1
      have HBR := Lib.hid hbr
      clear hv1 hd1 hf1 hb hbr x0 x1 x2 x3 x4 y6 y12
      go_wp2_with fail
      refine (HS3.out _ (balloc (balloc HBR.out _) _)).mono ?_
      rintro e v2 ⟨A2, d2, rfl, hd2, hv2, hf2, hb⟩
      have HV1' := Lib.hid (Kd.C_below (Kd.C_below HV1.out (balloc (balloc (Below.refl v1.heap.size v1) (.cells #[.int .i64 X.pc, .int .i64 (X.r 0), .int .i64 (X.r 1), .int .i64 (X.r 2), .int .i64 (X.r 3)] 29)) (.cells #[.int .i64 fl, .int .i64 ca, .bool ha, .bool re, .int .i64 va] 34))) hb)
      have K2_c := Lib.hid (blk_below (blk_alloc (blk_alloc K1_c.out (.cells #[.int .i64 X.pc, .int .i64 (X.r 0), .int .i64 (X.r 1), .int .i64 (X.r 2), .int .i64 (X.r 3)] 29)) (.cells #[.int .i64 fl, .int .i64 ca, .bool ha, .bool re, .int .i64 va] 34)) hb)
      have K2_d := Lib.hid (blk_below (blk_alloc (blk_alloc K1_d.out (.cells #[.int .i64 X.pc, .int .i64 (X.r 0), .int .i64 (X.r 1), .int .i64 (X.r 2), .int .i64 (X.r 3)] 29)) (.cells #[.int .i64 fl, .int .i64 ca, .bool ha, .bool re, .int .i64 va] 34)) hb)
      have K2_a := Lib.hid (blk_below (two_new1 v1 (.cells #[.int .i64 X.pc, .int .i64 (X.r 0), .int .i64 (X.r 1), .int .i64 (X.r 2), .int .i64 (X.r 3)] 29) (.cells #[.int .i64 fl, .int .i64 ca, .bool ha, .bool re, .int .i64 va] 34)) hb)
      have K2_o := Lib.hid (blk_below (two_new2 v1 (.cells #[.int .i64 X.pc, .int .i64 (X.r 0), .int .i64 (X.r 1), .int .i64 (X.r 2), .int .i64 (X.r 3)] 29) (.cells #[.int .i64 fl, .int .i64 ca, .bool ha, .bool re, .int .i64 va] 34)) hb)
      have B2_ := Lib.hid (btrans (balloc (balloc B1_.out (.cells #[.int .i64 X.pc, .int .i64 (X.r 0), .int .i64 (X.r 1), .int .i64 (X.r 2), .int .i64 (X.r 3)] 29)) (.cells #[.int .i64 fl, .int .i64 ca, .bool ha, .bool re, .int .i64 va] 34)) hb)
      have l2_c := blk_lt K2_c.out
      have q2_c_1 : w.heap.size ≤ v2.heap.size := by omega
      have q2_c_2 : w.heap.size ≤ v2.heap.size + 1 := by omega
      have q2_c_3 : w.heap.size < v2.heap.size + 1 := by omega
      have l2_d := blk_lt K2_d.out
      have q2_d_5 : w2.heap.size ≤ v2.heap.size := by omega
      have q2_d_6 : w2.heap.size ≤ v2.heap.size + 1 := by omega
      have q2_d_7 : w2.heap.size < v2.heap.size + 1 := by omega
      have l2_a := blk_lt K2_a.out
      have q2_a_9 : v1.heap.size ≤ v2.heap.size := by omega
      have q2_a_10 : v1.heap.size ≤ v2.heap.size + 1 := by omega
      have q2_a_11 : v1.heap.size < v2.heap.size + 1 := by omega
      have l2_o := blk_lt K2_o.out
      have q2_o_13 : v1.heap.size + 1 ≤ v2.heap.size := by omega
      have q2_o_14 : v1.heap.size + 1 ≤ v2.heap.size + 1 := by omega
      have q2_o_15 : v1.heap.size + 1 < v2.heap.size + 1 := by omega
      have q2_o_16 : v1.heap.size < v2.heap.size := by omega
      have q2_o_17 : v1.heap.size ≤ v2.heap.size := by omega
      have q2_o_18 : v1.heap.size ≤ v2.heap.size + 1 := by omega
      have q2_o_19 : v1.heap.size < v2.heap.size + 1 := by omega
      have wv : v1.heap.size + 1 < v2.heap.size := l2_o
      have HV2 := Lib.hid hv2
      have HD2 := Lib.hid hd2
      have HFA2 := Lib.hid hf2
      clear hv2 hd2 hf2 hb HV1 l1_c q1_c_1 q1_c_2 q1_c_3 l1_d q1_d_5 q1_d_6 q1_d_7 c1_d_0 c1_d_1 c1_d_2 c1_d_3 c1_d_4
      go_wp2_with fail
      have hE := (balloc (balloc (Below.refl v2.heap.size v2) (.cells #[.int .i64 X.pc, .int .i64 (X.r 0), .int .i64 (X.r 1), .int .i64 (X.r 2), .int .i64 (X.r 3)] 29)) (.cells #[.int .i64 fl, .int .i64 ca, .bool ha, .bool re, .int .i64 va] 34))
      refine (HSAME.out A1 A2 d1 d2 _ (Kd.C_below HV1'.out hE) HD1.out (Kd.C_below HV2.out hE) HD2.out).mono ?_
      rintro e v3 ⟨rfl, hb⟩
      have HW1 := Lib.hid (Kd.C_below (Kd.C_below HV1'.out hE) hb)
      have HW2 := Lib.hid (Kd.C_below (Kd.C_below HV2.out hE) hb)
      have K3_c := Lib.hid (blk_below (blk_alloc (blk_alloc K2_c.out (.cells #[.int .i64 X.pc, .int .i64 (X.r 0), .int .i64 (X.r 1), .int .i64 (X.r 2), .int .i64 (X.r 3)] 29)) (.cells #[.int .i64 fl, .int .i64 ca, .bool ha, .bool re, .int .i64 va] 34)) hb)
      have K3_d := Lib.hid (blk_below (blk_alloc (blk_alloc K2_d.out (.cells #[.int .i64 X.pc, .int .i64 (X.r 0), .int .i64 (X.r 1), .int .i64 (X.r 2), .int .i64 (X.r 3)] 29)) (.cells #[.int .i64 fl, .int .i64 ca, .bool ha, .bool re, .int .i64 va] 34)) hb)
      have K3_a := Lib.hid (blk_below (blk_alloc (blk_alloc K2_a.out (.cells #[.int .i64 X.pc, .int .i64 (X.r 0), .int .i64 (X.r 1), .int .i64 (X.r 2), .int .i64 (X.r 3)] 29)) (.cells #[.int .i64 fl, .int .i64 ca, .bool ha, .bool re, .int .i64 va] 34)) hb)
      have K3_o := Lib.hid (blk_below (blk_alloc (blk_alloc K2_o.out (.cells #[.int .i64 X.pc, .int .i64 (X.r 0), .int .i64 (X.r 1), .int .i64 (X.r 2), .int .i64 (X.r 3)] 29)) (.cells #[.int .i64 fl, .int .i64 ca, .bool ha, .bool re, .int .i64 va] 34)) hb)
      have K3_b := Lib.hid (blk_below (two_new1 v2 (.cells #[.int .i64 X.pc, .int .i64 (X.r 0), .int .i64 (X.r 1), .int .i64 (X.r 2), .int .i64 (X.r 3)] 29) (.cells #[.int .i64 fl, .int .i64 ca, .bool ha, .bool re, .int .i64 va] 34)) hb)
      have K3_p := Lib.hid (blk_below (two_new2 v2 (.cells #[.int .i64 X.pc, .int .i64 (X.r 0), .int .i64 (X.r 1), .int .i64 (X.r 2), .int .i64 (X.r 3)] 29) (.cells #[.int .i64 fl, .int .i64 ca, .bool ha, .bool re, .int .i64 va] 34)) hb)
      have B3_ := Lib.hid (btrans (balloc (balloc B2_.out (.cells #[.int .i64 X.pc, .int .i64 (X.r 0), .int .i64 (X.r 1), .int .i64 (X.r 2), .int .i64 (X.r 3)] 29)) (.cells #[.int .i64 fl, .int .i64 ca, .bool ha, .bool re, .int .i64 va] 34)) hb)
      have l3_c := blk_lt K3_c.out
      have q3_c_1 : w.heap.size ≤ v3.heap.size := by omega
      have q3_c_2 : w.heap.size ≤ v3.heap.size + 1 := by omega
      have q3_c_3 : w.heap.size < v3.heap.size + 1 := by omega
      have c3_c_0 : v3.cell? ⟨w.heap.size, 0, none⟩ = some (.int .i64 cc.pc) := (blk_cell K3_c.out 0).trans rfl
      have c3_c_1 : v3.cell? ⟨w.heap.size, 1, none⟩ = some (.int .i64 (cc.r 0)) := (blk_cell K3_c.out 1).trans rfl
      have c3_c_2 : v3.cell? ⟨w.heap.size, 2, none⟩ = some (.int .i64 (cc.r 1)) := (blk_cell K3_c.out 2).trans rfl
      have c3_c_3 : v3.cell? ⟨w.heap.size, 3, none⟩ = some (.int .i64 (cc.r 2)) := (blk_cell K3_c.out 3).trans rfl
      have c3_c_4 : v3.cell? ⟨w.heap.size, 4, none⟩ = some (.int .i64 (cc.r 3)) := (blk_cell K3_c.out 4).trans rfl
      have l3_d := blk_lt K3_d.out
      have q3_d_5 : w2.heap.size ≤ v3.heap.size := by omega
      have q3_d_6 : w2.heap.size ≤ v3.heap.size + 1 := by omega
      have q3_d_7 : w2.heap.size < v3.heap.size + 1 := by omega
      have c3_d_0 : v3.cell? ⟨w2.heap.size, 0, none⟩ = some (.int .i64 cc.pc) := (blk_cell K3_d.out 0).trans rfl
      have c3_d_1 : v3.cell? ⟨w2.heap.size, 1, none⟩ = some (.int .i64 (cc.r 0)) := (blk_cell K3_d.out 1).trans rfl
      have c3_d_2 : v3.cell? ⟨w2.heap.size, 2, none⟩ = some (.int .i64 (cc.r 1)) := (blk_cell K3_d.out 2).trans rfl
      have c3_d_3 : v3.cell? ⟨w2.heap.size, 3, none⟩ = some (.int .i64 (cc.r 2)) := (blk_cell K3_d.out 3).trans rfl
      have c3_d_4 : v3.cell? ⟨w2.heap.size, 4, none⟩ = some (.int .i64 (cc.r 3)) := (blk_cell K3_d.out 4).trans rfl
      have l3_a := blk_lt K3_a.out
      have q3_a_9 : v1.heap.size ≤ v3.heap.size := by omega
      have q3_a_10 : v1.heap.size ≤ v3.heap.size + 1 := by omega
      have q3_a_11 : v1.heap.size < v3.heap.size + 1 := by omega
      have c3_a_0 : v3.cell? ⟨v1.heap.size, 0, none⟩ = some (.int .i64 X.pc) := (blk_cell K3_a.out 0).trans rfl
      have c3_a_1 : v3.cell? ⟨v1.heap.size, 1, none⟩ = some (.int .i64 (X.r 0)) := (blk_cell K3_a.out 1).trans rfl
      have c3_a_2 : v3.cell? ⟨v1.heap.size, 2, none⟩ = some (.int .i64 (X.r 1)) := (blk_cell K3_a.out 2).trans rfl
      have c3_a_3 : v3.cell? ⟨v1.heap.size, 3, none⟩ = some (.int .i64 (X.r 2)) := (blk_cell K3_a.out 3).trans rfl
      have c3_a_4 : v3.cell? ⟨v1.heap.size, 4, none⟩ = some (.int .i64 (X.r 3)) := (blk_cell K3_a.out 4).trans rfl
      have l3_o := blk_lt K3_o.out
      have q3_o_13 : v1.heap.size + 1 ≤ v3.heap.size := by omega
      have q3_o_14 : v1.heap.size + 1 ≤ v3.heap.size + 1 := by omega
      have q3_o_15 : v1.heap.size + 1 < v3.heap.size + 1 := by omega
      have q3_o_16 : v1.heap.size < v3.heap.size := by omega
      have q3_o_17 : v1.heap.size ≤ v3.heap.size := by omega
      have q3_o_18 : v1.heap.size ≤ v3.heap.size + 1 := by omega
      have q3_o_19 : v1.heap.size < v3.heap.size + 1 := by omega
      have c3_o_0 : v3.cell? ⟨v1.heap.size + 1, 0, none⟩ = some (.int .i64 fl) := (blk_cell K3_o.out 0).trans rfl
      have c3_o_1 : v3.cell? ⟨v1.heap.size + 1, 1, none⟩ = some (.int .i64 ca) := (blk_cell K3_o.out 1).trans rfl
      have c3_o_2 : v3.cell? ⟨v1.heap.size + 1, 2, none⟩ = some (.bool ha) := (blk_cell K3_o.out 2).trans rfl
      have c3_o_3 : v3.cell? ⟨v1.heap.size + 1, 3, none⟩ = some (.bool re) := (blk_cell K3_o.out 3).trans rfl
      have c3_o_4 : v3.cell? ⟨v1.heap.size + 1, 4, none⟩ = some (.int .i64 va) := (blk_cell K3_o.out 4).trans rfl
      have l3_b := blk_lt K3_b.out
      have q3_b_21 : v2.heap.size ≤ v3.heap.size := by omega
      have q3_b_22 : v2.heap.size ≤ v3.heap.size + 1 := by omega
      have q3_b_23 : v2.heap.size < v3.heap.size + 1 := by omega
      have c3_b_0 : v3.cell? ⟨v2.heap.size, 0, none⟩ = some (.int .i64 X.pc) := (blk_cell K3_b.out 0).trans rfl
      have c3_b_1 : v3.cell? ⟨v2.heap.size, 1, none⟩ = some (.int .i64 (X.r 0)) := (blk_cell K3_b.out 1).trans rfl
      have c3_b_2 : v3.cell? ⟨v2.heap.size, 2, none⟩ = some (.int .i64 (X.r 1)) := (blk_cell K3_b.out 2).trans rfl
      have c3_b_3 : v3.cell? ⟨v2.heap.size, 3, none⟩ = some (.int .i64 (X.r 2)) := (blk_cell K3_b.out 3).trans rfl
      have c3_b_4 : v3.cell? ⟨v2.heap.size, 4, none⟩ = some (.int .i64 (X.r 3)) := (blk_cell K3_b.out 4).trans rfl
      have l3_p := blk_lt K3_p.out
      have q3_p_25 : v2.heap.size + 1 ≤ v3.heap.size := by omega
      have q3_p_26 : v2.heap.size + 1 ≤ v3.heap.size + 1 := by omega
      have q3_p_27 : v2.heap.size + 1 < v3.heap.size + 1 := by omega
      have q3_p_28 : v2.heap.size < v3.heap.size := by omega
      have q3_p_29 : v2.heap.size ≤ v3.heap.size := by omega
      have q3_p_30 : v2.heap.size ≤ v3.heap.size + 1 := by omega
      have q3_p_31 : v2.heap.size < v3.heap.size + 1 := by omega
      have c3_p_0 : v3.cell? ⟨v2.heap.size + 1, 0, none⟩ = some (.int .i64 fl) := (blk_cell K3_p.out 0).trans rfl
      have c3_p_1 : v3.cell? ⟨v2.heap.size + 1, 1, none⟩ = some (.int .i64 ca) := (blk_cell K3_p.out 1).trans rfl
      have c3_p_2 : v3.cell? ⟨v2.heap.size + 1, 2, none⟩ = some (.bool ha) := (blk_cell K3_p.out 2).trans rfl
      have c3_p_3 : v3.cell? ⟨v2.heap.size + 1, 3, none⟩ = some (.bool re) := (blk_cell K3_p.out 3).trans rfl
      have c3_p_4 : v3.cell? ⟨v2.heap.size + 1, 4, none⟩ = some (.int .i64 va) := (blk_cell K3_p.out 4).trans rfl
      have ne0 : ¬ w2.heap.size = w.heap.size := by omega
      have ne1 : ¬ w.heap.size = w2.heap.size := by omega
      have ne2 : ¬ v1.heap.size = w.heap.size := by omega
      have ne3 : ¬ w.heap.size = v1.heap.size := by omega
      have ne4 : ¬ v1.heap.size = w2.heap.size := by omega
      have ne5 : ¬ w2.heap.size = v1.heap.size := by omega
      have ne6 : ¬ v1.heap.size + 1 = w.heap.size := by omega
      have ne7 : ¬ w.heap.size = v1.heap.size + 1 := by omega
      have ne8 : ¬ v1.heap.size + 1 = w2.heap.size := by omega
      have ne9 : ¬ w2.heap.size = v1.heap.size + 1 := by omega
      have ne10 : ¬ v2.heap.size = w.heap.size := by omega
      have ne11 : ¬ w.heap.size = v2.heap.size := by omega
      have ne12 : ¬ v2.heap.size = w2.heap.size := by omega
      have ne13 : ¬ w2.heap.size = v2.heap.size := by omega
      have ne14 : ¬ v2.heap.size + 1 = w.heap.size := by omega
      have ne15 : ¬ w.heap.size = v2.heap.size + 1 := by omega
      have ne16 : ¬ v2.heap.size + 1 = w2.heap.size := by omega
      have ne17 : ¬ w2.heap.size = v2.heap.size + 1 := by omega
      have zc0 := blk_frozen K3_c.out 0
      have zc1 := blk_frozen K3_c.out 1
      have zc2 := blk_frozen K3_c.out 2
      have zc3 := blk_frozen K3_c.out 3
      have zc4 := blk_frozen K3_c.out 4
      have zd0 := blk_frozen K3_d.out 0
      have zd1 := blk_frozen K3_d.out 1
      have zd2 := blk_frozen K3_d.out 2
      have zd3 := blk_frozen K3_d.out 3
      have zd4 := blk_frozen K3_d.out 4
      clear hb hE l2_c q2_c_1 q2_c_2 q2_c_3 l2_d q2_d_5 q2_d_6 q2_d_7 l2_a q2_a_9 q2_a_10 q2_a_11 l2_o q2_o_13 q2_o_14 q2_o_15 q2_o_16 q2_o_17 q2_o_18 q2_o_19
      cases ha
      · by_cases hfl : fl = 0
        · subst hfl
          go_wp2_with fail
          go_roundw
          case rel => exact ⟨k + 1, X, m2, A1, d1, A2, d2, .inr (by omega), rfl, rfl, by simp, HG2, Lib.hid (put5_below (put5_below B3_.out (Nat.le_refl _) _ _ _ _ _) (Nat.le_of_lt hgg) _ _ _ _ _), Lib.hid (put5_far (put5_blk K3_c.out _ _ _ _ _) (by omega) _ _ _ _ _), Lib.hid (put5_blk (put5_far K3_d.out (by omega) _ _ _ _ _) _ _ _ _ _), Lib.hid (words_put5 (words_put5 HW1.out (fun ad h => (HFA1.out ad h).1) _ _ _ _ _) (fun ad h => (HFA1.out ad h).2) _ _ _ _ _), Lib.hid (words_put5 (words_put5 HW2.out (fun ad h => (HFA2.out ad h).1) _ _ _ _ _) (fun ad h => (HFA2.out ad h).2) _ _ _ _ _), Lib.hid ⟨HD1.out, HD2.out⟩, HFA1, HFA2⟩
          case measure => simp [intOf]; omega
        · have f1 : (fl == 0) = false := by simp [hfl]
          have f2 : (fl != 0) = true := by simp [hfl]
          clear hfl
          go_wp2_with fail
          go_ret
          exact ⟨rfl, B3_.out⟩
      · go_wp2_with fail
        go_ret
        exact ⟨rfl, B3_.out⟩
    · go_wp2_with fail
      go_ret
      exact ⟨rfl, hB.out⟩
theorem runs_any (cc : Core) (A : Option Addr) (c : Nat) (code : List (Int × Int × Int)) (M : Option Addr) (cm : Nat) (m : List Int) (A' : Option Addr) (c' : Nat) (l : List PureC.S) (steps : Int) (w : World)
    (hc : CodeAt w A code) (hG : Glob w) (hr : (Kd.int .i64).C w M m.length m) (hcm : m.length ≤ cm) (hl : Kd.C Pr.k25 w A' l.length l) (hcl : l.length ≤ c') (h64 : ∀ i, i < 4 → In64 (cc.r i)) (hm64 : ∀ y ∈ m, In64 y) :
    Calls Tryd.prog 4 #[.slice A code.length c, coreV cc, .slice M m.length cm, .slice A' l.length c', .int .i64 steps] w fun e w' => e = .returned (.bool true) ∧ Below w.heap.size w w' := by
  have hMay : ∀ W, Below w.heap.size w W → Calls Tryd.prog 12 #[.slice A' l.length c', .int .i64 m.length] W fun e w' => e = .returned (.bool (mayV m.length (l.map rg_))) ∧ Below W.heap.size W w' := fun W hb => by
    have := may_any A' c' (l.map rg_) (m.length : Int) W ((regs_at hl).below hb) (by rw [List.length_map]; exact hcl)
    rwa [List.length_map] at this
  by_cases h1 : 64 < code.length
  · exact runs_big cc A c code.length M cm m.length A' c' l.length steps w hG h1
  · cases hv : mayV m.length (l.map rg_) with
    | false =>
      rw [hv] at hMay
      exact runs_may cc A c code.length M cm m.length A' c' l.length steps w hG (by omega) hMay
    | true =>
      rw [hv] at hMay
      by_cases h2 : 200 < steps
      · exact runs_long cc A c code.length M cm m.length A' c' l.length steps w hG (by omega) h2 hMay
      · obtain ⟨q1, q2, q3, q4⟩ := may_regions hv
        exact runs_main cc A c code M cm m A' c' l steps w hc hG hr hcm hl hcl h64 hm64 (by omega) (by omega) (by omega) (by omega) q3 q4 hMay
end Go.Proofs.YtlphgnfjemaliaaDoor.CpuR

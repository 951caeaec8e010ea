/-
  The law function CpuBlind, walked: it answers true. Conditions: the tables hold what the program's text lays; the arguments lie in memory as told.
-/
import Derived.Test.YtlphgnfjemaliaaDoorCpuL
import Derived.Test.YtlphgnfjemaliaaDoorPureC
namespace Go.Proofs.YtlphgnfjemaliaaDoor.CpuV
set_option maxRecDepth 100000
set_option linter.unusedVariables false
set_option linter.unusedSimpArgs false
open Go.RowKit Go.Proofs.YtlphgnfjemaliaaDoorW.PrintWords Go.Proofs.YtlphgnfjemaliaaDoor.Mem Go.Proofs.YtlphgnfjemaliaaDoor.CpuA Go.Proofs.YtlphgnfjemaliaaDoor.CpuB Go.Proofs.YtlphgnfjemaliaaDoor.CpuC Go.Proofs.YtlphgnfjemaliaaDoor.CpuS Go.Proofs.YtlphgnfjemaliaaDoor.CpuL Go.Proofs.YtlphgnfjemaliaaDoor.PureC Go.Proofs.YtlphgnfjemaliaaDoor.Instr

theorem stepM_len (code : List (Int × Int × Int)) (cc : Core) (m : List Int) (xs : List Rg) (now : Int) : (stepM code cc m xs now).length = m.length := by
  unfold stepM
  by_cases hf : stepF code cc m xs now = 0
  · rw [if_pos hf]
    unfold stepF at hf
    by_cases hok : okAt cc.pc code = true
    · rw [if_pos hok] at hf; exact memOf_len _ _ _ _ _ _ hf
    · rw [if_neg hok] at hf; omega
  · rw [if_neg hf]
theorem set_far (m : List Int) (p i : Nat) (v : Int) (h : i ≠ p) : (m.set p v).getD i 0 = m.getD i 0 := by
  rw [List.getD_eq_getElem?_getD, List.getD_eq_getElem?_getD, List.getElem?_set_ne (Ne.symm h)]
theorem may_less {a : Int} {x : Rg} (h : Mem.mayB a true x = true) : Mem.mayB a false x = true := by
  unfold Mem.mayB at *; simp at *; exact h.1
theorem wrong_less {n : Nat} {xs : List Rg} {a : Int} (h : wrongN n xs a true = 0) : wrongN n xs a false = 0 := by
  have hr := wrong_ok h
  unfold wrongN at *
  rw [if_neg (by omega)] at *
  cases ha : xs.any (Mem.mayB a true) with
  | false => rw [ha] at h; simp at h
  | true =>
    rw [List.any_eq_true] at ha
    obtain ⟨x, hx, hm⟩ := ha
    rw [List.any_eq_true.2 ⟨x, hx, may_less hm⟩]; rfl
theorem rd_far (m : List Int) (p : Nat) (v : Int) (i : Int) (h0 : 0 ≤ i) (h : i ≠ p) : rd (m.set p v) i = rd m i := set_far m p i.toNat v (by omega)
theorem rd_here (m : List Int) (p : Nat) (v : Int) (h : p < m.length) : rd (m.set p v) p = v := by
  unfold rd; rw [Int.toNat_natCast, List.getD_eq_getElem?_getD, List.getElem?_set_self h]; rfl
theorem load_blind {m : List Int} {xs : List Rg} {p : Nat} {v : Int} (h : wrongN m.length xs p false ≠ 0) (a : Int) : loadV (m.set p v) xs a = loadV m xs a := by
  unfold loadV
  rw [List.length_set]
  by_cases hw : wrongN m.length xs a false = 0
  · rw [if_pos hw, if_pos hw]
    exact rd_far m p v a (wrong_ok hw).1 (fun e => h (e ▸ hw))
  · rw [if_neg hw, if_neg hw]
/-- What a step does when a word is another that may not be read. -/
theorem blind_facts (code : List (Int × Int × Int)) (cc : Core) (m : List Int) (xs : List Rg) (now : Int) (p : Nat) (v : Int) (hp : p < m.length) (h : wrongN m.length xs p false ≠ 0) :
    stepC code cc (m.set p v) xs now = stepC code cc m xs now ∧ stepO code cc (m.set p v) xs now = stepO code cc m xs now ∧
    (∀ k : Nat, k ≠ p → rd (stepM code cc (m.set p v) xs now) k = rd (stepM code cc m xs now) k) ∧ rd (stepM code cc m xs now) p = rd m p ∧ rd (stepM code cc (m.set p v) xs now) p = v := by
  have hF : stepF code cc (m.set p v) xs now = stepF code cc m xs now := by
    unfold stepF faultOf; rw [List.length_set]
  have hX : stepX code cc (m.set p v) xs now = stepX code cc m xs now := by
    unfold stepX machOf; simp only [load_blind h]
  refine ⟨by unfold stepC; rw [hF, hX], by unfold stepO; rw [hF, hX], ?_⟩
  unfold stepM
  rw [hF]
  by_cases hf : stepF code cc m xs now = 0
  · rw [if_pos hf, if_pos hf]
    unfold memOf
    by_cases h9 : (nextI code cc).1.toNat = 9
    · rw [if_pos h9, if_pos h9]
      unfold storeV
      rw [List.length_set]
      generalize (machGo cc (.slice none 0 0) (.slice none 0 0) now).r (nextI code cc).2.1.toNat = y
      have hw : wrongN m.length xs ((machGo cc (.slice none 0 0) (.slice none 0 0) now).r (nextI code cc).2.2.toNat) true = 0 := by
        unfold stepF at hf
        by_cases hok : okAt cc.pc code = true
        · rw [if_pos hok] at hf
          unfold faultOf at hf
          rw [if_neg (by rw [h9]; decide), if_neg (by rw [h9]; decide), if_pos h9] at hf
          rcases Classical.em (wrongN m.length xs ((machGo cc (.slice none 0 0) (.slice none 0 0) now).r (nextI code cc).2.2.toNat) true = 0) with h' | h'
          · exact h'
          · rw [if_neg h'] at hf; omega
        · rw [if_neg hok] at hf; omega
      generalize (machGo cc (.slice none 0 0) (.slice none 0 0) now).r (nextI code cc).2.2.toNat = q at *
      rw [if_pos hw, if_pos hw]
      have hq := wrong_ok hw
      have hqp : q ≠ p := fun e => h (e ▸ wrong_less hw)
      refine ⟨fun k hk => ?_, ?_, ?_⟩
      · by_cases hkq : (k : Int) = q
        · have e : q.toNat = k := by omega
          rw [e, rd_here _ _ _ (by rw [List.length_set]; omega), rd_here _ _ _ (by omega)]
        · rw [rd_far _ _ _ _ (by omega) (by omega), rd_far _ _ _ _ (by omega) (by omega), rd_far _ _ _ _ (by omega) (by omega)]
      · exact rd_far _ _ _ _ (by omega) (by omega)
      · rw [rd_far _ _ _ _ (by omega) (by omega), rd_here _ _ _ hp]
    · rw [if_neg h9, if_neg h9]
      exact ⟨fun k hk => rd_far _ _ _ _ (by omega) (by omega), rfl, rd_here _ _ _ hp⟩
  · rw [if_neg hf, if_neg hf]
    exact ⟨fun k hk => rd_far _ _ _ _ (by omega) (by omega), rfl, rd_here _ _ _ hp⟩

/-- The guards let it in no further. -/
theorem blind_out (cc : Core) (A : Option Addr) (c n : Nat) (M : Option Addr) (cm k : Nat) (A' : Option Addr) (c' n' : Nat) (now p v : Int) (w : World) (hG : Glob w) (h : 200 < n ∨ 200 < k ∨ 20 < n' ∨ p < 0 ∨ (k : Int) ≤ p) :
    Calls Tryd.prog 7 #[.slice A n c, .agg #[.int .i64 cc.pc, .int .i64 (cc.r 0), .int .i64 (cc.r 1), .int .i64 (cc.r 2), .int .i64 (cc.r 3)], .slice M k cm, .slice A' n' c', .int .i64 now, .int .i64 p, .int .i64 v] w fun e w' => e = .returned (.bool true) ∧ Below w.heap.size w w' := by
  have hA : ∀ o, _ := fun o => awake_any (w.alloc o) (hG.alloc o)
  have HA := Lib.hid hA
  clear hA hG
  by_cases h1 : 200 < n
  · clear h
    have d2 : decide (200 < (n : Int)) = true := decide_eq_true (by omega)
    have d3 : decide (200 < n) = true := decide_eq_true (by omega)
    clear h1
    go_enter Tryd.func7, Tryd.ntmps7
    go_wp2_with fail
    refine (HA.out _).mono ?_
    rintro e w1 ⟨rfl, hb⟩
    have HB1 := Lib.hid (btrans (balloc (Below.refl _ _) _) hb)
    clear hb
    go_wp2_with fail
    go_ret
    exact ⟨rfl, HB1.out⟩
  · by_cases h2 : 200 < k
    · clear h
      have d2 : decide (200 < (n : Int)) = false := decide_eq_false (by omega)
      have d3 : decide (200 < n) = false := decide_eq_false (by omega)
      have e2 : decide (200 < (k : Int)) = true := decide_eq_true (by omega)
      have e3 : decide (200 < k) = true := decide_eq_true (by omega)
      clear h1 h2
      go_enter Tryd.func7, Tryd.ntmps7
      go_wp2_with fail
      refine (HA.out _).mono ?_
      rintro e w1 ⟨rfl, hb⟩
      have HB1 := Lib.hid (btrans (balloc (Below.refl _ _) _) hb)
      clear hb
      go_wp2_with fail
      go_ret
      exact ⟨rfl, HB1.out⟩
    · by_cases h3 : 20 < n'
      · clear h
        have d2 : decide (200 < (n : Int)) = false := decide_eq_false (by omega)
        have d3 : decide (200 < n) = false := decide_eq_false (by omega)
        have e2 : decide (200 < (k : Int)) = false := decide_eq_false (by omega)
        have e3 : decide (200 < k) = false := decide_eq_false (by omega)
        have g2 : decide (20 < (n' : Int)) = true := decide_eq_true (by omega)
        have g3 : decide (20 < n') = true := decide_eq_true (by omega)
        clear h1 h2 h3
        go_enter Tryd.func7, Tryd.ntmps7
        go_wp2_with fail
        refine (HA.out _).mono ?_
        rintro e w1 ⟨rfl, hb⟩
        have HB1 := Lib.hid (btrans (balloc (Below.refl _ _) _) hb)
        clear hb
        go_wp2_with fail
        go_ret
        exact ⟨rfl, HB1.out⟩
      · by_cases h4 : p < 0
        · clear h
          have d2 : decide (200 < (n : Int)) = false := decide_eq_false (by omega)
          have d3 : decide (200 < n) = false := decide_eq_false (by omega)
          have e2 : decide (200 < (k : Int)) = false := decide_eq_false (by omega)
          have e3 : decide (200 < k) = false := decide_eq_false (by omega)
          have g2 : decide (20 < (n' : Int)) = false := decide_eq_false (by omega)
          have g3 : decide (20 < n') = false := decide_eq_false (by omega)
          have a1 : decide (p < 0) = true := decide_eq_true (by omega)
          clear h1 h2 h3 h4
          go_enter Tryd.func7, Tryd.ntmps7
          go_wp2_with fail
          refine (HA.out _).mono ?_
          rintro e w1 ⟨rfl, hb⟩
          have HB1 := Lib.hid (btrans (balloc (Below.refl _ _) _) hb)
          clear hb
          go_wp2_with fail
          go_ret
          exact ⟨rfl, HB1.out⟩
        · have h5 : (k : Int) ≤ p := by omega
          · clear h
            have d2 : decide (200 < (n : Int)) = false := decide_eq_false (by omega)
            have d3 : decide (200 < n) = false := decide_eq_false (by omega)
            have e2 : decide (200 < (k : Int)) = false := decide_eq_false (by omega)
            have e3 : decide (200 < k) = false := decide_eq_false (by omega)
            have g2 : decide (20 < (n' : Int)) = false := decide_eq_false (by omega)
            have g3 : decide (20 < n') = false := decide_eq_false (by omega)
            have a1 : decide (p < 0) = false := decide_eq_false (by omega)
            have b1 : decide ((k : Int) ≤ p) = true := decide_eq_true (by omega)
            clear h1 h2 h3 h4 h5
            go_enter Tryd.func7, Tryd.ntmps7
            go_wp2_with fail
            refine (HA.out _).mono ?_
            rintro e w1 ⟨rfl, hb⟩
            have HB1 := Lib.hid (btrans (balloc (Below.refl _ _) _) hb)
            clear hb
            go_wp2_with fail
            go_ret
            exact ⟨rfl, HB1.out⟩
theorem blind_read (cc : Core) (A : Option Addr) (c n : Nat) (M : Option Addr) (cm : Nat) (m : List Int) (A' : Option Addr) (c' n' : Nat) (now : Int) (p : Nat) (v z : Int) (w : World) (hG : Glob w)
    (h1 : n ≤ 200) (h2 : m.length ≤ 200) (h3 : n' ≤ 20) (h4 : p < m.length)
    (hL : ∀ W, Below w.heap.size w W → Calls Tryd.prog 17 #[.slice M m.length cm, .slice A' n' c', .int .i64 p] W fun e w' => e = .returned (.tuple #[.int .i64 z, .int .i64 0]) ∧ Below W.heap.size W w') :
    Calls Tryd.prog 7 #[.slice A n c, .agg #[.int .i64 cc.pc, .int .i64 (cc.r 0), .int .i64 (cc.r 1), .int .i64 (cc.r 2), .int .i64 (cc.r 3)], .slice M m.length cm, .slice A' n' c', .int .i64 now, .int .i64 p, .int .i64 v] w fun e w' => e = .returned (.bool true) ∧ Below w.heap.size w w' := by
  have hA : ∀ o, _ := fun o => awake_any (w.alloc o) (hG.alloc o)
  have HA := Lib.hid hA
  have HL := Lib.hid hL
  have d2 : decide (200 < (n : Int)) = false := decide_eq_false (by omega)
  have d3 : decide (200 < n) = false := decide_eq_false (by omega)
  have e2 : decide (200 < (m.length : Int)) = false := decide_eq_false (by omega)
  have e3 : decide (200 < m.length) = false := decide_eq_false (by omega)
  have g2 : decide (20 < (n' : Int)) = false := decide_eq_false (by omega)
  have g3 : decide (20 < n') = false := decide_eq_false (by omega)
  have a1 : decide ((p : Int) < 0) = false := decide_eq_false (by omega)
  have b1 : decide ((m.length : Int) ≤ (p : Int)) = false := decide_eq_false (by omega)
  have b2 : decide (m.length ≤ p) = false := decide_eq_false (by omega)
  clear hA hG hL h1 h2 h3 h4
  go_enter Tryd.func7, Tryd.ntmps7
  go_wp2_with fail
  refine (HA.out _).mono ?_
  rintro e w1 ⟨rfl, hb⟩
  have HB1 := Lib.hid (btrans (balloc (Below.refl _ _) _) hb)
  clear hb
  go_wp2_with fail
  refine (HL.out _ HB1.out).mono ?_
  rintro e w2 ⟨rfl, hb⟩
  have HB2 := Lib.hid (btrans HB1.out hb)
  clear hb
  go_wp2_with fail
  go_ret
  exact ⟨rfl, HB2.out⟩
set_option maxHeartbeats 4000000 in
theorem blind_not (cc X : Core) (O : Outc) (A : Option Addr) (c n : Nat) (M : Option Addr) (cm : Nat) (m mx my : List Int) (A' : Option Addr) (c' n' : Nat) (now : Int) (p : Nat) (v z q : Int) (w : World) (hG : Glob w)
    (h1 : n ≤ 200) (h2 : m.length ≤ 200) (h3 : n' ≤ 20) (h4 : p < m.length) (hq : q ≠ 0) (hr : (Kd.int .i64).C w M m.length m)
    (hL : ∀ W, Below w.heap.size w W → Calls Tryd.prog 17 #[.slice M m.length cm, .slice A' n' c', .int .i64 p] W fun e w' => e = .returned (.tuple #[.int .i64 z, .int .i64 q]) ∧ Below W.heap.size W w')
    (hS : ∀ W, Below w.heap.size w W → Calls Tryd.prog 11 #[.slice A n c, .agg #[.int .i64 cc.pc, .int .i64 (cc.r 0), .int .i64 (cc.r 1), .int .i64 (cc.r 2), .int .i64 (cc.r 3)], .slice M m.length cm, .slice A' n' c', .int .i64 now] W fun e w' =>
      ∃ A1 k1, e = .returned (.tuple #[.agg #[.int .i64 X.pc, .int .i64 (X.r 0), .int .i64 (X.r 1), .int .i64 (X.r 2), .int .i64 (X.r 3)], .slice A1 m.length k1, .agg #[.int .i64 O.fl, .int .i64 O.ca, .bool O.ha, .bool O.re, .int .i64 O.va]]) ∧ (Kd.int .i64).C w' A1 m.length mx ∧ Below W.heap.size W w')
    (hS2 : ∀ W B k, Below w.heap.size w W → (Kd.int .i64).C W B m.length (m.set p v) → Calls Tryd.prog 11 #[.slice A n c, .agg #[.int .i64 cc.pc, .int .i64 (cc.r 0), .int .i64 (cc.r 1), .int .i64 (cc.r 2), .int .i64 (cc.r 3)], .slice B m.length k, .slice A' n' c', .int .i64 now] W fun e w' =>
      ∃ A1 k1, e = .returned (.tuple #[.agg #[.int .i64 X.pc, .int .i64 (X.r 0), .int .i64 (X.r 1), .int .i64 (X.r 2), .int .i64 (X.r 3)], .slice A1 m.length k1, .agg #[.int .i64 O.fl, .int .i64 O.ca, .bool O.ha, .bool O.re, .int .i64 O.va]]) ∧ (Kd.int .i64).C w' A1 m.length my ∧ Below W.heap.size W w')
    (hE : ∀ k : Nat, k ≠ p → rd my k = rd mx k) (hX : rd mx p = rd m p) (hY : rd my p = v) :
    Calls Tryd.prog 7 #[.slice A n c, .agg #[.int .i64 cc.pc, .int .i64 (cc.r 0), .int .i64 (cc.r 1), .int .i64 (cc.r 2), .int .i64 (cc.r 3)], .slice M m.length cm, .slice A' n' c', .int .i64 now, .int .i64 p, .int .i64 v] w fun e w' => e = .returned (.bool true) ∧ Below w.heap.size w w' := by
  have hA : ∀ o, _ := fun o => awake_any (w.alloc o) (hG.alloc o)
  have HA := Lib.hid hA
  have HL := Lib.hid hL
  have HR := Lib.hid hr
  have HS := Lib.hid hS
  have HS2 := Lib.hid hS2
  have HE := Lib.hid hE
  have HX := Lib.hid hX
  have HY := Lib.hid hY
  have HM := Lib.hid h2
  have HP := Lib.hid h4
  have d2 : decide (200 < (n : Int)) = false := decide_eq_false (by omega)
  have d3 : decide (200 < n) = false := decide_eq_false (by omega)
  have e2 : decide (200 < (m.length : Int)) = false := decide_eq_false (by omega)
  have e3 : decide (200 < m.length) = false := decide_eq_false (by omega)
  have g2 : decide (20 < (n' : Int)) = false := decide_eq_false (by omega)
  have g3 : decide (20 < n') = false := decide_eq_false (by omega)
  have a1 : decide ((p : Int) < 0) = false := decide_eq_false (by omega)
  have b1 : decide ((m.length : Int) ≤ (p : Int)) = false := decide_eq_false (by omega)
  have b2 : decide (m.length ≤ p) = false := decide_eq_false (by omega)
  have y1 : (q == 0) = false := by simp [hq]
  have y2 : (q != 0) = true := by simp [hq]
  have heq : ∀ W, _ := fun W => eq_regs 9997 (X.r 0) (X.r 1) (X.r 2) (X.r 3) W
  simp only [Nat.reduceAdd] at heq
  have hi3 : (Tryd.prog.info? 3).map (fun i => (i.zero, i.size, i.bytes)) = some (some (.int .i64 0), 1, 8) := rfl
  have HI3 := Lib.hid hi3
  clear hA hG hL hS hS2 h1 h2 h3 h4 hq hE hX hY hr hi3
  go_enter Tryd.func7, Tryd.ntmps7
  go_wp2_with fail
  refine (HA.out _).mono ?_
  rintro e w1 ⟨rfl, hb⟩
  have B0_ := Lib.hid (Below.refl w.heap.size w)
  have K1_c := Lib.hid (blk_below (blk_new w (.cells #[.int .i64 cc.pc, .int .i64 (cc.r 0), .int .i64 (cc.r 1), .int .i64 (cc.r 2), .int .i64 (cc.r 3)] 29)) hb)
  have B1_ := Lib.hid (btrans (balloc B0_.out (.cells #[.int .i64 cc.pc, .int .i64 (cc.r 0), .int .i64 (cc.r 1), .int .i64 (cc.r 2), .int .i64 (cc.r 3)] 29)) hb)
  have l1_c := blk_lt K1_c.out
  have q1_c_1 : w.heap.size ≤ w1.heap.size := by omega
  have q1_c_2 : w.heap.size ≤ w1.heap.size + 1 := by omega
  have q1_c_3 : w.heap.size < w1.heap.size + 1 := by omega
  clear hb
  go_wp2_with fail
  refine (HL.out _ B1_.out).mono ?_
  rintro e w2 ⟨rfl, hb⟩
  have K2_c := Lib.hid (blk_below K1_c.out hb)
  have B2_ := Lib.hid (btrans B1_.out hb)
  have l2_c := blk_lt K2_c.out
  have q2_c_1 : w.heap.size ≤ w2.heap.size := by omega
  have q2_c_2 : w.heap.size ≤ w2.heap.size + 1 := by omega
  have q2_c_3 : w.heap.size < w2.heap.size + 1 := by omega
  clear hb l1_c q1_c_1 q1_c_2 q1_c_3
  go_wp2_with ((with_reducible refine gate_builtin (b := .append) (xs := #[.const (.slice none 0 0), .tmp 64]) rfl ?_); at_builtin; refine Kd.R_append_rows (Kd.int .i64) (w0 := w2) w2.heap.size rfl (.const (.slice none 0 0)) (.tmp 64) 22 3 (.int .i64 0) 8 rfl Tryd.underlying22 HI3.out rfl (by decide) (by omega) (.slice none 0 0) [] m _ _ _ (fun _ => True) (fun _ => False) rfl rfl (Kd.R_nil _ _ _ _ _) (Kd.C_below HR.out B2_.out) (fun _ _ h => h) (fun _ h => h.elim) (fun _ _ => trivial) (Below.refl _ _) (Nat.le_refl _) (by have := HM.out; simp only [List.length_nil]; omega) ?_; intro vn w3 ho hb hg hat; rw [List.nil_append] at ho; have hp0 := HP.out; obtain ⟨g, cap, rfl⟩ := Kd.R_slice1 ho (by omega); obtain ⟨b, rfl⟩ := Kd.R_head ho; obtain ⟨hcl, hz⟩ := Kd.R_cell (enc := Value.int .i64) (h1 := fun _ => rfl) 0 ho (p : Int) (by omega) (by omega); obtain ⟨hp2, hg2⟩ := Kd.R_put (enc := Value.int .i64) (h1 := fun _ => rfl) ho (p : Int) v; have hbg := Kd.R_base ho b (by simp [Value.ownBlock]); simp only [Int.toNat_natCast] at hcl hz hp2; have HP2 := Lib.hid hp2; have hb4 := Lib.hid (hb.setCell (show w2.heap.size ≤ (⟨b, p, none⟩ : Addr).block from hbg) (.int .i64 v)); have hk3 := blk_below K2_c.out hb; obtain ⟨i0, i1, i2, i3, i4⟩ := cells5 hk3; have HK3 := Lib.hid hk3; have ne1 : ¬ b = w.heap.size := (by omega); have ne2 : ¬ w.heap.size = b := (by omega); have lt3 := blk_lt hk3; clear hk3 ho hp2 hg2 hbg hb hg hat hp0)
  have HN : Hid ((Kd.int .i64).C (w3.setCell ⟨b, p, none⟩ (.int .i64 v)) (some ⟨b, 0, none⟩) m.length (m.set p v)) := Lib.hid (by have h := (Kd.R_reads' HP2.out).2.2; rw [List.length_set] at h; exact h)
  have K3_c := Lib.hid (blk_below K2_c.out hb4.out)
  have B3_ := Lib.hid (btrans B2_.out hb4.out)
  have l3_c := blk_lt K3_c.out
  have q3_c_1 : w.heap.size ≤ (w3.setCell ⟨b, p, none⟩ (.int .i64 v)).heap.size := by omega
  have q3_c_2 : w.heap.size ≤ (w3.setCell ⟨b, p, none⟩ (.int .i64 v)).heap.size + 1 := by omega
  have q3_c_3 : w.heap.size < (w3.setCell ⟨b, p, none⟩ (.int .i64 v)).heap.size + 1 := by omega
  clear hb4 HP2 hcl hz i0 i1 i2 i3 i4 HK3 ne1 ne2 lt3
  generalize (w3.setCell ⟨b, p, none⟩ (.int .i64 v)) = w4 at *
  refine (HS.out _ B3_.out).mono ?_
  rintro e w5 ⟨A1, k1, rfl, hv, hb⟩
  have HN5 := Lib.hid (Kd.C_below HN.out hb)
  have K4_c := Lib.hid (blk_below K3_c.out hb)
  have B4_ := Lib.hid (btrans B3_.out hb)
  have l4_c := blk_lt K4_c.out
  have q4_c_1 : w.heap.size ≤ w5.heap.size := by omega
  have q4_c_2 : w.heap.size ≤ w5.heap.size + 1 := by omega
  have q4_c_3 : w.heap.size < w5.heap.size + 1 := by omega
  have c4_c_0 : w5.cell? ⟨w.heap.size, 0, none⟩ = some (.int .i64 cc.pc) := (blk_cell K4_c.out 0).trans rfl
  have c4_c_1 : w5.cell? ⟨w.heap.size, 1, none⟩ = some (.int .i64 (cc.r 0)) := (blk_cell K4_c.out 1).trans rfl
  have c4_c_2 : w5.cell? ⟨w.heap.size, 2, none⟩ = some (.int .i64 (cc.r 1)) := (blk_cell K4_c.out 2).trans rfl
  have c4_c_3 : w5.cell? ⟨w.heap.size, 3, none⟩ = some (.int .i64 (cc.r 2)) := (blk_cell K4_c.out 3).trans rfl
  have c4_c_4 : w5.cell? ⟨w.heap.size, 4, none⟩ = some (.int .i64 (cc.r 3)) := (blk_cell K4_c.out 4).trans rfl
  have HV1 := Lib.hid hv
  clear hv hb HN l3_c q3_c_1 q3_c_2 q3_c_3
  go_wp2_with fail
  refine (HS2.out _ _ _ (balloc (balloc B4_.out (.cells #[.int .i64 X.pc, .int .i64 (X.r 0), .int .i64 (X.r 1), .int .i64 (X.r 2), .int .i64 (X.r 3)] 29)) (.cells #[.int .i64 O.fl, .int .i64 O.ca, .bool O.ha, .bool O.re, .int .i64 O.va] 34)) (Kd.C_below HN5.out (balloc (balloc (Below.refl w5.heap.size w5) (.cells #[.int .i64 X.pc, .int .i64 (X.r 0), .int .i64 (X.r 1), .int .i64 (X.r 2), .int .i64 (X.r 3)] 29)) (.cells #[.int .i64 O.fl, .int .i64 O.ca, .bool O.ha, .bool O.re, .int .i64 O.va] 34)))).mono ?_
  rintro e w6 ⟨A2, k2, rfl, hv, hb⟩
  have HV1' := Lib.hid (Kd.C_below (Kd.C_below HV1.out (balloc (balloc (Below.refl w5.heap.size w5) (.cells #[.int .i64 X.pc, .int .i64 (X.r 0), .int .i64 (X.r 1), .int .i64 (X.r 2), .int .i64 (X.r 3)] 29)) (.cells #[.int .i64 O.fl, .int .i64 O.ca, .bool O.ha, .bool O.re, .int .i64 O.va] 34))) hb)
  have K5_a := Lib.hid (blk_below (two_new1 w5 (.cells #[.int .i64 X.pc, .int .i64 (X.r 0), .int .i64 (X.r 1), .int .i64 (X.r 2), .int .i64 (X.r 3)] 29) (.cells #[.int .i64 O.fl, .int .i64 O.ca, .bool O.ha, .bool O.re, .int .i64 O.va] 34)) hb)
  have K5_o := Lib.hid (blk_below (two_new2 w5 (.cells #[.int .i64 X.pc, .int .i64 (X.r 0), .int .i64 (X.r 1), .int .i64 (X.r 2), .int .i64 (X.r 3)] 29) (.cells #[.int .i64 O.fl, .int .i64 O.ca, .bool O.ha, .bool O.re, .int .i64 O.va] 34)) hb)
  have B5_ := Lib.hid (btrans (balloc (balloc B4_.out (.cells #[.int .i64 X.pc, .int .i64 (X.r 0), .int .i64 (X.r 1), .int .i64 (X.r 2), .int .i64 (X.r 3)] 29)) (.cells #[.int .i64 O.fl, .int .i64 O.ca, .bool O.ha, .bool O.re, .int .i64 O.va] 34)) hb)
  have l5_a := blk_lt K5_a.out
  have q5_a_1 : w5.heap.size ≤ w6.heap.size := by omega
  have q5_a_2 : w5.heap.size ≤ w6.heap.size + 1 := by omega
  have q5_a_3 : w5.heap.size < w6.heap.size + 1 := by omega
  have c5_a_0 : w6.cell? ⟨w5.heap.size, 0, none⟩ = some (.int .i64 X.pc) := (blk_cell K5_a.out 0).trans rfl
  have c5_a_1 : w6.cell? ⟨w5.heap.size, 1, none⟩ = some (.int .i64 (X.r 0)) := (blk_cell K5_a.out 1).trans rfl
  have c5_a_2 : w6.cell? ⟨w5.heap.size, 2, none⟩ = some (.int .i64 (X.r 1)) := (blk_cell K5_a.out 2).trans rfl
  have c5_a_3 : w6.cell? ⟨w5.heap.size, 3, none⟩ = some (.int .i64 (X.r 2)) := (blk_cell K5_a.out 3).trans rfl
  have c5_a_4 : w6.cell? ⟨w5.heap.size, 4, none⟩ = some (.int .i64 (X.r 3)) := (blk_cell K5_a.out 4).trans rfl
  have l5_o := blk_lt K5_o.out
  have q5_o_5 : w5.heap.size + 1 ≤ w6.heap.size := by omega
  have q5_o_6 : w5.heap.size + 1 ≤ w6.heap.size + 1 := by omega
  have q5_o_7 : w5.heap.size + 1 < w6.heap.size + 1 := by omega
  have q5_o_8 : w5.heap.size < w6.heap.size := by omega
  have q5_o_9 : w5.heap.size ≤ w6.heap.size := by omega
  have q5_o_10 : w5.heap.size ≤ w6.heap.size + 1 := by omega
  have q5_o_11 : w5.heap.size < w6.heap.size + 1 := by omega
  have c5_o_0 : w6.cell? ⟨w5.heap.size + 1, 0, none⟩ = some (.int .i64 O.fl) := (blk_cell K5_o.out 0).trans rfl
  have c5_o_1 : w6.cell? ⟨w5.heap.size + 1, 1, none⟩ = some (.int .i64 O.ca) := (blk_cell K5_o.out 1).trans rfl
  have c5_o_2 : w6.cell? ⟨w5.heap.size + 1, 2, none⟩ = some (.bool O.ha) := (blk_cell K5_o.out 2).trans rfl
  have c5_o_3 : w6.cell? ⟨w5.heap.size + 1, 3, none⟩ = some (.bool O.re) := (blk_cell K5_o.out 3).trans rfl
  have c5_o_4 : w6.cell? ⟨w5.heap.size + 1, 4, none⟩ = some (.int .i64 O.va) := (blk_cell K5_o.out 4).trans rfl
  have HV2 := Lib.hid hv
  clear hv hb HN5 HV1 l4_c q4_c_1 q4_c_2 q4_c_3 c4_c_0 c4_c_1 c4_c_2 c4_c_3 c4_c_4
  go_wp2_with fail
  have HW1 := Lib.hid (Kd.C_below HV1'.out (balloc (balloc (Below.refl w6.heap.size w6) (.cells #[.int .i64 X.pc, .int .i64 (X.r 0), .int .i64 (X.r 1), .int .i64 (X.r 2), .int .i64 (X.r 3)] 29)) (.cells #[.int .i64 O.fl, .int .i64 O.ca, .bool O.ha, .bool O.re, .int .i64 O.va] 34)))
  have HW2 := Lib.hid (Kd.C_below HV2.out (balloc (balloc (Below.refl w6.heap.size w6) (.cells #[.int .i64 X.pc, .int .i64 (X.r 0), .int .i64 (X.r 1), .int .i64 (X.r 2), .int .i64 (X.r 3)] 29)) (.cells #[.int .i64 O.fl, .int .i64 O.ca, .bool O.ha, .bool O.re, .int .i64 O.va] 34)))
  have HB0 := Lib.hid (balloc (balloc B5_.out (.cells #[.int .i64 X.pc, .int .i64 (X.r 0), .int .i64 (X.r 1), .int .i64 (X.r 2), .int .i64 (X.r 3)] 29)) (.cells #[.int .i64 O.fl, .int .i64 O.ca, .bool O.ha, .bool O.re, .int .i64 O.va] 34))
  go_loopw [25] (fun k_ wr_ => ∃ k : Nat, k ≤ m.length ∧ k_ = .int .i64 k ∧ Hid (Below w.heap.size w wr_) ∧ Hid ((Kd.int .i64).C wr_ A1 m.length mx) ∧ Hid ((Kd.int .i64).C wr_ A2 m.length my)) (fun k_ _ => m.length - (intOf k_).toNat)
  case atStart => exact ⟨0, Nat.zero_le _, rfl, HB0, HW1, HW2⟩
  case round =>
    obtain ⟨k, hk, rfl, hB, hV1, hV2⟩ := hrel
    have hp0 := HP.out
    have hk200 : k ≤ 200 := by have := HM.out; omega
    by_cases hlt : k < m.length
    · obtain ⟨ad1, rfl, u1⟩ := Kd.at_int hV1.out (k : Int) (by omega) (by omega)
      obtain ⟨ad2, rfl, u2⟩ := Kd.at_int hV2.out (k : Int) (by omega) (by omega)
      simp only [Int.toNat_natCast] at u1 u2
      have p1 := World.block_lt_of_cell? wr _ u1
      have p2 := World.block_lt_of_cell? wr _ u2
      by_cases hd : k = p
      · have n1 : ((k : Int) == (p : Int)) = true := by simp [hd]
        have n2 : ((k : Int) != (p : Int)) = false := by simp [hd]
        have n3 : (k == p) = true := by simp [hd]
        have n4 : (k != p) = false := by simp [hd]
        have n5 : decide ((k : Int) = (p : Int)) = true := by simp [hd]
        have n6 : decide (k = p) = true := by simp [hd]
        clear hd
        generalize rd mx k = z1 at *
        generalize rd my k = z2 at *
        go_wp2_with fail
        go_quiet (fail)
        go_wp2_with fail
        go_roundw
        case rel => exact ⟨k + 1, by omega, by simp, Lib.hid (bdrewN hB.out _), Lib.hid (Kd.C_below hV1.out (bdrewN (Below.refl _ _) _)), Lib.hid (Kd.C_below hV2.out (bdrewN (Below.refl _ _) _))⟩
        case measure => simp [intOf]; omega
      · have hd' : ¬ (k : Int) = p := by omega
        have n1 : ((k : Int) == (p : Int)) = false := by simp [hd, hd']
        have n2 : ((k : Int) != (p : Int)) = true := by simp [hd, hd']
        have n3 : (k == p) = false := by simp [hd, hd']
        have n4 : (k != p) = true := by simp [hd, hd']
        have n5 : decide ((k : Int) = (p : Int)) = false := by simp [hd, hd']
        have n6 : decide (k = p) = false := by simp [hd, hd']
        have he := HE.out k hd
        rw [he] at u2
        clear hd hd' he
        generalize rd mx k = z1 at *
        go_wp2_with fail
        go_quiet (fail)
        go_wp2_with fail
        go_roundw
        case rel => exact ⟨k + 1, by omega, by simp, Lib.hid (bdrewN hB.out _), Lib.hid (Kd.C_below hV1.out (bdrewN (Below.refl _ _) _)), Lib.hid (Kd.C_below hV2.out (bdrewN (Below.refl _ _) _))⟩
        case measure => simp [intOf]; omega
    · have hke : k = m.length := by omega
      subst hke
      obtain ⟨ad1, rfl, u1⟩ := Kd.at_int hV1.out (p : Int) (by omega) (by omega)
      obtain ⟨ad2, rfl, u2⟩ := Kd.at_int hV2.out (p : Int) (by omega) (by omega)
      obtain ⟨ad, rfl, u3⟩ := Kd.at_int (Kd.C_below HR.out hB.out) (p : Int) (by omega) (by omega)
      simp only [Int.toNat_natCast] at u1 u2 u3
      rw [HX.out] at u1
      rw [HY.out] at u2
      have p1 := World.block_lt_of_cell? wr _ u1
      have p2 := World.block_lt_of_cell? wr _ u2
      have p3 := World.block_lt_of_cell? wr _ u3
      generalize rd m p = z1 at *
      clear hlt
      go_wp2_with fail
      go_quiet (fail)
      go_wp2_with fail
      go_ret
      exact ⟨rfl, bdrewN hB.out _⟩
theorem blind_any (cc : Core) (A : Option Addr) (c : Nat) (code : List (Int × Int × Int)) (M : Option Addr) (cm : Nat) (m : List Int) (A' : Option Addr) (c' : Nat) (l : List PureC.S) (now p v : Int) (w : World)
    (hc : CodeAt w A code) (hG : Glob w) (hr : (Kd.int .i64).C w M m.length m) (hl : Kd.C Pr.k25 w A' l.length l) :
    Calls Tryd.prog 7 #[.slice A code.length c, coreV cc, .slice M m.length cm, .slice A' l.length c', .int .i64 now, .int .i64 p, .int .i64 v] w fun e w' => e = .returned (.bool true) ∧ Below w.heap.size w w' := by
  by_cases h : 200 < code.length ∨ 200 < m.length ∨ 20 < l.length ∨ p < 0 ∨ (m.length : Int) ≤ p
  · exact blind_out cc A c code.length M cm m.length A' c' l.length now p v w hG h
  · have h1 : code.length ≤ 200 := by omega
    have h2 : m.length ≤ 200 := by omega
    have h3 : l.length ≤ 20 := by omega
    obtain ⟨p, rfl⟩ : ∃ q : Nat, p = q := ⟨p.toNat, by omega⟩
    have h4 : p < m.length := by omega
    have hL : ∀ W, Below w.heap.size w W → Calls Tryd.prog 17 #[.slice M m.length cm, .slice A' l.length c', .int .i64 p] W fun e w' => e = .returned (.tuple #[.int .i64 (loadV m (l.map rg_) p), .int .i64 (wrongN m.length (l.map rg_) p false)]) ∧ Below W.heap.size W w' := fun W hb => by
      have := load_any M cm m A' c' (l.map rg_) (p : Int) W (Kd.C_below hr hb) ((regs_at hl).below hb)
      rwa [List.length_map] at this
    have hS : ∀ (m1 : List Int) W M cm, m1.length = m.length → Below w.heap.size w W → (Kd.int .i64).C W M m.length m1 → Calls Tryd.prog 11 #[.slice A code.length c, coreV cc, .slice M m.length cm, .slice A' l.length c', .int .i64 now] W fun e w' =>
        ∃ A1 k1, e = .returned (.tuple #[coreV (stepC code cc m1 (l.map rg_) now), .slice A1 m.length k1, outV (stepO code cc m1 (l.map rg_) now)]) ∧ (Kd.int .i64).C w' A1 m.length (stepM code cc m1 (l.map rg_) now) ∧ Below W.heap.size W w' := fun m1 W M cm hm hb hr => by
      have := step_any cc A c code W (hc.below hb) (hG.below hb) M cm m1 A' c' (l.map rg_) now (by rw [hm]; exact hr) (by omega) ((regs_at hl).below hb)
      rw [List.length_map, hm] at this
      refine this.mono ?_
      rintro e w' ⟨v, rfl, hv, hb2⟩
      obtain ⟨A1, k1, rfl, _, hC⟩ := Kd.R_reads hv
      rw [stepM_len, hm] at hC
      exact ⟨A1, k1, by rw [stepM_len, hm], hC, hb2⟩
    by_cases hw : wrongN m.length (l.map rg_) p false = 0
    · rw [hw] at hL
      exact blind_read cc A c code.length M cm m A' c' l.length now p v _ w hG h1 h2 h3 h4 hL
    · obtain ⟨f1, f2, f3, f4, f5⟩ := blind_facts code cc m (l.map rg_) now p v h4 hw
      have hS2 := hS (m.set p v)
      rw [f1, f2] at hS2
      exact blind_not cc _ _ A c code.length M cm m _ _ A' c' l.length now p v _ _ w hG h1 h2 h3 h4 hw hr hL (fun W hb => hS m W M cm rfl hb (Kd.C_below hr hb)) (fun W B k hb hC => hS2 W B k (List.length_set ..) hb hC) f3 f4 f5
end Go.Proofs.YtlphgnfjemaliaaDoor.CpuV

/-
  What instr.Get returns, for whatever word.Get answers. Conditions: the tables hold what the program's text lays; word.Get's contract is handed in.
-/
import Derived.Test.YtiacjnmkomfdaaaDoorInstr
import Derived.Test.YtiacjnmkomfdaaaDoorWWords
namespace Go.Proofs.YtiacjnmkomfdaaaDoor.InstrGet
open Go.RowKit Go.Proofs.YtiacjnmkomfdaaaDoorW.PrintWords Go.Proofs.YtiacjnmkomfdaaaDoor.Instr

set_option linter.unusedSimpArgs false
set_option linter.unusedVariables false
/-- The third number read as a place of either sign. -/
def unzig (n : Int) : Int := Go.bits .xor .i64 (n / 2) (wrap64 (-(Go.bits .and .i64 n 1)))
/-- instr.Get's last part. -/
def finF (xs : List Int) (at_ : Int) : Option (Int × Int × Int × Int × Int) :=
  if mayB (xs.getD 0 0) (xs.getD 1 0) (unzig (xs.getD 2 0)) = true then some (xs.getD 0 0, xs.getD 1 0, unzig (xs.getD 2 0), at_, 0) else some (0, 0, 0, 0, 2)
/-- instr.Get with so many numbers to go. -/
def getF (G : List Int → Option (Int × Int × Int)) (l : List Int) : Nat → List Int → Int → Option (Int × Int × Int × Int × Int)
  | 0, xs, at_ => finF xs at_
  | d + 1, xs, at_ => if 0 ≤ at_ ∧ at_ ≤ l.length then (G (l.drop at_.toNat)).bind fun g => if g.2.2 = 0 then getF G l d (xs ++ [g.1]) (wrap64 (at_ + g.2.1)) else some (0, 0, 0, 0, g.2.2) else none

theorem getF_mono {G G' : List Int → Option (Int × Int × Int)} (h : ∀ l r, G l = some r → G' l = some r) (l : List Int) : ∀ (d : Nat) (xs : List Int) (a : Int) r, getF G l d xs a = some r → getF G' l d xs a = some r := by
  intro d
  induction d with
  | zero => exact fun _ _ _ h => h
  | succ d ih =>
    intro xs a r hr
    unfold getF at hr ⊢
    by_cases ha : 0 ≤ a ∧ a ≤ l.length
    · rw [if_pos ha] at hr ⊢
      obtain ⟨g, hg, hr⟩ := Option.bind_eq_some_iff.mp hr
      refine Option.bind_eq_some_iff.mpr ⟨g, h _ _ hg, ?_⟩
      by_cases he : g.2.2 = 0
      · rw [if_pos he] at hr ⊢; exact ih _ _ _ hr
      · rw [if_neg he] at hr ⊢; exact hr
    · rw [if_neg ha] at hr; exact absurd hr (by simp)

def resV (r : Int × Int × Int × Int × Int) : Value := .tuple #[.agg #[.int .i64 r.1, .int .i64 r.2.1, .int .i64 r.2.2.1], .int .i64 r.2.2.2.1, .int .i64 r.2.2.2.2]
theorem bset {w w1 : World} (h : Below w.heap.size w w1) {p : Addr} (hp : w.heap.size ≤ p.block) (u : Value) : Below w.heap.size w (w1.setCell p u) := h.setCell hp u
theorem bdrewN {w W : World} (h : Below w.heap.size w W) (n : Nat) : Below w.heap.size w (W.drewN n) := ⟨h.os, h.tape, h.output, h.size, h.block⟩
theorem btrans {w w1 w2 : World} (h : Below w.heap.size w w1) (k : Below w1.heap.size w1 w2) : Below w.heap.size w w2 :=
  h.trans ⟨k.os, k.tape, k.output, k.size, fun i hi => k.block i (Nat.lt_of_lt_of_le hi h.size)⟩

theorem results_cell2 {P : Program} {fn : Func} {p u v : Tmp} {ty : TypeId} (h : fn.results = #[.cell p ty, .tmp u, .tmp v]) (tmps : Array Value) (w : World) (g : Nat) (t : TypeId) (cs : Array Value) (fr : Nat × Nat) (d : TypeDesc)
    (hp : tmps.getD p undef = .pointer (some ⟨g, 0, none⟩)) (hg : w.heap[g]? = some (.cells cs t fr))
    (hu : P.underlying ty = some d) (hd : (match d with | .struct _ | .array _ _ => true | _ => false) = true) (hi : (P.info? ty).map (·.size) = some cs.size) :
    (results fn tmps).run P w = .ok (.tuple #[.agg cs, tmps.getD u undef, tmps.getD v undef]) w := by
  have hp' : tmps[p]?.getD undef = .pointer (some ⟨g, 0, none⟩) := by simpa using hp
  simp [results, h, hp', asAddr, run_loadVar_row w g t ty cs fr d hg hu hd hi]

set_option maxHeartbeats 1000000 in
theorem get_any (G : List Int → Option (Int × Int × Int))
    (HW : ∀ (A : Option Addr) (c : Nat) (l : List Int) (r : Int × Int × Int) (w : World), Kd.C (Kd.int .u8) w A l.length l → l.length ≤ c → G l = some r →
      Calls Tryd.prog 25 #[.slice A l.length c] w fun e w' => e = .returned (.tuple #[.int .i64 r.1, .int .i64 r.2.1, .int .i64 r.2.2]) ∧ ∃ n, w' = w.drewN n)
    (A : Option Addr) (c : Nat) (l : List Int) (r : Int × Int × Int × Int × Int) (w : World) (hG : Glob w) (hr : Kd.C (Kd.int .u8) w A l.length l) (hc : l.length ≤ c) (h : getF G l 3 [] 0 = some r) :
    Calls Tryd.prog 16 #[.slice A l.length c] w fun e w' => e = .returned (resV r) ∧ Below w.heap.size w w' := by
  have HG := Lib.hid hG
  have HR := Lib.hid hr
  have HC := Lib.hid hc
  have HF := Lib.hid h
  have HWH := Lib.hid HW
  clear hG hr hc h HW
  go_enter Tryd.func16, Tryd.ntmps16
  go_wp2_with fail
  have hsz1 : ∀ o, (w.alloc o).heap.size = w.heap.size + 1 := fun o => Array.size_push _
  go_loopw [6, 12] (fun at_ i wr_ => ∃ (k : Nat) (a : Int) (xs : List Int), k ≤ 3 ∧ i = .int .i64 k ∧ at_ = .int .i64 a ∧ xs.length = k ∧ Hid (getF G l (3 - k) xs a = some r) ∧ Hid (Below w.heap.size w wr_) ∧
    Hid (wr_.heap[w.heap.size + 1]? = some (.cells #[.int .i64 (xs.getD 0 0), .int .i64 (xs.getD 1 0), .int .i64 (xs.getD 2 0)] 47 (0, 0))) ∧
    Hid (wr_.heap[w.heap.size]? = some (.cells #[.int .i64 0, .int .i64 0, .int .i64 0] 23 (0, 0)))) (fun _ i _ => 3 - (intOf i).toNat)
  case atStart =>
    refine ⟨0, 0, [], by omega, rfl, rfl, rfl, HF, Lib.hid (((Below.refl _ _).alloc (Nat.le_refl _) _).alloc (by rw [hsz1]; omega) _), Lib.hid ?_, Lib.hid (blk_alloc (blk_new w _) _)⟩
    rw [← hsz1 (.cells #[.int .i64 0, .int .i64 0, .int .i64 0] 23)]
    exact blk_new _ _
  case round =>
    obtain ⟨k, a, xs, hk, rfl, rfl, hxl, hF, hB, hb5, hb2⟩ := hrel
    have hslt := blk_lt hb5.out
    have c0 : wr.cell? ⟨w.heap.size + 1, 0, none⟩ = some (.int .i64 (xs.getD 0 0)) := (blk_cell hb5.out 0).trans rfl
    have c1 : wr.cell? ⟨w.heap.size + 1, 1, none⟩ = some (.int .i64 (xs.getD 1 0)) := (blk_cell hb5.out 1).trans rfl
    have c2 : wr.cell? ⟨w.heap.size + 1, 2, none⟩ = some (.int .i64 (xs.getD 2 0)) := (blk_cell hb5.out 2).trans rfl
    have z0 := blk_frozen hb5.out 0
    have z1 := blk_frozen hb5.out 1
    have z2 := blk_frozen hb5.out 2
    have d0 : wr.cell? ⟨w.heap.size, 0, none⟩ = some (.int .i64 0) := (blk_cell hb2.out 0).trans rfl
    have d1 : wr.cell? ⟨w.heap.size, 1, none⟩ = some (.int .i64 0) := (blk_cell hb2.out 1).trans rfl
    have d2 : wr.cell? ⟨w.heap.size, 2, none⟩ = some (.int .i64 0) := (blk_cell hb2.out 2).trans rfl
    have y0 := blk_frozen hb2.out 0
    have y1 := blk_frozen hb2.out 1
    have y2 := blk_frozen hb2.out 2
    by_cases hlt : k < 3
    · have hF' := hF.out
      rw [show 3 - k = (2 - k) + 1 by omega] at hF'
      unfold getF at hF'
      have ha : 0 ≤ a ∧ a ≤ l.length := by
        rcases Classical.em (0 ≤ a ∧ a ≤ (l.length : Int)) with h | h
        · exact h
        · rw [if_neg h] at hF'; exact absurd hF' (by simp)
      rw [if_pos ha] at hF'
      obtain ⟨g, hg, hF'⟩ := Option.bind_eq_some_iff.mp hF'
      have hF2 := Lib.hid hF'
      have hinfo : (Tryd.prog.info? 5).map (fun i => (i.zero, i.size, i.bytes)) = some (some (.int .u8 0), 1, 1) := by kernel_rfl
      obtain ⟨i0, hi0, _, hsz, _⟩ := info_parts hinfo
      obtain ⟨A', hcut, hA', hC'⟩ := print_drop_of (P := Tryd.prog) (Value.int .u8) 0 27 5 .i64 Tryd.underlying27 hi0 hsz A c l a ha.1 ha.2 HC.out
      have hRd : Kd.C (Kd.int .u8) w A' (l.drop a.toNat).length (l.drop a.toNat) := Kd.C_of_reads (h1 := fun _ => rfl) (hA' _ (Kd.reads_of_C HR.out))
      have hCall : ∀ W, Below w.heap.size w W → Calls Tryd.prog 25 #[.slice A' (l.length - a.toNat) (c - a.toNat)] W fun e w' => e = .returned (.tuple #[.int .i64 g.1, .int .i64 g.2.1, .int .i64 g.2.2]) ∧ ∃ n, w' = W.drewN n := fun W hb => by
        have h := HWH.out A' _ _ g W (Kd.C_below hRd hb) hC' hg
        rw [List.length_drop] at h
        exact h
      have HCall := Lib.hid hCall
      obtain ⟨x, sz, e⟩ := g
      simp only at hF2 HCall
      clear hF' hg hA' hC' hRd hCall hi0 hsz hinfo ha hF
      have hk3 : k = 0 ∨ k = 1 ∨ k = 2 := by omega
      rcases hk3 with rfl | rfl | rfl
      · obtain rfl : xs = [] := List.eq_nil_of_length_eq_zero hxl
        simp only [List.getD_cons_zero, List.getD_cons_succ, List.getD_nil] at c0 c1 c2 hb5
        go_wp2_with fail
        refine (HCall.out _ hB.out).mono ?_
        rintro _ w2 ⟨rfl, ⟨n, rfl⟩⟩
        by_cases he : e = 0
        · subst he
          rw [if_pos rfl] at hF2
          go_wp2_with fail
          exact ⟨⟨1, wrap64 (a + sz), [x], by omega, rfl, rfl, rfl, Lib.hid hF2.out, Lib.hid (bset (bdrewN hB.out n) (Nat.le_succ _) _), Lib.hid (blk_put (blk_drewN hb5.out n) 0 (.int .i64 x) rfl), Lib.hid (blk_far (blk_drewN hb2.out n) (Nat.ne_of_lt (Nat.lt_succ_self _)) _)⟩, by simp [intOf]⟩
        · rw [if_neg he] at hF2
          obtain rfl := Option.some.inj hF2.out
          go_wp2_with fail
          (try simp only [Exit.inBlock, Exit.then])
          refine bodyPost_ret (results_cell2 rfl _ _ w.heap.size _ _ _ _ rfl (blk_put (blk_put (blk_put (blk_drewN hb2.out n) 0 (.int .i64 0) rfl) 1 (.int .i64 0) rfl) 2 (.int .i64 0) rfl) Tryd.underlying23 rfl (by kernel_rfl)) rfl ?_
          exact ⟨rfl, bset (bset (bset (bdrewN hB.out n) (Nat.le_refl _) _) (Nat.le_refl _) _) (Nat.le_refl _) _⟩
      · obtain ⟨x0, rfl⟩ : ∃ x0, xs = [x0] := List.length_eq_one_iff.mp hxl
        simp only [List.getD_cons_zero, List.getD_cons_succ, List.getD_nil] at c0 c1 c2 hb5
        go_wp2_with fail
        refine (HCall.out _ hB.out).mono ?_
        rintro _ w2 ⟨rfl, ⟨n, rfl⟩⟩
        by_cases he : e = 0
        · subst he
          rw [if_pos rfl] at hF2
          go_wp2_with fail
          exact ⟨⟨2, wrap64 (a + sz), [x0, x], by omega, rfl, rfl, rfl, Lib.hid hF2.out, Lib.hid (bset (bdrewN hB.out n) (Nat.le_succ _) _), Lib.hid (blk_put (blk_drewN hb5.out n) 1 (.int .i64 x) rfl), Lib.hid (blk_far (blk_drewN hb2.out n) (Nat.ne_of_lt (Nat.lt_succ_self _)) _)⟩, by simp [intOf]⟩
        · rw [if_neg he] at hF2
          obtain rfl := Option.some.inj hF2.out
          go_wp2_with fail
          (try simp only [Exit.inBlock, Exit.then])
          refine bodyPost_ret (results_cell2 rfl _ _ w.heap.size _ _ _ _ rfl (blk_put (blk_put (blk_put (blk_drewN hb2.out n) 0 (.int .i64 0) rfl) 1 (.int .i64 0) rfl) 2 (.int .i64 0) rfl) Tryd.underlying23 rfl (by kernel_rfl)) rfl ?_
          exact ⟨rfl, bset (bset (bset (bdrewN hB.out n) (Nat.le_refl _) _) (Nat.le_refl _) _) (Nat.le_refl _) _⟩
      · obtain ⟨x0, x1, rfl⟩ : ∃ x0 x1, xs = [x0, x1] := by
          match xs, hxl with
          | [x0, x1], _ => exact ⟨x0, x1, rfl⟩
        simp only [List.getD_cons_zero, List.getD_cons_succ, List.getD_nil] at c0 c1 c2 hb5
        go_wp2_with fail
        refine (HCall.out _ hB.out).mono ?_
        rintro _ w2 ⟨rfl, ⟨n, rfl⟩⟩
        by_cases he : e = 0
        · subst he
          rw [if_pos rfl] at hF2
          go_wp2_with fail
          exact ⟨⟨3, wrap64 (a + sz), [x0, x1, x], by omega, rfl, rfl, rfl, Lib.hid hF2.out, Lib.hid (bset (bdrewN hB.out n) (Nat.le_succ _) _), Lib.hid (blk_put (blk_drewN hb5.out n) 2 (.int .i64 x) rfl), Lib.hid (blk_far (blk_drewN hb2.out n) (Nat.ne_of_lt (Nat.lt_succ_self _)) _)⟩, by simp [intOf]⟩
        · rw [if_neg he] at hF2
          obtain rfl := Option.some.inj hF2.out
          go_wp2_with fail
          (try simp only [Exit.inBlock, Exit.then])
          refine bodyPost_ret (results_cell2 rfl _ _ w.heap.size _ _ _ _ rfl (blk_put (blk_put (blk_put (blk_drewN hb2.out n) 0 (.int .i64 0) rfl) 1 (.int .i64 0) rfl) 2 (.int .i64 0) rfl) Tryd.underlying23 rfl (by kernel_rfl)) rfl ?_
          exact ⟨rfl, bset (bset (bset (bdrewN hB.out n) (Nat.le_refl _) _) (Nat.le_refl _) _) (Nat.le_refl _) _⟩
    · have hk3 : k = 3 := by omega
      subst hk3
      obtain ⟨x0, x1, x2, rfl⟩ : ∃ x0 x1 x2, xs = [x0, x1, x2] := by
        match xs, hxl with
        | [x0, x1, x2], _ => exact ⟨x0, x1, x2, rfl⟩
      simp only [List.getD_cons_zero, List.getD_cons_succ, List.getD_nil] at c0 c1 c2 hb5
      have hF' := hF.out
      rw [show 3 - 3 = 0 from rfl] at hF'
      unfold getF finF unzig at hF'
      simp only [List.getD_cons_zero, List.getD_cons_succ] at hF'
      have hF2 := Lib.hid hF'
      clear hF' hF
      have hGa : ∀ o, Glob (wr.alloc o) := fun o => (HG.out.below hB.out).alloc o
      have hBa : ∀ o, Below w.heap.size w (wr.alloc o) := fun o => hB.out.alloc hB.out.size o
      have HGa := Lib.hid hGa
      have HBa := Lib.hid hBa
      clear hGa hBa
      go_wp2_with fail
      generalize hz : Go.bits .xor .i64 (x2 / 2) (wrap64 (-(Go.bits .and .i64 x2 1))) = z at *
      clear hz
      refine (may_any _ _ _ _ (HGa.out _)).mono ?_
      rintro _ w2 ⟨rfl, hb⟩
      have HB2 := Lib.hid (btrans (HBa.out _) hb)
      have hb2' := Lib.hid (blk_below (blk_alloc hb2.out _) hb)
      have hb3 := Lib.hid (blk_below (blk_new wr (.cells #[.int .i64 x0, .int .i64 x1, .int .i64 z] 23)) hb)
      clear hb c0 c1 c2 z0 z1 z2 d0 d1 d2 y0 y1 y2
      have e0 : w2.cell? ⟨wr.heap.size, 0, none⟩ = some (.int .i64 x0) := (blk_cell hb3.out 0).trans rfl
      have e1 : w2.cell? ⟨wr.heap.size, 1, none⟩ = some (.int .i64 x1) := (blk_cell hb3.out 1).trans rfl
      have e2 : w2.cell? ⟨wr.heap.size, 2, none⟩ = some (.int .i64 z) := (blk_cell hb3.out 2).trans rfl
      have d0 : w2.cell? ⟨w.heap.size, 0, none⟩ = some (.int .i64 0) := (blk_cell hb2'.out 0).trans rfl
      have d1 : w2.cell? ⟨w.heap.size, 1, none⟩ = some (.int .i64 0) := (blk_cell hb2'.out 1).trans rfl
      have d2 : w2.cell? ⟨w.heap.size, 2, none⟩ = some (.int .i64 0) := (blk_cell hb2'.out 2).trans rfl
      have y0 := blk_frozen hb2'.out 0
      have y1 := blk_frozen hb2'.out 1
      have y2 := blk_frozen hb2'.out 2
      generalize hm : mayB x0 x1 z = m at *
      clear hm
      cases m
      · rw [if_neg (by simp)] at hF2
        obtain rfl := Option.some.inj hF2.out
        go_wp2_with fail
        (try simp only [Exit.inBlock, Exit.then])
        refine bodyPost_ret (results_cell2 rfl _ _ w.heap.size _ _ _ _ rfl (blk_put (blk_put (blk_put hb2'.out 0 (.int .i64 0) rfl) 1 (.int .i64 0) rfl) 2 (.int .i64 0) rfl) Tryd.underlying23 rfl (by kernel_rfl)) rfl ?_
        exact ⟨rfl, bset (bset (bset HB2.out (Nat.le_refl _) _) (Nat.le_refl _) _) (Nat.le_refl _) _⟩
      · rw [if_pos rfl] at hF2
        obtain rfl := Option.some.inj hF2.out
        go_wp2_with fail
        (try simp only [Exit.inBlock, Exit.then])
        refine bodyPost_ret (results_cell2 rfl _ _ w.heap.size _ _ _ _ rfl (blk_put (blk_put (blk_put hb2'.out 0 (.int .i64 x0) rfl) 1 (.int .i64 x1) rfl) 2 (.int .i64 z) rfl) Tryd.underlying23 rfl (by kernel_rfl)) rfl ?_
        exact ⟨rfl, bset (bset (bset HB2.out (Nat.le_refl _) _) (Nat.le_refl _) _) (Nat.le_refl _) _⟩
end Go.Proofs.YtiacjnmkomfdaaaDoor.InstrGet

/-
  What ports.Move returns.
  Conditions: the messages lie in memory as told.
-/
import Derived.Test.YtfeifmjihdfadaaPortS
import Derived.Deep.RegionWith
import Derived.Deep.RegionLaw
import Derived.ScopeJumps
import Derived.WalkMore
namespace Go.Proofs.Ytfeifmjihdfadaa.Port
set_option maxRecDepth 100000
set_option linter.unusedVariables false
set_option linter.unusedSimpArgs false
open Go.RowKit Go.Proofs.YtfeifmjihdfadaaW.PrintWords Go.Proofs.YtfeifmjihdfadaaW.PrintMore

theorem scope_label {P : Program} {r1 rest : Code} {a : Act} {w : World} {Q : Exit → Act → World → Prop} (l : Nat) (J : Act → World → Prop) (μ : Act → World → Nat) (h1 : findLabel r1 l = none)
    (first : r1.wp P (Exit.then J (fun _ _ _ => False)) a w) (pass : ∀ a w, J a w → rest.wp P (Exit.jump l (fun a' w' => J a' w' ∧ μ a' w' < μ a w) Q) a w) :
    (Code.scope (r1.seq ((Code.label l).seq rest))).wp P Q a w := by
  refine wp_scope_jumps (rest := Code.seq .skip rest) l J μ (by simp [findLabel, h1]) ?_ ?_
  · refine wp_seq (wp_mono first ?_)
    intro e a w h
    cases e with
    | normal =>
      refine wp_seq (wp_label (wp_mono (pass a w h) ?_))
      intro e a w hq
      cases e with
      | goto l' => exact ⟨hq.1, hq.2.1⟩
      | _ => exact hq
    | _ => exact h.elim
  · intro a w h
    exact wp_seq (wp_skip (pass a w h))

/-- How many messages are moved. -/
def movN (f t : List Int) (d : Int) : Nat := min f.length (d - t.length).toNat
def Fr (q : Nat) (s0 s1 : Value) (a : Act) : Prop := ∃ (u6 u7 u8 u9 u10 u11 u12 u13 u14 u15 u16 u17 u18 u19 u20 u21 u22 u23 u24 u25 u26 u27 u28 u29 u30 u31 u32 u33 u34 u35 u36 : Value), a = { tmps := #[s0, s1, .pointer (some ⟨q, 0, none⟩), .pointer (some ⟨q + 1, 0, none⟩), .pointer (some ⟨q + 1 + 1, 0, none⟩), .pointer (some ⟨q + 1 + 1 + 1, 0, none⟩), u6, u7, u8, u9, u10, u11, u12, u13, u14, u15, u16, u17, u18, u19, u20, u21, u22, u23, u24, u25, u26, u27, u28, u29, u30, u31, u32, u33, u34, u35, u36], defers := [] }
def qlen (w : World) (q : Nat) : Nat := match w.cell? ⟨q, 1, none⟩ with | some (.slice _ n _) => n | _ => 0
/-- What holds at the label. -/
structure Inv (w : World) (d lost d' lost' : Int) (m m' : List Int) (w1 : World) (k : Nat) (v v' : Value) : Prop where
  hk : k ≤ movN m m' d'
  b0 : w1.heap[w.heap.size]? = some (.cells #[.int .i64 d, v, .int .i64 lost] 24 (0, 0))
  b1 : w1.heap[w.heap.size + 1]? = some (.cells #[.int .i64 d', v', .int .i64 lost'] 24 (0, 0))
  b2 : w1.heap[w.heap.size + 1 + 1]? = some (.cells #[.int .i64 0, .slice none 0 0, .int .i64 0] 24 (0, 0))
  b3 : w1.heap[w.heap.size + 1 + 1 + 1]? = some (.cells #[.int .i64 0, .slice none 0 0, .int .i64 0] 24 (0, 0))
  f : Rd w1 (w.heap.size + 1 + 1 + 1 + 1) v (m.drop k)
  t : Row w1 (w.heap.size + 1 + 1 + 1 + 1) v' (m' ++ m.take k)
  ne : ∀ b, v.ownBlock = some b → v'.ownBlock ≠ some b
  bel : Below w.heap.size w w1

theorem qlen_of {w : World} {q : Nat} {a c : Value} {A : Option Addr} {n cp : Nat} (h : w.heap[q]? = some (.cells #[a, .slice A n cp, c] 24 (0, 0))) : qlen w q = n := by
  unfold qlen
  rw [(qf h).2.1]
theorem bdrew {s : Nat} {w W : World} (h : Below s w W) : Below s w W.drew := ⟨h.os, h.tape, h.output, h.size, h.block⟩

theorem drop_take (m m' : List Int) (k : Nat) (h : k < m.length) : (m' ++ m.take k) ++ [rd (m.drop k) 0] = m' ++ m.take (k + 1) := by
  have h1 : rd (m.drop k) 0 = m[k] := by
    simp [rd, List.getD_eq_getElem?_getD, h]
  rw [h1, List.append_assoc, List.take_succ_eq_append_getElem h]
theorem Inv.start {d lost d' lost' : Int} {m m' : List Int} {w W w1 w2 : World} {v v' x x' : Value}
    (B0 : W.heap[w.heap.size]? = some (.cells #[.int .i64 d, x, .int .i64 lost] 24 (0, 0))) (B1 : W.heap[w.heap.size + 1]? = some (.cells #[.int .i64 d', x', .int .i64 lost'] 24 (0, 0)))
    (B2 : W.heap[w.heap.size + 1 + 1]? = some (.cells #[.int .i64 0, .slice none 0 0, .int .i64 0] 24 (0, 0))) (B3 : W.heap[w.heap.size + 1 + 1 + 1]? = some (.cells #[.int .i64 0, .slice none 0 0, .int .i64 0] 24 (0, 0)))
    (HB : Below w.heap.size w W.drew) (HS : W.heap.size = w.heap.size + 1 + 1 + 1 + 1) (O1 : Row w1 W.drew.heap.size v m) (H1 : Below W.drew.heap.size W.drew w1) (O2 : Row w2 w1.heap.size v' m') (H2 : Below w1.heap.size w1 w2) :
    Inv w d lost d' lost' m m' ((((((w2.setCell ⟨w.heap.size, 0, none⟩ (.int .i64 d)).setCell ⟨w.heap.size, 1, none⟩ v).setCell ⟨w.heap.size, 2, none⟩ (.int .i64 lost)).setCell ⟨w.heap.size + 1, 0, none⟩ (.int .i64 d')).setCell ⟨w.heap.size + 1, 1, none⟩ v').setCell ⟨w.heap.size + 1, 2, none⟩ (.int .i64 lost')) 0 v v' := by
  have hs1 : W.heap.size ≤ w1.heap.size := H1.size
  have hlt1 : ∀ k, v.ownBlock = some k → W.heap.size ≤ k ∧ k < w1.heap.size := O1.lt
  have hlt2 : ∀ k, v'.ownBlock = some k → w1.heap.size ≤ k ∧ k < w2.heap.size := O2.lt
  have c0 := blk_below (blk_below (blk_drew B0) H1) H2
  have c1 := blk_below (blk_below (blk_drew B1) H1) H2
  have c2 := blk_below (blk_below (blk_drew B2) H1) H2
  have c3 := blk_below (blk_below (blk_drew B3) H1) H2
  refine ⟨Nat.zero_le _, ?_, ?_, ?_, ?_, ?_, ?_, ?_, ?_⟩
  · exact blk_far (blk_far (blk_far (blk_put (blk_put (blk_put c0 0 _ rfl) 1 _ rfl) 2 _ rfl) (p := ⟨w.heap.size + 1, 0, none⟩) (by simp) _) (p := ⟨w.heap.size + 1, 1, none⟩) (by simp) _) (p := ⟨w.heap.size + 1, 2, none⟩) (by simp) _
  · exact blk_put (blk_put (blk_put (blk_far (blk_far (blk_far c1 (p := ⟨w.heap.size, 0, none⟩) (by simp) _) (p := ⟨w.heap.size, 1, none⟩) (by simp) _) (p := ⟨w.heap.size, 2, none⟩) (by simp) _) 0 _ rfl) 1 _ rfl) 2 _ rfl
  · exact blk_far (blk_far (blk_far (blk_far (blk_far (blk_far c2 (p := ⟨w.heap.size, 0, none⟩) (by simp only; omega) _) (p := ⟨w.heap.size, 1, none⟩) (by simp only; omega) _) (p := ⟨w.heap.size, 2, none⟩) (by simp only; omega) _) (p := ⟨w.heap.size + 1, 0, none⟩) (by simp only; omega) _) (p := ⟨w.heap.size + 1, 1, none⟩) (by simp only; omega) _) (p := ⟨w.heap.size + 1, 2, none⟩) (by simp only; omega) _
  · exact blk_far (blk_far (blk_far (blk_far (blk_far (blk_far c3 (p := ⟨w.heap.size, 0, none⟩) (by simp only; omega) _) (p := ⟨w.heap.size, 1, none⟩) (by simp only; omega) _) (p := ⟨w.heap.size, 2, none⟩) (by simp only; omega) _) (p := ⟨w.heap.size + 1, 0, none⟩) (by simp only; omega) _) (p := ⟨w.heap.size + 1, 1, none⟩) (by simp only; omega) _) (p := ⟨w.heap.size + 1, 2, none⟩) (by simp only; omega) _
  · rw [List.drop_zero]
    exact ((((O1.below H2).set3 (fun k hk => by have := hlt1 k hk; omega) _ _ _).set3 (fun k hk => by have := hlt1 k hk; omega) _ _ _).lower (by show _ ≤ W.heap.size; omega)).rd
  · rw [List.take_zero, List.append_nil]
    exact ((O2.set3 (fun k hk => by have := hlt2 k hk; omega) _ _ _).set3 (fun k hk => by have := hlt2 k hk; omega) _ _ _).lower (by omega)
  · intro b hb hb'
    have h1 := hlt1 b hb
    have h2 := hlt2 b hb'
    omega
  · exact put3 (put3 (btrans (btrans HB H1) H2) (Nat.le_refl _) _ _ _) (Nat.le_succ _) _ _ _
theorem Inv.step {d lost d' lost' : Int} {m m' : List Int} {w w1 w2 : World} {k : Nat} {v v' v1 vt : Value} (I : Inv w d lost d' lost' m m' w1 k v v') (hk : k < m.length) (hd : (m'.length : Int) + k < d') {o : Obj}
    (hg : (w1.alloc o).drew.grownBy w2 v'.ownBlock) (ho : Row w2 (w.heap.size + 1 + 1 + 1 + 1) v1 ((m' ++ m.take k) ++ [rd (m.drop k) 0])) (hat : v1.ownBlock = v'.ownBlock ∨ ∃ b, v1.ownBlock = some b ∧ (w1.alloc o).drew.heap.size ≤ b)
    (hR : Rd w1 (w.heap.size + 1 + 1 + 1 + 1) vt ((m.drop k).drop 1)) (hvt : vt.ownBlock = v.ownBlock) : Inv w d lost d' lost' m m' ((w2.setCell ⟨w.heap.size + 1, 1, none⟩ v1).setCell ⟨w.heap.size, 1, none⟩ vt) (k + 1) vt v1 := by
  have hb' : ∀ b, v'.ownBlock = some b → w.heap.size + 1 + 1 + 1 + 1 ≤ b ∧ b < w1.heap.size := I.t.lt
  have hb : ∀ b, v.ownBlock = some b → w.heap.size + 1 + 1 + 1 + 1 ≤ b ∧ b < w1.heap.size := I.f.lt
  have hsz : w.heap.size + 1 + 1 + 1 < w1.heap.size := blk_lt I.b3
  have hdz : (w1.alloc o).drew.heap.size = w1.heap.size + 1 := alloc_size _ _
  have hb1 : ∀ b, v1.ownBlock = some b → w.heap.size + 1 + 1 + 1 + 1 ≤ b := fresh_of hat (fun b h => (hb' b h).1) (by omega)
  have c0 := blk_grown (blk_drew (blk_alloc I.b0 o)) hg (fun h => by have := hb' _ h.symm; omega)
  have c1 := blk_grown (blk_drew (blk_alloc I.b1 o)) hg (fun h => by have := hb' _ h.symm; omega)
  have c2 := blk_grown (blk_drew (blk_alloc I.b2 o)) hg (fun h => by have := hb' _ h.symm; omega)
  have c3 := blk_grown (blk_drew (blk_alloc I.b3 o)) hg (fun h => by have := hb' _ h.symm; omega)
  have hR2 : Rd w2 (w.heap.size + 1 + 1 + 1 + 1) vt ((m.drop k).drop 1) := (hR.below (bdrew (balloc (Below.refl _ _) o))).grown hg (fun b h he => I.ne b (hvt ▸ h) he.symm)
  refine ⟨?_, ?_, ?_, ?_, ?_, ?_, ?_, ?_, ?_⟩
  · unfold movN; omega
  · exact blk_put (blk_far c0 (p := ⟨w.heap.size + 1, 1, none⟩) (by simp) _) 1 _ rfl
  · exact blk_far (blk_put c1 1 _ rfl) (p := ⟨w.heap.size, 1, none⟩) (by simp) _
  · exact blk_far (blk_far c2 (p := ⟨w.heap.size + 1, 1, none⟩) (by simp only; omega) _) (p := ⟨w.heap.size, 1, none⟩) (by simp only; omega) _
  · exact blk_far (blk_far c3 (p := ⟨w.heap.size + 1, 1, none⟩) (by simp only; omega) _) (p := ⟨w.heap.size, 1, none⟩) (by simp only; omega) _
  · rw [List.drop_drop] at hR2
    exact (hR2.set (fun b h => by have := hb b (hvt ▸ h); omega) _).set (fun b h => by have := hb b (hvt ▸ h); omega) _
  · rw [drop_take m m' k hk] at ho
    exact (ho.set (fun b h => by have := hb1 b h; omega) _).set (fun b h => by have := hb1 b h; omega) _
  · intro b h h1
    rw [hvt] at h
    rcases hat with he | ⟨b', he, hle⟩
    · exact I.ne b h (he ▸ h1)
    · rw [he] at h1
      injection h1 with h1
      have := hb b h
      omega
  · exact (((bdrew (balloc I.bel o)).grown hg (by omega) (fun b h => by have := hb' b h; omega)).setCell (Nat.le_succ _) _).setCell (Nat.le_refl _) _

theorem Inv.done {d lost d' lost' : Int} {m m' : List Int} {w w1 : World} {k : Nat} {v v' : Value} (I : Inv w d lost d' lost' m m' w1 k v v') (hk : k = movN m m' d') :
    ((((((w1.setCell ⟨w.heap.size + 1 + 1, 0, none⟩ (.int .i64 d)).setCell ⟨w.heap.size + 1 + 1, 1, none⟩ v).setCell ⟨w.heap.size + 1 + 1, 2, none⟩ (.int .i64 lost)).setCell ⟨w.heap.size + 1 + 1 + 1, 0, none⟩ (.int .i64 d')).setCell ⟨w.heap.size + 1 + 1 + 1, 1, none⟩ v').setCell ⟨w.heap.size + 1 + 1 + 1, 2, none⟩ (.int .i64 lost')).drew.heap[w.heap.size + 1 + 1]? = some (.cells #[.int .i64 d, v, .int .i64 lost] 24 (0, 0)) ∧
    ((((((w1.setCell ⟨w.heap.size + 1 + 1, 0, none⟩ (.int .i64 d)).setCell ⟨w.heap.size + 1 + 1, 1, none⟩ v).setCell ⟨w.heap.size + 1 + 1, 2, none⟩ (.int .i64 lost)).setCell ⟨w.heap.size + 1 + 1 + 1, 0, none⟩ (.int .i64 d')).setCell ⟨w.heap.size + 1 + 1 + 1, 1, none⟩ v').setCell ⟨w.heap.size + 1 + 1 + 1, 2, none⟩ (.int .i64 lost')).drew.heap[w.heap.size + 1 + 1 + 1]? = some (.cells #[.int .i64 d', v', .int .i64 lost'] 24 (0, 0)) ∧
    Rd ((((((w1.setCell ⟨w.heap.size + 1 + 1, 0, none⟩ (.int .i64 d)).setCell ⟨w.heap.size + 1 + 1, 1, none⟩ v).setCell ⟨w.heap.size + 1 + 1, 2, none⟩ (.int .i64 lost)).setCell ⟨w.heap.size + 1 + 1 + 1, 0, none⟩ (.int .i64 d')).setCell ⟨w.heap.size + 1 + 1 + 1, 1, none⟩ v').setCell ⟨w.heap.size + 1 + 1 + 1, 2, none⟩ (.int .i64 lost')).drew w.heap.size v (m.drop (movN m m' d')) ∧
    Rd ((((((w1.setCell ⟨w.heap.size + 1 + 1, 0, none⟩ (.int .i64 d)).setCell ⟨w.heap.size + 1 + 1, 1, none⟩ v).setCell ⟨w.heap.size + 1 + 1, 2, none⟩ (.int .i64 lost)).setCell ⟨w.heap.size + 1 + 1 + 1, 0, none⟩ (.int .i64 d')).setCell ⟨w.heap.size + 1 + 1 + 1, 1, none⟩ v').setCell ⟨w.heap.size + 1 + 1 + 1, 2, none⟩ (.int .i64 lost')).drew w.heap.size v' (m' ++ m.take (movN m m' d')) ∧
    Below w.heap.size w ((((((w1.setCell ⟨w.heap.size + 1 + 1, 0, none⟩ (.int .i64 d)).setCell ⟨w.heap.size + 1 + 1, 1, none⟩ v).setCell ⟨w.heap.size + 1 + 1, 2, none⟩ (.int .i64 lost)).setCell ⟨w.heap.size + 1 + 1 + 1, 0, none⟩ (.int .i64 d')).setCell ⟨w.heap.size + 1 + 1 + 1, 1, none⟩ v').setCell ⟨w.heap.size + 1 + 1 + 1, 2, none⟩ (.int .i64 lost')).drew := by
  have hb' : ∀ b, v'.ownBlock = some b → w.heap.size + 1 + 1 + 1 + 1 ≤ b ∧ b < w1.heap.size := I.t.lt
  have hb : ∀ b, v.ownBlock = some b → w.heap.size + 1 + 1 + 1 + 1 ≤ b ∧ b < w1.heap.size := I.f.lt
  subst hk
  refine ⟨?_, ?_, ?_, ?_, ?_⟩
  · exact blk_drew (blk_far (blk_far (blk_far (blk_put (blk_put (blk_put I.b2 0 _ rfl) 1 _ rfl) 2 _ rfl) (p := ⟨w.heap.size + 1 + 1 + 1, 0, none⟩) (by simp) _) (p := ⟨w.heap.size + 1 + 1 + 1, 1, none⟩) (by simp) _) (p := ⟨w.heap.size + 1 + 1 + 1, 2, none⟩) (by simp) _)
  · exact blk_drew (blk_put (blk_put (blk_put (blk_far (blk_far (blk_far I.b3 (p := ⟨w.heap.size + 1 + 1, 0, none⟩) (by simp) _) (p := ⟨w.heap.size + 1 + 1, 1, none⟩) (by simp) _) (p := ⟨w.heap.size + 1 + 1, 2, none⟩) (by simp) _) 0 _ rfl) 1 _ rfl) 2 _ rfl)
  · exact (((I.f.set3 (fun b h => by have := hb b h; omega) _ _ _).set3 (fun b h => by have := hb b h; omega) _ _ _).lower (by omega)).below (bdrew (Below.refl _ _))
  · exact (((I.t.set3 (fun b h => by have := hb' b h; omega) _ _ _).set3 (fun b h => by have := hb' b h; omega) _ _ _).rd.lower (by omega)).below (bdrew (Below.refl _ _))
  · exact bdrew (put3 (put3 I.bel (by omega) _ _ _) (by omega) _ _ _)

set_option maxHeartbeats 2000000 in
theorem move_any (d lost d' lost' : Int) (A A' : Option Addr) (c c' : Nat) (m m' : List Int) (w : World) (hr : (Kd.int .i64).C w A m.length m) (hc : m.length ≤ c) (hn : A = none → c = 0) (hl : m.length ≤ 1000)
    (hr' : (Kd.int .i64).C w A' m'.length m') (hc' : m'.length ≤ c') (hn' : A' = none → c' = 0) (hl' : m'.length ≤ 1000) :
    Calls Try.prog 9 #[.agg #[.int .i64 d, .slice A m.length c, .int .i64 lost], .agg #[.int .i64 d', .slice A' m'.length c', .int .i64 lost']] w
      fun e w' => ∃ v v', e = .returned (.tuple #[.agg #[.int .i64 d, v, .int .i64 lost], .agg #[.int .i64 d', v', .int .i64 lost']]) ∧ Rd w' w.heap.size v (m.drop (movN m m' d')) ∧ Rd w' w.heap.size v' (m' ++ m.take (movN m m' d')) ∧ Below w.heap.size w w' := by
  have HR := Lib.hid hr
  have HR' := Lib.hid hr'
  clear hr hr'
  have HM : Hid (m.length ≤ 1000000) := Lib.hid (by omega)
  have HM' : Hid (m'.length ≤ 1000000) := Lib.hid (by omega)
  go_enter Try.func9, Try.ntmps9
  go_upto_region 1 with fail
  refine scope_label 0 (fun a w1 => Fr w.heap.size (.agg #[.int .i64 d, .slice A m.length c, .int .i64 lost]) (.agg #[.int .i64 d', .slice A' m'.length c', .int .i64 lost']) a ∧ ∃ k v v', Inv w d lost d' lost' m m' w1 k v v') (fun _ w1 => qlen w1 w.heap.size) rfl ?first ?pass
  case first =>
    have hB := balloc (balloc (balloc (balloc (Below.refl w.heap.size w) (.cells #[.int .i64 d, .slice A m.length c, .int .i64 lost] 24)) (.cells #[.int .i64 d', .slice A' m'.length c', .int .i64 lost'] 24)) (.cells #[.int .i64 0, .slice none 0 0, .int .i64 0] 24)) (.cells #[.int .i64 0, .slice none 0 0, .int .i64 0] 24)
    obtain ⟨b0, b1, b2, b3⟩ := four_blk w (.cells #[.int .i64 d, .slice A m.length c, .int .i64 lost] 24) (.cells #[.int .i64 d', .slice A' m'.length c', .int .i64 lost'] 24) (.cells #[.int .i64 0, .slice none 0 0, .int .i64 0] 24) (.cells #[.int .i64 0, .slice none 0 0, .int .i64 0] 24)
    have hS : ((((w.alloc (.cells #[.int .i64 d, .slice A m.length c, .int .i64 lost] 24)).alloc (.cells #[.int .i64 d', .slice A' m'.length c', .int .i64 lost'] 24)).alloc (.cells #[.int .i64 0, .slice none 0 0, .int .i64 0] 24)).alloc (.cells #[.int .i64 0, .slice none 0 0, .int .i64 0] 24)).heap.size = w.heap.size + 1 + 1 + 1 + 1 := by simp only [alloc_size]
    generalize ((((w.alloc (.cells #[.int .i64 d, .slice A m.length c, .int .i64 lost] 24)).alloc (.cells #[.int .i64 d', .slice A' m'.length c', .int .i64 lost'] 24)).alloc (.cells #[.int .i64 0, .slice none 0 0, .int .i64 0] 24)).alloc (.cells #[.int .i64 0, .slice none 0 0, .int .i64 0] 24)) = W at *
    have B0 := Lib.hid b0
    have B1 := Lib.hid b1
    have B2 := Lib.hid b2
    have B3 := Lib.hid b3
    have HB := Lib.hid (bdrew hB)
    obtain ⟨p0, p1, p2, z0, z1, z2, pl⟩ := qf b0
    obtain ⟨y0, y1, y2, x0, x1, x2, yl⟩ := qf b1
    have HS := Lib.hid hS
    clear b0 b1 b2 b3 hB hS
    go_region_with (first
      | (have hh1 := H1.out; clear hh1; go_at_call 17; refine (own_any d' lost' A' c' m' _ (Kd.C_below HR'.out (btrans HB.out H1.out)) hc' hn' HM'.out).mono ?_; rintro e w2 ⟨v', rfl, ho2, hb2⟩; obtain ⟨A2, c2, rfl, l1, l2, l3⟩ := ho2.slice; have O2 := Lib.hid ho2; have H2 := Lib.hid hb2; obtain ⟨p0'', p1'', p2'', z0'', z1'', z2'', pl''⟩ := qf (blk_below (blk_below (blk_drew B0.out) H1.out) hb2); obtain ⟨y0'', y1'', y2'', x0'', x1'', x2'', yl''⟩ := qf (blk_below (blk_below (blk_drew B1.out) H1.out) hb2); clear ho2 hb2)
      | (go_at_call 17; refine (own_any d lost A c m _ (Kd.C_below HR.out HB.out) hc hn HM.out).mono ?_; rintro e w1 ⟨v, rfl, ho1, hb1⟩; obtain ⟨A1, c1, rfl, k1, k2, k3⟩ := ho1.slice; have O1 := Lib.hid ho1; have H1 := Lib.hid hb1; obtain ⟨p0', p1', p2', z0', z1', z2', pl'⟩ := qf (blk_below (blk_drew B0.out) hb1); obtain ⟨y0', y1', y2', x0', x1', x2', yl'⟩ := qf (blk_below (blk_drew B1.out) hb1); clear ho1 hb1))
    all_goals exact ⟨by (repeat apply Exists.intro); rfl, _, _, _, Inv.start B0.out B1.out B2.out B3.out HB.out HS.out O1.out H1.out O2.out H2.out⟩
  case pass =>
    rintro a w1 ⟨⟨u6, u7, u8, u9, u10, u11, u12, u13, u14, u15, u16, u17, u18, u19, u20, u21, u22, u23, u24, u25, u26, u27, u28, u29, u30, u31, u32, u33, u34, u35, u36, rfl⟩, k, v, v', I⟩
    have hf := I.f
    obtain ⟨A1, c1, rfl, h1, h2, h3, h4⟩ := hf
    obtain ⟨A2, c2, rfl, l1, l2, l3⟩ := I.t.slice
    have HI := Lib.hid I
    obtain ⟨p0, p1, p2, z0, z1, z2, pl⟩ := qf I.b0
    obtain ⟨y0, y1, y2, x0, x1, x2, yl⟩ := qf I.b1
    have hk : k ≤ m.length := by have := I.hk; unfold movN at this; omega
    have hL : (m.drop k).length = m.length - k := List.length_drop
    have hT : (m' ++ m.take k).length = m'.length + k := by simp; omega
    have HL := Lib.hid hL
    have HT := Lib.hid hT
    by_cases h : k < m.length ∧ (m'.length : Int) + k < d'
    · have hp : (0 : Int) < ((m.drop k).length : Int) := by omega
      have hq : ((m' ++ m.take k).length : Int) < d' := by omega
      obtain ⟨ad, rfl, hc0⟩ := Kd.at_int h3 0 (Int.le_refl _) hp
      rw [show ad.add (Int.toNat 0) = ad from addr0 ad] at hc0
      obtain ⟨At, hsl, hCt, hAt, hAs⟩ := tail_run h3 (by omega) h1
      have hlen : ((m.drop k).drop 1).length = (m.drop k).length - 1 := List.length_drop
      have hRt : Rd w1 (w.heap.size + 1 + 1 + 1 + 1) (.slice (some At) ((m.drop k).length - 1) (c1 - 1)) ((m.drop k).drop 1) := by
        rw [← hlen]
        refine ⟨_, _, rfl, by omega, fun h => (by cases h), hCt, fun ad' ha => ?_⟩
        injection ha with ha
        subst ha
        obtain ⟨q1, q2, q3, q4⟩ := h4 ad rfl
        rw [hAt]
        exact ⟨q1, q2, hAs q3, q4⟩
      have hvt : (Value.slice (some At) ((m.drop k).length - 1) (c1 - 1)).ownBlock = (Value.slice (some ad) (m.drop k).length c1).ownBlock := by simp only [Value.ownBlock, hAt]
      have HRt := Lib.hid hRt
      have HV := Lib.hid hvt
      have HT2 := Lib.hid I.t
      have HH := Lib.hid h
      have hl2 : Hid (m'.length + k ≤ 1000000) := Lib.hid (by omega)
      have hsz : Hid (w.heap.size + 1 + 1 + 1 < w1.heap.size) := Lib.hid (blk_lt I.b3)
      have hadl := (h4 ad rfl).2.1
      have HN2 : Hid (∀ b, (Value.slice A2 (m' ++ m.take k).length c2).ownBlock = some b → w.heap.size + 1 + 1 + 1 + 1 ≤ b) := Lib.hid (fun b hb => (I.t.lt b hb).1)
      clear I h hL hT hk hlen hCt hAt hAs hRt hvt h3 h4
      generalize (m.drop k).length = n1 at *
      generalize (m' ++ m.take k).length = n2 at *
      generalize hy : rd (m.drop k) 0 = y at *
      have HY := Lib.hid hy
      clear hy
      go_upto_region 3 with fail
      go_region_law (refine append_st rfl (.tmp 23) (.tmp 28) rfl (v := .slice A2 n2 c2) (ad := ⟨w1.heap.size, 0, none⟩) (c := 1) (y := y) (by simp [Act.eval, Act.put]) (by simp [Act.eval, Act.put]) (HT2.out.below (bdrew (balloc (Below.refl _ _) (.cells #[.int .i64 y] 3)))) ((blk_cell (blk_drew (blk_new w1 (.cells #[.int .i64 y] 3))) 0).trans rfl) (by have := hsz.out; have h9 := alloc_size w1 (.cells #[.int .i64 y] 3); show _ ≤ (w1.alloc (.cells #[.int .i64 y] 3)).heap.size; omega) (by have := hl2.out; simp only [List.length_append, List.length_take]; omega) ?_; intro v1 w2 ho hg hat; obtain ⟨A3, c3, rfl, k1, k2, k3⟩ := ho.slice; generalize (m' ++ m.take k ++ [y]).length = n3 at *; have HG := Lib.hid hg; have HO := Lib.hid ho; have HA := Lib.hid hat; obtain ⟨e0, e1, e2, f0, f1, f2, fl⟩ := qf (blk_grown (blk_drew (blk_alloc HI.out.b0 _)) hg (fun h => by have := HN2.out _ h.symm; omega)); obtain ⟨g0, g1, g2, i0, i1, i2, il⟩ := qf (blk_grown (blk_drew (blk_alloc HI.out.b1 _)) hg (fun h => by have := HN2.out _ h.symm; omega)); clear ho hg hat)
      all_goals
        go_wp2_with fail
        go_step3
        have hI := HI.out.step HH.out.1 HH.out.2 HG.out (by rw [HY.out]; exact HO.out) HA.out HRt.out HV.out
        refine ⟨rfl, ⟨by (repeat apply Exists.intro); rfl, _, _, _, hI⟩, ?_⟩
        rw [qlen_of hI.b0, qlen_of HI.out.b0]
        omega
    · have hk2 : k = movN m m' d' := by have := I.hk; unfold movN at this ⊢; omega
      have HK := Lib.hid hk2
      have hor : (m.drop k).length = 0 ∨ (0 < (m.drop k).length ∧ d' ≤ ((m' ++ m.take k).length : Int)) := by omega
      clear I h hL hT hk hk2 h3 h4
      have HF := Lib.hid HI.out.f
      have HT2 := Lib.hid HI.out.t
      obtain ⟨e0, e1, e2, f0, f1, f2, fl⟩ := qf HI.out.b2
      obtain ⟨g0, g1, g2, i0, i1, i2, il⟩ := qf HI.out.b3
      generalize (m.drop k).length = n1 at *
      generalize (m' ++ m.take k).length = n2 at *
      rcases hor with hor | ⟨hp, hq⟩
      · subst hor
        go_upto_region 5 with fail
        go_region
        go_wp2_with fail
        (try simp only [Exit.jump])
        obtain ⟨r2, r3, rf, rt, rb⟩ := HI.out.done HK.out
        refine bodyPost_ret (results_list (rs := [.cell 4 24, .cell 5 24]) rfl (by simp) (.cell (w.heap.size + 1 + 1) 24 _ (0, 0) _ rfl r2 Try.underlying24 rfl (by kernel_rfl) (.cell (w.heap.size + 1 + 1 + 1) 24 _ (0, 0) _ rfl r3 Try.underlying24 rfl (by kernel_rfl) .nil))) rfl ?_
        exact ⟨_, _, rfl, rf, rt, rb⟩
      · have hp' : (0 : Int) < (n1 : Int) := by omega
        go_upto_region 5 with fail
        go_region
        go_wp2_with fail
        (try simp only [Exit.jump])
        obtain ⟨r2, r3, rf, rt, rb⟩ := HI.out.done HK.out
        refine bodyPost_ret (results_list (rs := [.cell 4 24, .cell 5 24]) rfl (by simp) (.cell (w.heap.size + 1 + 1) 24 _ (0, 0) _ rfl r2 Try.underlying24 rfl (by kernel_rfl) (.cell (w.heap.size + 1 + 1 + 1) 24 _ (0, 0) _ rfl r3 Try.underlying24 rfl (by kernel_rfl) .nil))) rfl ?_
        exact ⟨_, _, rfl, rf, rt, rb⟩
end Go.Proofs.Ytfeifmjihdfadaa.Port

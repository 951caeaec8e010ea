/-
  What the reference's Move answers.
  Conditions: the messages lie in memory as told.
-/
import Derived.Test.YtfeifmjihdfadaaPortC
namespace Go.Proofs.Ytfeifmjihdfadaa.Port
set_option maxRecDepth 100000
set_option linter.unusedVariables false
set_option linter.unusedSimpArgs false
open Go.RowKit Go.Proofs.YtfeifmjihdfadaaW.PrintWords Go.Proofs.YtfeifmjihdfadaaW.PrintMore

/-- What holds at the head of the loop. -/
structure RInv (w : World) (d lost d' lost' : Int) (m m' : List Int) (w1 : World) (k : Nat) (A : Option Addr) (c : Nat) (v' : Value) : Prop where
  hk : k ≤ movN m m' d'
  b0 : w1.heap[w.heap.size]? = some (.cells #[.int .i64 d, .slice A (m.drop k).length c, .int .i64 lost] 24 (0, 0))
  b1 : w1.heap[w.heap.size + 1]? = some (.cells #[.int .i64 d', v', .int .i64 lost'] 24 (0, 0))
  b2 : w1.heap[w.heap.size + 1 + 1]? = some (.cells #[.int .i64 0, .slice none 0 0, .int .i64 0] 24 (0, 0))
  b3 : w1.heap[w.heap.size + 1 + 1 + 1]? = some (.cells #[.int .i64 0, .slice none 0 0, .int .i64 0] 24 (0, 0))
  f : (Kd.int .i64).C w1 A (m.drop k).length (m.drop k)
  fc : (m.drop k).length ≤ c
  t : Row w1 (w.heap.size + 1 + 1 + 1 + 1) v' (m' ++ m.take k)
  ne : ∀ ad, A = some ad → 0 < (m.drop k).length → v'.ownBlock ≠ some ad.block
  sep : ∀ ad, A = some ad → 0 < (m.drop k).length → ad.block < w.heap.size ∨ w.heap.size + 1 + 1 + 1 + 1 ≤ ad.block
  bel : Below w.heap.size w w1
theorem C_lt {w : World} {ad : Addr} {n : Nat} {l : List Int} (h : (Kd.int .i64).C w (some ad) n l) (hp : 0 < n) : ad.block < w.heap.size := by
  obtain ⟨ad', he, hc⟩ := Kd.at_int h 0 (Int.le_refl _) (by omega)
  injection he with he
  subst he
  rw [show ad.add (Int.toNat 0) = ad from addr0 ad] at hc
  exact World.block_lt_of_cell? _ _ hc
theorem set3_far {W : World} {q k : Nat} (h : k ≠ q) (a b c : Value) : (((W.setCell ⟨q, 0, none⟩ a).setCell ⟨q, 1, none⟩ b).setCell ⟨q, 2, none⟩ c).heap[k]? = W.heap[k]? :=
  (Below.heap_setCell _ ⟨q, 2, none⟩ c k h).trans ((Below.heap_setCell _ ⟨q, 1, none⟩ b k h).trans (Below.heap_setCell _ ⟨q, 0, none⟩ a k h))
theorem RInv.start {d lost d' lost' : Int} {A : Option Addr} {c : Nat} {m m' : List Int} {w W w1 : World} {v' x' : Value}
    (B0 : W.heap[w.heap.size]? = some (.cells #[.int .i64 d, .slice A m.length c, .int .i64 lost] 24 (0, 0))) (B1 : W.heap[w.heap.size + 1]? = some (.cells #[.int .i64 d', x', .int .i64 lost'] 24 (0, 0)))
    (B2 : W.heap[w.heap.size + 1 + 1]? = some (.cells #[.int .i64 0, .slice none 0 0, .int .i64 0] 24 (0, 0))) (B3 : W.heap[w.heap.size + 1 + 1 + 1]? = some (.cells #[.int .i64 0, .slice none 0 0, .int .i64 0] 24 (0, 0)))
    (HB : Below w.heap.size w W) (HS : W.heap.size = w.heap.size + 1 + 1 + 1 + 1) (HR : (Kd.int .i64).C w A m.length m) (hc : m.length ≤ c) (O : Row w1 W.heap.size v' m') (H : Below W.heap.size W w1) :
    RInv w d lost d' lost' m m' (w1.setCell ⟨w.heap.size + 1, 1, none⟩ v') 0 A c v' := by
  have hlt : ∀ k, v'.ownBlock = some k → W.heap.size ≤ k ∧ k < w1.heap.size := O.lt
  have c0 := blk_below B0 H
  have c1 := blk_below B1 H
  have c2 := blk_below B2 H
  have c3 := blk_below B3 H
  have hb : Below w.heap.size w (w1.setCell ⟨w.heap.size + 1, 1, none⟩ v') := (btrans HB H).setCell (Nat.le_succ _) _
  refine ⟨Nat.zero_le _, ?_, ?_, ?_, ?_, ?_, ?_, ?_, ?_, ?_, hb⟩
  · rw [List.drop_zero]; exact blk_far c0 (p := ⟨w.heap.size + 1, 1, none⟩) (by simp) _
  · exact blk_put c1 1 _ rfl
  · exact blk_far c2 (p := ⟨w.heap.size + 1, 1, none⟩) (by simp only; omega) _
  · exact blk_far c3 (p := ⟨w.heap.size + 1, 1, none⟩) (by simp only; omega) _
  · rw [List.drop_zero]; exact Kd.C_below HR hb
  · rw [List.drop_zero]; exact hc
  · rw [List.take_zero, List.append_nil]
    exact (O.set (fun k hk => by have := hlt k hk; omega) _).lower (by omega)
  · rw [List.drop_zero]
    intro ad ha hp he
    subst ha
    have h1 := C_lt HR hp
    have h2 := hlt _ he
    have h3 := HB.size
    omega
  · rw [List.drop_zero]
    intro ad ha hp
    subst ha
    exact .inl (C_lt HR hp)
theorem RInv.step {d lost d' lost' : Int} {m m' : List Int} {w w0 w1 W2 w3 : World} {k : Nat} {A A1 : Option Addr} {c c1 : Nat} {v' v1 : Value} {o o' : Obj} (I : RInv w d lost d' lost' m m' w0 k A c v') (hk : k < m.length) (hd : (m'.length : Int) + k < d')
    (hf : Row w1 w0.heap.size (.slice A1 ((m.drop k).drop 1).length c1) ((m.drop k).drop 1)) (hb : Below w0.heap.size w0 w1)
    (hW : W2 = ((((w1.setCell ⟨w.heap.size, 0, none⟩ (.int .i64 d)).setCell ⟨w.heap.size, 1, none⟩ (.slice A1 ((m.drop k).drop 1).length c1)).setCell ⟨w.heap.size, 2, none⟩ (.int .i64 lost)).alloc o))
    (hg : (W2.alloc o').grownBy w3 v'.ownBlock) (ho : Row w3 (w.heap.size + 1 + 1 + 1 + 1) v1 ((m' ++ m.take k) ++ [rd (m.drop k) 0])) (hat : v1.ownBlock = v'.ownBlock ∨ ∃ b, v1.ownBlock = some b ∧ (W2.alloc o').heap.size ≤ b) :
    RInv w d lost d' lost' m m' (w3.setCell ⟨w.heap.size + 1, 1, none⟩ v1) (k + 1) A1 c1 v1 := by
  have hs0 : w0.heap.size ≤ w1.heap.size := hb.size
  have hsz : w.heap.size + 1 + 1 + 1 < w0.heap.size := blk_lt I.b3
  have hb' : ∀ b, v'.ownBlock = some b → w.heap.size + 1 + 1 + 1 + 1 ≤ b ∧ b < w0.heap.size := I.t.lt
  have hbf : ∀ b, (Value.slice A1 ((m.drop k).drop 1).length c1).ownBlock = some b → w0.heap.size ≤ b ∧ b < w1.heap.size := hf.lt
  have hW2 : W2.heap.size = w1.heap.size + 1 := by rw [hW]; simp
  have hW3 : (W2.alloc o').heap.size = w1.heap.size + 1 + 1 := by rw [alloc_size, hW2]
  have hb1 : ∀ b, v1.ownBlock = some b → w.heap.size + 1 + 1 + 1 + 1 ≤ b := fresh_of hat (fun b h => (hb' b h).1) (by omega)
  have c0 := blk_alloc (blk_put (blk_put (blk_put (blk_below I.b0 hb) 0 (.int .i64 d) rfl) 1 (.slice A1 ((m.drop k).drop 1).length c1) rfl) 2 (.int .i64 lost) rfl) o
  have far : ∀ {g : Nat} {cs : Array Value}, g ≠ w.heap.size → w0.heap[g]? = some (.cells cs 24 (0, 0)) → W2.heap[g]? = some (.cells cs 24 (0, 0)) := by
    intro g cs hne h
    rw [hW]
    exact blk_alloc (blk_far (blk_far (blk_far (blk_below h hb) (p := ⟨w.heap.size, 0, none⟩) hne _) (p := ⟨w.heap.size, 1, none⟩) hne _) (p := ⟨w.heap.size, 2, none⟩) hne _) o
  have e0 := blk_grown (blk_alloc (hW ▸ c0) o') hg (fun h => by have := hb' _ h.symm; omega)
  have e1 := blk_grown (blk_alloc (far (by omega) I.b1) o') hg (fun h => by have := hb' _ h.symm; omega)
  have e2 := blk_grown (blk_alloc (far (by omega) I.b2) o') hg (fun h => by have := hb' _ h.symm; omega)
  have e3 := blk_grown (blk_alloc (far (by omega) I.b3) o') hg (fun h => by have := hb' _ h.symm; omega)
  have hf2 : Row W2 w0.heap.size (.slice A1 ((m.drop k).drop 1).length c1) ((m.drop k).drop 1) := by
    rw [hW]
    exact (hf.set3 (q := w.heap.size) (fun b h => by have := hbf b h; omega) _ _ _).below (balloc (Below.refl _ _) o)
  have hf3 : Row w3 w0.heap.size (.slice A1 ((m.drop k).drop 1).length c1) ((m.drop k).drop 1) := (hf2.below (balloc (Below.refl _ _) o')).grown hg (fun b h he => by have h1 := hbf b h; have h2 := hb' b he.symm; omega)
  have hf4 := hf3.set (q := w.heap.size + 1) (i := 1) (fun b h => by have := hbf b h; omega) v1
  have hbel : Below w.heap.size w (w3.setCell ⟨w.heap.size + 1, 1, none⟩ v1) := by
    have hb2 : Below w.heap.size w W2 := by rw [hW]; exact balloc (put3 (btrans I.bel hb) (Nat.le_refl _) _ _ _) o
    exact ((balloc hb2 o').grown hg (by omega) (fun b h => by have := hb' b h; omega)).setCell (Nat.le_succ _) _
  refine ⟨?_, ?_, ?_, ?_, ?_, ?_, ?_, ?_, ?_, ?_, hbel⟩
  · unfold movN; omega
  · have := blk_far e0 (p := ⟨w.heap.size + 1, 1, none⟩) (by simp) v1
    rw [List.drop_drop] at this
    exact this
  · exact blk_put e1 1 _ rfl
  · exact blk_far e2 (p := ⟨w.heap.size + 1, 1, none⟩) (by simp only; omega) _
  · exact blk_far e3 (p := ⟨w.heap.size + 1, 1, none⟩) (by simp only; omega) _
  · have := hf4.C
    rw [List.drop_drop] at this
    exact this
  · obtain ⟨A2, c2, he, h1, _⟩ := hf.slice
    injection he with he1 he2 he3
    rw [List.drop_drop] at h1
    omega
  · rw [drop_take m m' k hk] at ho
    exact ho.set (fun b h => by have := hb1 b h; omega) _
  · intro ad ha hp he
    have h1 := hbf ad.block (by rw [ha]; rfl)
    rcases hat with h | ⟨b, h, hle⟩
    · have := hb' ad.block (h ▸ he); omega
    · rw [h] at he
      injection he with he
      omega
  · intro ad ha hp
    have h1 := hbf ad.block (by rw [ha]; rfl)
    exact .inr (by omega)
theorem RInv.done {d lost d' lost' : Int} {m m' : List Int} {w w1 : World} {k : Nat} {A : Option Addr} {c : Nat} {v' : Value} (I : RInv w d lost d' lost' m m' w1 k A c v') (hk : k = movN m m' d') {W : World}
    (hW : W = ((((((w1.setCell ⟨w.heap.size + 1 + 1, 0, none⟩ (.int .i64 d)).setCell ⟨w.heap.size + 1 + 1, 1, none⟩ (.slice A (m.drop k).length c)).setCell ⟨w.heap.size + 1 + 1, 2, none⟩ (.int .i64 lost)).setCell ⟨w.heap.size + 1 + 1 + 1, 0, none⟩ (.int .i64 d')).setCell ⟨w.heap.size + 1 + 1 + 1, 1, none⟩ v').setCell ⟨w.heap.size + 1 + 1 + 1, 2, none⟩ (.int .i64 lost')).drew) :
    W.heap[w.heap.size + 1 + 1]? = some (.cells #[.int .i64 d, .slice A (m.drop k).length c, .int .i64 lost] 24 (0, 0)) ∧ W.heap[w.heap.size + 1 + 1 + 1]? = some (.cells #[.int .i64 d', v', .int .i64 lost'] 24 (0, 0)) ∧
    (Kd.int .i64).C W A (m.drop (movN m m' d')).length (m.drop (movN m m' d')) ∧ Row W w.heap.size v' (m' ++ m.take (movN m m' d')) ∧ Below w.heap.size w W := by
  have hb' : ∀ b, v'.ownBlock = some b → w.heap.size + 1 + 1 + 1 + 1 ≤ b ∧ b < w1.heap.size := I.t.lt
  rw [hW]
  refine ⟨?_, ?_, ?_, ?_, ?_⟩
  · exact blk_drew (blk_far (blk_far (blk_far (blk_put (blk_put (blk_put I.b2 0 _ rfl) 1 _ rfl) 2 _ rfl) (p := ⟨w.heap.size + 1 + 1 + 1, 0, none⟩) (by simp) _) (p := ⟨w.heap.size + 1 + 1 + 1, 1, none⟩) (by simp) _) (p := ⟨w.heap.size + 1 + 1 + 1, 2, none⟩) (by simp) _)
  · exact blk_drew (blk_put (blk_put (blk_put (blk_far (blk_far (blk_far I.b3 (p := ⟨w.heap.size + 1 + 1, 0, none⟩) (by simp) _) (p := ⟨w.heap.size + 1 + 1, 1, none⟩) (by simp) _) (p := ⟨w.heap.size + 1 + 1, 2, none⟩) (by simp) _) 0 _ rfl) 1 _ rfl) 2 _ rfl)
  · rw [← hk]
    rcases Nat.eq_zero_or_pos (m.drop k).length with h0 | h0
    · rw [List.eq_nil_of_length_eq_zero h0]
      exact ⟨rfl, by simp, fun h => absurd h (by simp)⟩
    · refine C_move I.f (fun ad ha => ?_)
      have hn2 : ad.block ≠ w.heap.size + 1 + 1 := by have := I.sep ad ha h0; omega
      have hn3 : ad.block ≠ w.heap.size + 1 + 1 + 1 := by have := I.sep ad ha h0; omega
      have hdr : ∀ X : World, X.drew.heap = X.heap := fun _ => rfl
      rw [hdr, set3_far hn3, set3_far hn2]
  · rw [← hk]
    exact (((I.t.set3 (fun b h => by have := hb' b h; omega) _ _ _).set3 (fun b h => by have := hb' b h; omega) _ _ _).lower (by omega)).below (bdrew (Below.refl _ _))
  · exact bdrew (put3 (put3 I.bel (by omega) _ _ _) (by omega) _ _ _)

set_option maxHeartbeats 4000000 in
theorem refmove_any (d lost d' lost' : Int) (A A' : Option Addr) (c c' : Nat) (m m' : List Int) (w : World) (hr : (Kd.int .i64).C w A m.length m) (hc : m.length ≤ c) (hl : m.length ≤ 1000)
    (hr' : (Kd.int .i64).C w A' m'.length m') (hl' : m'.length ≤ 1000) :
    Calls Try.prog 15 #[.agg #[.int .i64 d, .slice A m.length c, .int .i64 lost], .agg #[.int .i64 d', .slice A' m'.length c', .int .i64 lost']] w
      fun e w' => ∃ A1 c1 v', e = .returned (.tuple #[.agg #[.int .i64 d, .slice A1 (m.drop (movN m m' d')).length c1, .int .i64 lost], .agg #[.int .i64 d', v', .int .i64 lost']]) ∧
        (Kd.int .i64).C w' A1 (m.drop (movN m m' d')).length (m.drop (movN m m' d')) ∧ Row w' w.heap.size v' (m' ++ m.take (movN m m' d')) ∧ Below w.heap.size w w' := by
  have HR := Lib.hid hr
  have HR' := Lib.hid hr'
  have HC := Lib.hid hc
  have HL : Hid (m.length ≤ 1000 ∧ m'.length ≤ 1000) := Lib.hid ⟨hl, hl'⟩
  clear hr hr' hc hl hl'
  go_enter Try.func15, Try.ntmps15
  go_upto_region 1 with fail
  obtain ⟨b0, b1, b2, b3⟩ := four_blk w (.cells #[.int .i64 d, .slice A m.length c, .int .i64 lost] 24) (.cells #[.int .i64 d', .slice A' m'.length c', .int .i64 lost'] 24) (.cells #[.int .i64 0, .slice none 0 0, .int .i64 0] 24) (.cells #[.int .i64 0, .slice none 0 0, .int .i64 0] 24)
  have HB := Lib.hid (balloc (balloc (balloc (balloc (Below.refl w.heap.size w) (.cells #[.int .i64 d, .slice A m.length c, .int .i64 lost] 24)) (.cells #[.int .i64 d', .slice A' m'.length c', .int .i64 lost'] 24)) (.cells #[.int .i64 0, .slice none 0 0, .int .i64 0] 24)) (.cells #[.int .i64 0, .slice none 0 0, .int .i64 0] 24))
  have HS : Hid (((((w.alloc (.cells #[.int .i64 d, .slice A m.length c, .int .i64 lost] 24)).alloc (.cells #[.int .i64 d', .slice A' m'.length c', .int .i64 lost'] 24)).alloc (.cells #[.int .i64 0, .slice none 0 0, .int .i64 0] 24)).alloc (.cells #[.int .i64 0, .slice none 0 0, .int .i64 0] 24)).heap.size = w.heap.size + 1 + 1 + 1 + 1) := Lib.hid (by simp only [alloc_size])
  generalize ((((w.alloc (.cells #[.int .i64 d, .slice A m.length c, .int .i64 lost] 24)).alloc (.cells #[.int .i64 d', .slice A' m'.length c', .int .i64 lost'] 24)).alloc (.cells #[.int .i64 0, .slice none 0 0, .int .i64 0] 24)).alloc (.cells #[.int .i64 0, .slice none 0 0, .int .i64 0] 24)) = W at *
  have B0 := Lib.hid b0
  have B1 := Lib.hid b1
  have B2 := Lib.hid b2
  have B3 := Lib.hid b3
  clear b0 b1 b2 b3
  obtain ⟨y0, y1, y2, x0, x1, x2, yl⟩ := qf B1.out
  go_wp2_with ((with_reducible refine gate_builtin (b := .append) (xs := #[.const (.slice none 0 0), .tmp 10]) rfl ?_); at_builtin; refine copy_ev rfl (.tmp 10) rfl (ys := m') rfl (Kd.C_below HR'.out HB.out) (by have := HL.out; omega) ?_; intro v1 w1 ho hb; obtain ⟨A2, c2, rfl, h1, h2, h3⟩ := ho.slice; have HO1 := Lib.hid ho; have HB1 := Lib.hid hb; obtain ⟨y0', y1', y2', x0', x1', x2', yl'⟩ := qf (blk_below B1.out hb); clear ho hb)
  have HI := Lib.hid (RInv.start B0.out B1.out B2.out B3.out HB.out HS.out HR.out HC.out HO1.out HB1.out)
  clear y0 y1 y2 x0 x1 x2 yl y0' y1' y2' x0' x1' x2' yl' B0 B1 B2 B3 HB HS HO1 HB1
  generalize w1.setCell ⟨w.heap.size + 1, 1, none⟩ (.slice A2 m'.length c2) = W1 at *
  go_loopw [] (fun wr_ => ∃ k A c v', Hid (RInv w d lost d' lost' m m' wr_ k A c v')) (fun wr_ => qlen wr_ w.heap.size)
  case atStart => exact ⟨0, _, _, _, HI⟩
  case round =>
    clear HI
    obtain ⟨k, A1, c1, v', HI⟩ := hrel
    obtain ⟨A2, c2, rfl, l1, l2, l3⟩ := HI.out.t.slice
    have I := HI.out
    obtain ⟨p0, p1, p2, z0, z1, z2, pl⟩ := qf I.b0
    obtain ⟨y0, y1, y2, x0, x1, x2, yl⟩ := qf I.b1
    have hk : k ≤ m.length := by have := I.hk; unfold movN at this; omega
    have hL : (m.drop k).length = m.length - k := List.length_drop
    have hT : (m' ++ m.take k).length = m'.length + k := by simp; omega
    have HLL := Lib.hid hL
    have HT := Lib.hid hT
    by_cases h : k < m.length ∧ (m'.length : Int) + k < d'
    · have hp : (0 : Int) < ((m.drop k).length : Int) := by omega
      have hq : ((m' ++ m.take k).length : Int) < d' := by omega
      have HH := Lib.hid h
      have HT2 := Lib.hid I.t
      have hcall := fun W => reftake_cons d lost A1 c1 (m.drop k) W
      have hCall := Lib.hid (hcall _ I.f I.fc (by omega) (by have := HL.out; omega))
      have HN2 : Hid (∀ b, (Value.slice A2 (m' ++ m.take k).length c2).ownBlock = some b → w.heap.size + 1 + 1 + 1 + 1 ≤ b ∧ b < wr.heap.size) := Lib.hid I.t.lt
      have hlen : ((m.drop k).drop 1).length = (m.drop k).length - 1 := List.length_drop
      have HLN := Lib.hid hlen
      have hl2 : Hid (m'.length + k ≤ 100000) := Lib.hid (by have := HL.out; omega)
      clear I h hL hT hk hcall hlen
      generalize hn1 : (m.drop k).length = n1 at *
      have HN1 := Lib.hid hn1
      clear hn1
      generalize (m' ++ m.take k).length = n2 at *
      generalize ((m.drop k).drop 1).length = n4 at *
      generalize hy : rd (m.drop k) 0 = y at *
      have HY := Lib.hid hy
      clear hy
      go_wp2_with fail
      refine hCall.out.mono ?_
      rintro e w1 ⟨v, rfl, ho, hb⟩
      obtain ⟨A3, c3, rfl, k1, k2, k3⟩ := ho.slice
      generalize hn5 : ((m.drop k).drop 1).length = n5 at *
      have HN5 := Lib.hid hn5
      have HO := Lib.hid ho
      have HB1 := Lib.hid hb
      have E1 := Lib.hid (blk_below HI.out.b1 hb)
      obtain ⟨p0', p1', p2', z0', z1', z2', pl'⟩ := qf (blk_below HI.out.b0 hb)
      clear p0 p1 p2 z0 z1 z2 pl y0 y1 y2 x0 x1 x2 yl ho hb hn5
      go_upto_region 5 with fail
      have F1 := Lib.hid (blk_alloc (blk_far (blk_far (blk_far E1.out (p := ⟨w.heap.size, 0, none⟩) (by simp) (.int .i64 d)) (p := ⟨w.heap.size, 1, none⟩) (by simp) (.slice A3 n5 c3)) (p := ⟨w.heap.size, 2, none⟩) (by simp) (.int .i64 lost)) (.cells #[.int .i64 d, .slice A3 n5 c3, .int .i64 lost] 24))
      have HV := Lib.hid (((HT2.out.below HB1.out).set3 (q := w.heap.size) (fun b h => by have := HN2.out b h; omega) (.int .i64 d) (.slice A3 n5 c3) (.int .i64 lost)).below (balloc (Below.refl _ _) (.cells #[.int .i64 d, .slice A3 n5 c3, .int .i64 lost] 24)))
      have HSZ : Hid (w.heap.size + 1 + 1 + 1 + 1 ≤ ((((w1.setCell ⟨w.heap.size, 0, none⟩ (.int .i64 d)).setCell ⟨w.heap.size, 1, none⟩ (.slice A3 n5 c3)).setCell ⟨w.heap.size, 2, none⟩ (.int .i64 lost)).alloc (.cells #[.int .i64 d, .slice A3 n5 c3, .int .i64 lost] 24)).heap.size) := Lib.hid (by have h9 : w.heap.size + 1 + 1 + 1 < w1.heap.size := blk_lt (blk_below HI.out.b3 HB1.out); simp; omega)
      generalize hWe : ((((w1.setCell ⟨w.heap.size, 0, none⟩ (.int .i64 d)).setCell ⟨w.heap.size, 1, none⟩ (.slice A3 n5 c3)).setCell ⟨w.heap.size, 2, none⟩ (.int .i64 lost)).alloc (.cells #[.int .i64 d, .slice A3 n5 c3, .int .i64 lost] 24)) = W2 at *
      have HWe := Lib.hid hWe
      clear hWe p0' p1' p2' z0' z1' z2' pl'
      obtain ⟨y0, y1, y2, x0, x1, x2, yl⟩ := qf F1.out
      go_wp2_with ((with_reducible refine gate_builtin (b := .append) (xs := #[.tmp 33, .tmp 35]) rfl ?_); at_builtin; refine append_ev rfl (.tmp 33) (.tmp 35) rfl (v := .slice A2 n2 c2) rfl rfl (HV.out.below (balloc (Below.refl _ _) (.cells #[.int .i64 y] 3))) ((blk_cell (blk_new _ _) 0).trans rfl) (by have := HSZ.out; rw [alloc_size]; omega) (by have := hl2.out; simp only [List.length_append, List.length_take]; omega) ?_; intro v1 w3 ho hg hat; obtain ⟨A4, c4, rfl, k1, k2, k3⟩ := ho.slice; generalize (m' ++ m.take k ++ [y]).length = n6 at *; have HA := Lib.hid hat; have HG := Lib.hid hg; have HO4 := Lib.hid ho; obtain ⟨y0', y1', y2', x0', x1', x2', yl'⟩ := qf (blk_grown (blk_alloc F1.out _) hg (fun h => by have := HN2.out _ h.symm; omega)); clear ho hg hat)
      have hI := HI.out.step HH.out.1 HH.out.2 (by rw [HN5.out]; exact HO.out) HB1.out (by rw [HN5.out]; exact HWe.out.symm) HG.out (by rw [HY.out]; exact HO4.out) HA.out
      refine ⟨⟨_, _, _, _, Lib.hid hI⟩, ?_⟩
      rw [qlen_of hI.b0, qlen_of HI.out.b0]
      have h1 := HH.out.1
      simp only [List.length_drop]
      omega
    · have hk2 : k = movN m m' d' := by have := I.hk; unfold movN at this ⊢; omega
      have HK := Lib.hid hk2
      have hor : (m.drop k).length = 0 ∨ (0 < (m.drop k).length ∧ d' ≤ ((m' ++ m.take k).length : Int)) := by omega
      clear I h hL hT hk hk2
      obtain ⟨e0, e1, e2, f0, f1, f2, fl⟩ := qf HI.out.b2
      obtain ⟨g0, g1, g2, i0, i1, i2, il⟩ := qf HI.out.b3
      generalize hn1 : (m.drop k).length = n1 at *
      have HN1 := Lib.hid hn1
      clear hn1
      generalize (m' ++ m.take k).length = n2 at *
      rcases hor with hor | ⟨hp, hq⟩
      · subst hor
        go_upto_region 6 with fail
        go_region
        go_wp2_with fail
        obtain ⟨r2, r3, rf, rt, rb⟩ := HI.out.done HK.out (by rw [HN1.out])
        refine bodyPost_ret (results_list (rs := [.cell 4 24, .cell 5 24]) rfl (by simp) (.cell (w.heap.size + 1 + 1) 24 _ (0, 0) _ rfl r2 Try.underlying24 rfl (by kernel_rfl) (.cell (w.heap.size + 1 + 1 + 1) 24 _ (0, 0) _ rfl r3 Try.underlying24 rfl (by kernel_rfl) .nil))) rfl ?_
        rw [HK.out]
        exact ⟨_, _, _, rfl, rf, rt, rb⟩
      · have hp' : (0 : Int) < (n1 : Int) := by omega
        go_upto_region 6 with fail
        go_region
        go_wp2_with fail
        obtain ⟨r2, r3, rf, rt, rb⟩ := HI.out.done HK.out (by rw [HN1.out])
        refine bodyPost_ret (results_list (rs := [.cell 4 24, .cell 5 24]) rfl (by simp) (.cell (w.heap.size + 1 + 1) 24 _ (0, 0) _ rfl r2 Try.underlying24 rfl (by kernel_rfl) (.cell (w.heap.size + 1 + 1 + 1) 24 _ (0, 0) _ rfl r3 Try.underlying24 rfl (by kernel_rfl) .nil))) rfl ?_
        rw [HK.out]
        exact ⟨_, _, _, rfl, rf, rt, rb⟩
end Go.Proofs.Ytfeifmjihdfadaa.Port

/-
  What package ports' functions return: own, Send, Take, Move; slices.Clone. Rows of numbers of the call's own, whose slices may have been cut at their length.
  Conditions: the messages lie in memory as told.
-/
import Derived.Test.YtfeifmjihdfadaaRows
import Derived.WalkKit
import Derived.WalkSpells
import Derived.WalkLawsBesides
import Derived.LoopTactic
import Derived.Below
import Derived.BigQuiet
import Derived.Lib.Hide
import Derived.OwnWalk
import Derived.Deep.RegionLaw
import Derived.StillTailTactics
import Derived.Test.YtfeifmjihdfadaaWWords
import Derived.Test.YtfeifmjihdfadaaWMore
import Derived.Test.YtfeifmjihdfadaaWApart
import Derived.Test.YtfeifmjihdfadaaWInvWords
namespace Go.Proofs.Ytfeifmjihdfadaa.Port
set_option maxRecDepth 100000
set_option linter.unusedVariables false
set_option linter.unusedSimpArgs false
open Go.RowKit Go.Proofs.YtfeifmjihdfadaaW.PrintWords Go.Proofs.YtfeifmjihdfadaaW.PrintMore

theorem bcell {W w1 : World} (hb : Below W.heap.size W w1) {a : Addr} {v : Value} (hc : W.cell? a = some v) : w1.cell? a = some v := (hb.cell (World.block_lt_of_cell? W a hc)).trans hc
theorem btrans {w w1 w2 : World} (h : Below w.heap.size w w1) (k : Below w1.heap.size w1 w2) : Below w.heap.size w w2 :=
  h.trans ⟨k.os, k.tape, k.output, k.size, fun i hi => k.block i (Nat.lt_of_lt_of_le hi h.size)⟩
theorem balloc {w W : World} (h : Below w.heap.size w W) (o : Obj) : Below w.heap.size w (W.alloc o) := h.alloc h.size o
theorem bdrewN {s : Nat} {w W : World} (h : Below s w W) (n : Nat) : Below s w (W.drewN n) := ⟨h.os, h.tape, h.output, h.size, h.block⟩
theorem alloc_size (w : World) (o : Obj) : (w.alloc o).heap.size = w.heap.size + 1 := Array.size_push _
theorem two_blk (w : World) (o p : Obj) : ((w.alloc o).alloc p).heap[w.heap.size]? = some o ∧ ((w.alloc o).alloc p).heap[w.heap.size + 1]? = some p :=
  ⟨blk_alloc (blk_new _ _) _, by have := blk_new (w.alloc o) p; rwa [alloc_size] at this⟩
theorem four_blk (w : World) (o p q r : Obj) : ((((w.alloc o).alloc p).alloc q).alloc r).heap[w.heap.size]? = some o ∧ ((((w.alloc o).alloc p).alloc q).alloc r).heap[w.heap.size + 1]? = some p ∧
    ((((w.alloc o).alloc p).alloc q).alloc r).heap[w.heap.size + 1 + 1]? = some q ∧ ((((w.alloc o).alloc p).alloc q).alloc r).heap[w.heap.size + 1 + 1 + 1]? = some r := by
  have h := two_blk ((w.alloc o).alloc p) q r
  rw [alloc_size, alloc_size] at h
  exact ⟨blk_alloc (blk_alloc (two_blk w o p).1 _) _, blk_alloc (blk_alloc (two_blk w o p).2 _) _, h⟩
/-- A queue's block: its cells. -/
theorem qf {w : World} {g : Nat} {a b c : Value} (h : w.heap[g]? = some (.cells #[a, b, c] 24 (0, 0))) :
    w.cell? ⟨g, 0, none⟩ = some a ∧ w.cell? ⟨g, 1, none⟩ = some b ∧ w.cell? ⟨g, 2, none⟩ = some c ∧ w.frozen? ⟨g, 0, none⟩ = false ∧ w.frozen? ⟨g, 1, none⟩ = false ∧ w.frozen? ⟨g, 2, none⟩ = false ∧ g < w.heap.size :=
  ⟨blk_cell h 0, blk_cell h 1, blk_cell h 2, blk_frozen h 0, blk_frozen h 1, blk_frozen h 2, blk_lt h⟩
theorem put3 {s : Nat} {w W : World} (h : Below s w W) {q : Nat} (hq : s ≤ q) (a b c : Value) : Below s w (((W.setCell ⟨q, 0, none⟩ a).setCell ⟨q, 1, none⟩ b).setCell ⟨q, 2, none⟩ c) :=
  ((h.setCell hq a).setCell hq b).setCell hq c

/-! Rows of the call's own, cut or not -/
def Row (w : World) (base : Nat) (v : Value) (l : List Int) : Prop :=
  (v = .slice none 0 0 ∧ l = []) ∨
  ∃ g cap cur, v = .slice (some ⟨g, 0, none⟩) l.length cap ∧ base ≤ g ∧ w.heap[g]? = some (.cells cur 3 (0, 0)) ∧ l.length ≤ cap ∧ cap ≤ maxLen ∧ cap ≤ cur.size ∧ cur.toList.take l.length = l.map (Value.int .i64)
/-- What is read. -/
def Rd (w : World) (base : Nat) (v : Value) (l : List Int) : Prop :=
  ∃ A c, v = .slice A l.length c ∧ l.length ≤ c ∧ (A = none → c = 0) ∧ (Kd.int .i64).C w A l.length l ∧ ∀ ad, A = some ad → base ≤ ad.block ∧ ad.block < w.heap.size ∧ ad.spot = none ∧ ∃ cur, w.heap[ad.block]? = some (.cells cur 3 (0, 0))

theorem Row.lower {w : World} {base base' : Nat} {v : Value} {l : List Int} (h : Row w base v l) (hb : base' ≤ base) : Row w base' v l := by
  rcases h with h | ⟨g, cap, cur, h1, h2, h3⟩
  · exact .inl h
  · exact .inr ⟨g, cap, cur, h1, Nat.le_trans hb h2, h3⟩
theorem Row.move {w w1 : World} {base : Nat} {v : Value} {l : List Int} (h : Row w base v l) (hm : ∀ k, v.ownBlock = some k → w1.heap[k]? = w.heap[k]?) : Row w1 base v l := by
  rcases h with h | ⟨g, cap, cur, rfl, h2, h3, h4⟩
  · exact .inl h
  · exact .inr ⟨g, cap, cur, rfl, h2, (hm g (by simp [Value.ownBlock])).trans h3, h4⟩
theorem Row.lt {w : World} {base : Nat} {v : Value} {l : List Int} (h : Row w base v l) : ∀ k, v.ownBlock = some k → base ≤ k ∧ k < w.heap.size := by
  intro k hk
  rcases h with ⟨rfl, _⟩ | ⟨g, cap, cur, rfl, h2, h3, h4⟩
  · simp [Value.ownBlock] at hk
  · have : g = k := by simpa [Value.ownBlock] using hk
    subst this
    exact ⟨h2, (Array.getElem?_eq_some_iff.1 h3).1⟩
theorem Row.below {w w1 : World} {base : Nat} {v : Value} {l : List Int} (h : Row w base v l) (hb : Below w.heap.size w w1) : Row w1 base v l :=
  h.move fun k hk => hb.block k (h.lt k hk).2
theorem Row.grown {w w1 : World} {base : Nat} {v : Value} {l : List Int} {row : Option Nat} (h : Row w base v l) (hg : w.grownBy w1 row) (hr : ∀ k, v.ownBlock = some k → some k ≠ row) : Row w1 base v l :=
  h.move fun k hk => hg.block k (h.lt k hk).2 (hr k hk)
theorem Row.set {w : World} {base : Nat} {v : Value} {l : List Int} (h : Row w base v l) {q i : Nat} (hq : ∀ k, v.ownBlock = some k → k ≠ q) (u : Value) : Row (w.setCell ⟨q, i, none⟩ u) base v l :=
  h.move fun k hk => Below.heap_setCell w ⟨q, i, none⟩ u k (hq k hk)
theorem Row.set3 {w : World} {base : Nat} {v : Value} {l : List Int} (h : Row w base v l) {q : Nat} (hq : ∀ k, v.ownBlock = some k → k ≠ q) (a b c : Value) : Row (((w.setCell ⟨q, 0, none⟩ a).setCell ⟨q, 1, none⟩ b).setCell ⟨q, 2, none⟩ c) base v l :=
  ((h.set hq a).set hq b).set hq c
theorem Row.typed {w : World} {base : Nat} {v : Value} {l : List Int} (h : Row w base v l) : ∀ k, v.ownBlock = some k → ∃ cur, w.heap[k]? = some (.cells cur 3 (0, 0)) := by
  intro k hk
  rcases h with ⟨rfl, _⟩ | ⟨g, cap, cur, rfl, h2, h3, h4⟩
  · simp [Value.ownBlock] at hk
  · have : g = k := by simpa [Value.ownBlock] using hk
    subst this
    exact ⟨cur, h3⟩
theorem Row.slice {w : World} {base : Nat} {v : Value} {l : List Int} (h : Row w base v l) : ∃ A c, v = .slice A l.length c ∧ l.length ≤ c ∧ c ≤ maxLen ∧ (A = none → c = 0) := by
  rcases h with ⟨rfl, rfl⟩ | ⟨g, cap, cur, rfl, h2, h3, h4, h5, _⟩
  · exact ⟨none, 0, rfl, Nat.le_refl _, Nat.zero_le _, fun _ => rfl⟩
  · exact ⟨_, cap, rfl, h4, h5, fun h => by cases h⟩
theorem Row.of_R {w : World} {base : Nat} {ok : Nat → Prop} {v : Value} {l : List Int} (h : (Kd.int .i64).R 3 w base ok v l) : Row w base v l := by
  have ho := Kd.own_of_R h
  obtain ⟨h1, h2⟩ := ho
  rcases h2 with ⟨rfl, hn⟩ | ⟨g, cap, cur, rfl, hb, hg, hn, hm, hs, ht⟩
  · exact .inl ⟨rfl, List.eq_nil_of_length_eq_zero hn⟩
  · exact .inr ⟨g, cap, cur, rfl, hb, hg, hn, hm, by omega, by rw [Nat.mul_one] at ht; exact ht⟩
theorem Row.cells {w : World} {base : Nat} {A : Option Addr} {n c : Nat} {l : List Int} (h : Row w base (.slice A n c) l) : ∀ ad, A = some ad → ∀ j u, (l.map (Value.int .i64))[j]? = some u → w.cell? (ad.add j) = some u := by
  rintro ad rfl j u hu
  rcases h with ⟨h, _⟩ | ⟨g, cap, cur, he, hb, hg, hn, hm, hs, ht⟩
  · cases h
  · injection he with he1 he2 he3
    injection he1 with he1
    subst he1
    have hadd : (⟨g, 0, none⟩ : Addr).add j = ⟨g, j, none⟩ := by unfold Addr.add; split <;> simp_all
    rw [hadd, cell_of_row w g j cur _ (0, 0) hg]
    rw [← ht, List.getElem?_take] at hu
    split at hu
    · simpa using hu
    · cases hu
theorem Row.C {w : World} {base : Nat} {A : Option Addr} {n c : Nat} {l : List Int} (h : Row w base (.slice A n c) l) : (Kd.int .i64).C w A l.length l := by
  have hc := h.cells
  obtain ⟨A', c', he, h1, h2, _⟩ := h.slice
  injection he with he1 he2 he3
  subst he1 he2 he3
  have hm : maxLen = 9223372036854775807 := rfl
  refine ⟨rfl, by omega, fun hp => ?_⟩
  rcases h with ⟨h, rfl⟩ | ⟨g, cap, cur, he, _⟩
  · exact absurd hp (by simp)
  · injection he with he1
    subst he1
    refine ⟨_, rfl, fun j p hj => ⟨[.int .i64 p], rfl, rfl, fun i u hu => ?_⟩⟩
    have hi : i = 0 := by have := (List.getElem?_eq_some_iff.1 hu).1; simpa using this
    subst hi
    have hu' : u = .int .i64 p := by simpa using hu.symm
    subst hu'
    have hs : (Kd.int .i64).sz = 1 := rfl
    rw [hs, Nat.mul_one, Nat.add_zero]
    exact hc _ rfl j _ (by rw [List.getElem?_map, hj]; rfl)
theorem Row.rd {w : World} {base : Nat} {v : Value} {l : List Int} (h : Row w base v l) : Rd w base v l := by
  obtain ⟨A, c, rfl, h1, h2, h3⟩ := h.slice
  refine ⟨A, c, rfl, h1, h3, h.C, ?_⟩
  rintro ad rfl
  refine ⟨(h.lt ad.block (by simp [Value.ownBlock])).1, (h.lt ad.block (by simp [Value.ownBlock])).2, ?_, h.typed ad.block (by simp [Value.ownBlock])⟩
  rcases h with ⟨h, _⟩ | ⟨g, cap, cur, he, _⟩
  · cases h
  · injection he with he1
    injection he1 with he1
    subst he1
    rfl
theorem Row.cut {w : World} {base : Nat} {A : Option Addr} {n c : Nat} {l : List Int} (h : Row w base (.slice A n c) l) : Row w base (.slice A n n) l := by
  rcases h with ⟨h, rfl⟩ | ⟨g, cap, cur, he, hb, hg, hn, hm, hs, ht⟩
  · injection h with h1 h2 h3
    subst h1 h2 h3
    exact .inl ⟨rfl, rfl⟩
  · injection he with he1 he2 he3
    subst he1 he2 he3
    exact .inr ⟨g, _, cur, rfl, hb, hg, Nat.le_refl _, by omega, by omega, ht⟩
theorem Row.nil (w : World) (base : Nat) : Row w base (.slice none 0 0) [] := .inl ⟨rfl, rfl⟩

theorem own_empty (w : World) : (Kd.int .i64).R 3 (w.alloc (.cells #[] 3)) w.heap.size (fun _ => True) (.slice (some ⟨w.heap.size, 0, none⟩) 0 0) [] := by
  refine ⟨fun k hk => trivial, [], ?_, ?_⟩
  · have h2 := World.ownsRow_lit (base := w.heap.size) (e := 3) (size := (Kd.int .i64).sz) w #[] 0 (Nat.le_refl _) (by simp [maxLen]) (by simp)
    simpa using h2
  · exact ⟨by simp, fun j p hj => by simp at hj⟩

theorem clone_any (A : Option Addr) (c : Nat) (m : List Int) (w : World) (hr : (Kd.int .i64).C w A m.length m) (hc : m.length ≤ c) (hn : A = none → c = 0) (hl : m.length ≤ 1000000) :
    Calls Try.prog 18 #[.slice A m.length c] w fun e w' => ∃ v, e = .returned v ∧ Row w' w.heap.size v m ∧ Below w.heap.size w w' := by
  rcases A with _ | ad
  · obtain rfl := hn rfl
    obtain rfl : m = [] := List.eq_nil_of_length_eq_zero (by omega)
    have he : ∀ (w : World), (binOp .eql 22 (.slice none 0 0) (.slice none 0 0)).run Try.prog w = .ok (.bool true) w := fun _ => rfl
    simp only [List.length_nil]
    go_enter Try.func18, Try.ntmps18
    go_wp2_with fail
    go_ret
    exact ⟨_, rfl, Row.nil _ _, Below.refl _ _⟩
  have HR := Lib.hid hr
  have HL := Lib.hid hl
  have he : ∀ (n c : Nat) (w : World), (binOp .eql 22 (.slice (some ad) n c) (.slice none 0 0)).run Try.prog w = .ok (.bool false) w := fun _ _ _ => rfl
  clear hr hl hn
  have hi3 : (Try.prog.info? 3).map (fun i => (i.zero, i.size, i.bytes)) = some (some (.int .i64 0), 1, 8) := rfl
  go_enter Try.func18, Try.ntmps18
  go_wp2_with ((with_reducible refine gate_builtin (b := .append) (xs := #[.tmp 5, .tmp 6]) rfl ?_); at_builtin; refine Kd.R_append_rows (Kd.int .i64) (w0 := w) w.heap.size rfl (.tmp 5) (.tmp 6) 22 3 (.int .i64 0) 8 rfl Try.underlying22 hi3 rfl (by decide) (by omega) (.slice (some ⟨w.heap.size, 0, none⟩) 0 0) [] m _ _ _ (fun _ => True) (fun _ => False) rfl rfl (own_empty w) (Kd.C_below HR.out (balloc (Below.refl _ _) _)) (fun _ _ h => h) (fun _ h => h.elim) (fun _ _ => trivial) (balloc (Below.refl _ _) _) (by rw [alloc_size]; omega) (by have := HL.out; simp only [List.length_nil]; omega) ?_; intro v w1 ho hb hg hat)
  go_ret
  exact ⟨v, rfl, Row.of_R ho, hb⟩

theorem own_any (d lost : Int) (A : Option Addr) (c : Nat) (m : List Int) (w : World) (hr : (Kd.int .i64).C w A m.length m) (hc : m.length ≤ c) (hn : A = none → c = 0) (hl : m.length ≤ 1000000) :
    Calls Try.prog 17 #[.agg #[.int .i64 d, .slice A m.length c, .int .i64 lost]] w fun e w' => ∃ v, e = .returned (.agg #[.int .i64 d, v, .int .i64 lost]) ∧ Row w' w.heap.size v m ∧ Below w.heap.size w w' := by
  have HR := Lib.hid hr
  clear hr
  go_enter Try.func17, Try.ntmps17
  go_wp2_with fail
  refine (clone_any A c m _ (Kd.C_below HR.out (balloc (balloc (Below.refl _ _) _) _)) hc hn hl).mono ?_
  rintro e w1 ⟨v, rfl, ho, hb⟩
  have hb' := (btrans (balloc (balloc (Below.refl _ _) _) _) hb)
  rw [alloc_size, alloc_size] at ho
  have hlo := ho.lower (show w.heap.size ≤ w.heap.size + 1 + 1 by omega)
  have hne : ∀ k, v.ownBlock = some k → w.heap.size + 1 + 1 ≤ k := fun k hk => (ho.lt k hk).1
  have b0 := blk_below (two_blk w _ _).1 hb
  have b1 := blk_below (two_blk w _ _).2 hb
  obtain ⟨A', c', rfl, h1, h2, h3⟩ := hlo.slice
  have HO := Lib.hid hlo.cut
  have HB := Lib.hid hb'
  have HN := Lib.hid hne
  clear ho hb hb' hlo hne
  have hmx : (m.length : Int) ≤ (c' : Int) := by omega
  obtain ⟨p0, p1, p2, z0, z1, z2, pl⟩ := qf b0
  obtain ⟨y0, y1, y2, x0, x1, x2, yl⟩ := qf b1
  have hb2 := blk_put (blk_put (blk_put (blk_far b1 (p := ⟨w.heap.size, 1, none⟩) (by simp) (.slice A' m.length m.length)) 0 (.int .i64 d) rfl) 1 (.slice A' m.length m.length) rfl) 2 (.int .i64 lost) rfl
  have B2 := Lib.hid hb2
  clear b0 b1 hb2
  go_wp2_with fail
  refine bodyPost_ret (results_single rfl (.cell (w.heap.size + 1) 24 _ (0, 0) _ rfl B2.out Try.underlying24 rfl (by kernel_rfl) .nil)) rfl ?_
  have hne : ∀ k, (Value.slice A' m.length m.length).ownBlock = some k → w.heap.size + 1 + 1 ≤ k := fun k hk => HN.out k (by
    rcases A' with _ | ad
    · cases hk
    · exact hk)
  exact ⟨_, rfl, (HO.out.set (fun k hk => by have := hne k hk; omega) _).set3 (fun k hk => by have := hne k hk; omega) _ _ _, put3 (HB.out.setCell (Nat.le_refl _) _) (Nat.le_succ _) _ _ _⟩

/-! append of one number -/
theorem append_run (W : World) (base : Nat) (v : Value) (l : List Int) (ad : Addr) (c : Nat) (x : Int) (ty : TypeId) (HO : Row W base v l) (hx : W.cell? ad = some (.int .i64 x)) (hbase : base ≤ W.heap.size) (hl : l.length ≤ 1000000) :
    ∃ v1 w1, (Builtin.append_ #[22, 22] ty #[v, .slice (some ad) 1 c]).run Try.prog W = .ok v1 w1 ∧ Row w1 base v1 (l ++ [x]) ∧ W.grownBy w1 v.ownBlock ∧ (v1.ownBlock = v.ownBlock ∨ ∃ b, v1.ownBlock = some b ∧ W.heap.size ≤ b) := by
  have hi3 : (Try.prog.info? 3).map (fun i => (i.zero, i.size, i.bytes)) = some (some (.int .i64 0), 1, 8) := rfl
  obtain ⟨i0, hi, hzz⟩ := Option.map_eq_some_iff.1 hi3
  simp only [Prod.mk.injEq] at hzz
  obtain ⟨hz0, hz1, hz2⟩ := hzz
  have hnews : ∀ j u, ([.int .i64 x] : List Value)[j]? = some u → W.cell? (ad.add j) = some u := by
    intro j u hu
    have hj : j = 0 := by have := (List.getElem?_eq_some_iff.1 hu).1; simpa using this
    subst hj
    have hu' : u = .int .i64 x := by simpa using hu.symm
    subst hu'
    have hadd : ad.add 0 = ad := by unfold Addr.add; split <;> simp_all
    rw [hadd]; exact hx
  have hmx : maxLen = 9223372036854775807 := rfl
  have grown : ∀ (old : Nat), old < l.length + 1 → ∀ (row : Option Nat),
      Row (W.drew.alloc (.cells ((l.map (Value.int .i64)).toArray ++ [Value.int .i64 x].toArray ++ Builtin.zeroCells (Value.int .i64 0).cells (grownCap W (l.length + 1) old 3 - (l.length + 1))) 3)) base
        (.slice (some ⟨W.heap.size, 0, none⟩) (l.length + 1) (grownCap W (l.length + 1) old 3)) (l ++ [x]) ∧
      W.grownBy (W.drew.alloc (.cells ((l.map (Value.int .i64)).toArray ++ [Value.int .i64 x].toArray ++ Builtin.zeroCells (Value.int .i64 0).cells (grownCap W (l.length + 1) old 3 - (l.length + 1))) 3)) row := by
    intro old ho row
    have hge := grownCap_ge W (l.length + 1) old 3
    have hcm : grownCap W (l.length + 1) old 3 ≤ maxLen := grownCap_le_maxLen W (l.length + 1) old 3 (by omega)
    refine ⟨.inr ⟨W.heap.size, _, _, by simp, hbase, heap_alloc_new W.drew _, by simpa using hge, hcm, ?_, ?_⟩, ⟨rfl, rfl, rfl, by simp, fun k hk _ => heap_alloc_old W.drew _ hk⟩⟩
    · have hsz : (Value.int .i64 0).cells.size = 1 := rfl
      simp only [Array.size_append, List.size_toArray, size_zeroCells, hsz, List.length_map, List.length_singleton]
      omega
    · simp only [Array.toList_append, List.append_assoc, List.map_append, List.map_cons, List.map_nil]
      rw [← List.append_assoc, show (l ++ [x]).length = (l.map (Value.int .i64) ++ [Value.int .i64 x]).length by simp]
      exact List.take_left
  rcases HO with ⟨rfl, rfl⟩ | ⟨g, cap, cur, rfl, hb, hg, hn, hm, hs, ht⟩
  · have hr := run_append_nil (P := Try.prog) W 22 ty 3 i0 _ Try.underlying22 hi hz0 ad 1 c [.int .i64 x] (by simp [hz1]) hnews (by omega) (by omega) (by rw [hz2]; omega)
    have hgr := grown 0 (by simp) (Value.ownBlock (.slice none 0 0))
    simp only [List.length_nil, Nat.zero_add, List.map_nil, List.nil_append, Array.empty_append] at hgr ⊢
    exact ⟨_, _, hr, hgr.1, hgr.2, .inr ⟨_, rfl, Nat.le_refl _⟩⟩
  · have holds : ∀ j u, (l.map (Value.int .i64))[j]? = some u → W.cell? ((⟨g, 0, none⟩ : Addr).add j) = some u :=
      Row.cells (base := base) (n := l.length) (c := cap) (.inr ⟨g, cap, cur, rfl, hb, hg, hn, hm, hs, ht⟩) _ rfl
    by_cases hroom : l.length + 1 ≤ cap
    · have hr := run_append_room (P := Try.prog) W 22 ty 3 i0 Try.underlying22 hi g l.length cap cur hg ad 1 c [.int .i64 x] (by simp [hz1]) hnews (fun u hu => by obtain rfl := List.mem_singleton.1 hu; rfl) hroom (by simp [hz1]; omega)
      refine ⟨_, _, hr, .inr ⟨g, cap, _, by simp, hb, setRow_heap W g cur _ _ _ hg, by simpa using hroom, hm, ?_, ?_⟩, ⟨rfl, rfl, rfl, by simp, fun k _ hk => setRow_other W g k _ (fun e => hk (by simp [Value.ownBlock, e]))⟩, .inl rfl⟩
      · simp only [List.size_toArray, List.length_append, List.length_take, List.length_drop, Array.length_toList, hz1, List.length_singleton]
        omega
      · simp only [hz1, Nat.mul_one]
        rw [ht, show (l ++ [x]).length = (l.map (Value.int .i64) ++ [Value.int .i64 x]).length by simp, List.map_append]
        exact List.take_left
    · have hr := run_append_grow (P := Try.prog) W 22 ty 3 i0 _ Try.underlying22 hi hz0 ⟨g, 0, none⟩ l.length cap (l.map (Value.int .i64)) (by simp [hz1]) holds ad 1 c [.int .i64 x] (by simp [hz1]) hnews (by omega) (by omega) (growslice_fits (by omega) (by rw [hz2]; omega))
      have hgr := grown cap (by omega) (Value.ownBlock (.slice (some ⟨g, 0, none⟩) l.length cap))
      exact ⟨_, _, hr, hgr.1, hgr.2, .inr ⟨_, rfl, Nat.le_refl _⟩⟩

theorem append_ev {ops : Array Oper} {rest : List Oper} {o : Oper} {a : Act} {Q : Exit → Act → World → Prop} (hgd : o.guard = none) (s x : Operand) 
    (ho : o.op = .call { callee := .builtin .append, args := #[s, x], argTypes := #[22, 22] })
    {W : World} {base : Nat} {v : Value} {l : List Int} {ad : Addr} {c : Nat} {y : Int} (hs : a.eval s = v) (hx : a.eval x = .slice (some ad) 1 c) (HO : Row W base v l) (hy : W.cell? ad = some (.int .i64 y)) (hbase : base ≤ W.heap.size) (hl : l.length ≤ 1000000)
    (h : ∀ v1 w1, Row w1 base v1 (l ++ [y]) → W.grownBy w1 v.ownBlock → (v1.ownBlock = v.ownBlock ∨ ∃ b, v1.ownBlock = some b ∧ W.heap.size ≤ b) → wpList Try.prog ops Q rest (a.put o.dst v1) w1) :
    wpList Try.prog ops Q (o :: rest) a W := by
  obtain ⟨v1, w1, hr, h1, h2, h3⟩ := append_run W base v l ad c y o.type HO hy hbase hl
  refine wpList_plain hgd fun K hK => ?_
  unfold Oper.wp execOp
  simp only [ho, resolve, invoke, builtin, Sem.run_bind, Sem.run_pure, Result.andThen_ok, List.map_toArray, List.map_cons, List.map_nil, hs, hx, hr]
  exact hK _ _ (h v1 w1 h1 h2 h3)
theorem append_st {ops : Array Oper} {o : Oper} {a : Act} {K : Act → World → Prop} {Q : Exit → Act → World → Prop} {E : Prop} (hgd : o.guard = none) (s x : Operand)
    (ho : o.op = .call { callee := .builtin .append, args := #[s, x], argTypes := #[22, 22] })
    {W : World} {base : Nat} {v : Value} {l : List Int} {ad : Addr} {c : Nat} {y : Int} (hs : a.eval s = v) (hx : a.eval x = .slice (some ad) 1 c) (HO : Row W base v l) (hy : W.cell? ad = some (.int .i64 y)) (hbase : base ≤ W.heap.size) (hl : l.length ≤ 1000000)
    (h : ∀ v1 w1, Row w1 base v1 (l ++ [y]) → W.grownBy w1 v.ownBlock → (v1.ownBlock = v.ownBlock ∨ ∃ b, v1.ownBlock = some b ∧ W.heap.size ≤ b) → K (a.put o.dst v1) w1) :
    if Region.wanted o (yielded ops a.tmps) = true then Oper.wp Try.prog o a W K Q else E := by
  obtain ⟨v1, w1, hr, h1, h2, h3⟩ := append_run W base v l ad c y o.type HO hy hbase hl
  have hw : Region.wanted o (yielded ops a.tmps) = true := by simp [Region.wanted, hgd]
  rw [if_pos hw]
  unfold Oper.wp execOp
  simp only [ho, resolve, invoke, builtin, Sem.run_bind, Sem.run_pure, Result.andThen_ok, List.map_toArray, List.map_cons, List.map_nil, hs, hx, hr]
  exact h v1 w1 h1 h2 h3
end Go.Proofs.Ytfeifmjihdfadaa.Port

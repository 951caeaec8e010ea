/-
  quarterdeckref05.Step answers what cpu.Step answers.
  Conditions: the arguments lie in memory as told; the registers are of 64 bits; the regions are few and small; at most 1,000 words.
-/
import Derived.Test.YtlphgnfjemaliaaDoorRefStepL
import Derived.Test.YtlphgnfjemaliaaDoorRefStepS
import Derived.Test.YtlphgnfjemaliaaDoorRefStepK
namespace Go.Proofs.YtlphgnfjemaliaaDoor.RefAny
set_option maxRecDepth 100000
set_option linter.unusedVariables false
open Go.RowKit Go.Proofs.YtlphgnfjemaliaaDoorW.PrintWords Go.Proofs.YtlphgnfjemaliaaDoor.Mem Go.Proofs.YtlphgnfjemaliaaDoor.CpuA Go.Proofs.YtlphgnfjemaliaaDoor.CpuB Go.Proofs.YtlphgnfjemaliaaDoor.CpuC Go.Proofs.YtlphgnfjemaliaaDoor.CpuS Go.Proofs.YtlphgnfjemaliaaDoor.CpuL Go.Proofs.YtlphgnfjemaliaaDoor.PureC Go.Proofs.YtlphgnfjemaliaaDoor.RefStep

/-- The words that come back lie there. -/
def WordsAt (w : World) (v : Value) (m : List Int) : Prop := ∃ B d, v = .slice B m.length d ∧ m.length ≤ d ∧ (Kd.int .i64).C w B m.length m

/-- As 'WordsAt', and where the row lies: it is the one that was given, or a new one. -/
def WordsNew (w0 w : World) (M : Option Addr) (cm n : Nat) (v : Value) (m : List Int) : Prop :=
  ∃ B d, v = .slice B m.length d ∧ m.length ≤ d ∧ (Kd.int .i64).C w B m.length m ∧ (v = .slice M n cm ∨ (0 < m.length → ∃ b, B = some ⟨b, 0, none⟩ ∧ w0.heap.size ≤ b))

section
variable (cc : Core) (A : Option Addr) (c : Nat) (code : List (Int × Int × Int)) (w : World) (M : Option Addr) (cm : Nat) (m : List Int) (A' : Option Addr) (c' : Nat) (l : List PureC.S) (now : Int)
theorem ref_new (hc : CodeAt w A code) (hr : (Kd.int .i64).C w M m.length m) (hcm : m.length ≤ cm) (hm : m.length ≤ 1000) (hl : Kd.C Pr.k25 w A' l.length l) (hcl : l.length ≤ c') (hl1 : l.length ≤ 1000)
    (hfew : ∀ x ∈ l, x.f1 ≤ 200 ∧ x.f0 < 1000) (h64 : ∀ i, i < 4 → In64 (cc.r i)) :
    Calls Tryd.prog 13 #[.slice A code.length c, coreV cc, .slice M m.length cm, .slice A' l.length c', .int .i64 now] w fun e w' =>
      ∃ v, e = .returned (.tuple #[coreV (stepC code cc m (l.map rg_) now), v, outV (stepO code cc m (l.map rg_) now)]) ∧ WordsNew w w' M cm m.length v (stepM code cc m (l.map rg_) now) ∧ Below w.heap.size w w' := by
  -- a way that leaves the words as they are
  have same : ∀ (X : Core) (Y : Outc) (e : Ending) (w' : World), stepC code cc m (l.map rg_) now = X → stepO code cc m (l.map rg_) now = Y → stepM code cc m (l.map rg_) now = m →
      (e = .returned (.tuple #[coreV X, .slice M m.length cm, outV Y]) ∧ Below w.heap.size w w') →
      ∃ v, e = .returned (.tuple #[coreV (stepC code cc m (l.map rg_) now), v, outV (stepO code cc m (l.map rg_) now)]) ∧ WordsNew w w' M cm m.length v (stepM code cc m (l.map rg_) now) ∧ Below w.heap.size w w' := by
    intro X Y e w' h1 h2 h3 ⟨he, hb⟩
    rw [h1, h2, h3]
    exact ⟨_, he, ⟨M, cm, rfl, hcm, Kd.C_below hr hb, .inl rfl⟩, hb⟩
  by_cases hok : okAt cc.pc code = true
  · have hok' := hok
    unfold okAt at hok'
    simp only [Bool.and_eq_true, decide_eq_true_eq] at hok'
    obtain ⟨⟨h0, h1⟩, hmay⟩ := hok'
    obtain ⟨⟨op, a, b⟩, hi⟩ : ∃ i, code.getD cc.pc.toNat zI = i := ⟨_, rfl⟩
    rw [hi] at hmay
    simp only at hmay
    obtain ⟨f0, f1, f2, f3⟩ := CpuS.may_facts hmay
    obtain ⟨o, rfl⟩ : ∃ o : Nat, op = (o : Int) := ⟨op.toNat, by omega⟩
    obtain ⟨an, rfl⟩ : ∃ an : Nat, a = (an : Int) := ⟨a.toNat, by omega⟩
    have han : an < 4 := by omega
    have ho : o < 20 := by omega
    have eF : stepF code cc m (l.map rg_) now = faultOf o an b.toNat (machGo cc (.slice none 0 0) (.slice none 0 0) now) m (l.map rg_) := by
      unfold stepF nextI; rw [if_pos hok, hi]; simp only [Int.toNat_natCast]
    have eX : stepX code cc m (l.map rg_) now = machOf o an b.toNat b (machGo cc (.slice none 0 0) (.slice none 0 0) now) m (l.map rg_) := by
      unfold stepX nextI; rw [hi]; simp only [Int.toNat_natCast]
    have eM : stepF code cc m (l.map rg_) now = 0 → stepM code cc m (l.map rg_) now = memOf o an b.toNat (machGo cc (.slice none 0 0) (.slice none 0 0) now) m (l.map rg_) := fun h => by
      unfold stepM nextI; rw [if_pos h, hi]; simp only [Int.toNat_natCast]
    -- no fault, and the words as they are
    have good : ∀ X : Mach, stepF code cc m (l.map rg_) now = 0 → machOf o an b.toNat b (machGo cc (.slice none 0 0) (.slice none 0 0) now) m (l.map rg_) = X → stepC code cc m (l.map rg_) now = coreOf X ∧ stepO code cc m (l.map rg_) now = outOf X := fun X hf hX => by
      unfold stepC stepO; rw [if_pos hf, if_pos hf, eX, hX]; exact ⟨rfl, rfl⟩
    have bad : ∀ f, stepF code cc m (l.map rg_) now = f → f ≠ 0 → stepC code cc m (l.map rg_) now = cc ∧ stepO code cc m (l.map rg_) now = badOut f ∧ stepM code cc m (l.map rg_) now = m := fun f hf hn => by
      unfold stepC stepO stepM; rw [if_neg (by rw [hf]; exact hn), if_neg (by rw [hf]; exact hn), if_neg (by rw [hf]; exact hn), hf]; exact ⟨rfl, rfl, rfl⟩
    have mem : o ≠ 9 → stepF code cc m (l.map rg_) now = 0 → stepM code cc m (l.map rg_) now = m := fun h9 hf => by
      rw [eM hf]; unfold memOf; rw [if_neg h9]
    have cc1 : (⟨cc.pc + 1, cc.r⟩ : Core) = ⟨cc.pc + 1, cc.r⟩ := rfl
    -- what is reckoned
    have reck : ∀ v f : Int, (o ≠ 0 ∧ o ≠ 8 ∧ o ≠ 9 ∧ o ≠ 10 ∧ o ≠ 11 ∧ o ≠ 18 ∧ o ≠ 19) → recV o (cc.r an) (if 0 ≤ b ∧ b < 4 then cc.r b.toNat else 0) b = (v, f) → stepF code cc m (l.map rg_) now = f →
        (f = 0 → machOf o an b.toNat b (machGo cc (.slice none 0 0) (.slice none 0 0) now) m (l.map rg_) = (machGo cc (.slice none 0 0) (.slice none 0 0) now).setR an v) → (f ≠ 0 → 0 ≤ b ∧ b < 4) →
        Calls Tryd.prog 13 #[.slice A code.length c, coreV cc, .slice M m.length cm, .slice A' l.length c', .int .i64 now] w fun e w' =>
          ∃ v, e = .returned (.tuple #[coreV (stepC code cc m (l.map rg_) now), v, outV (stepO code cc m (l.map rg_) now)]) ∧ WordsNew w w' M cm m.length v (stepM code cc m (l.map rg_) now) ∧ Below w.heap.size w w' := by
      intro v f hno hrec hfl hX hfb
      have hy : In64 (if 0 ≤ b ∧ b < 4 then cc.r b.toNat else 0) := by
        split
        · exact h64 _ (by omega)
        · unfold In64; omega
      have hRe : ∀ W, Calls Tryd.prog 27 #[.int .i64 (o : Int), .int .i64 (cc.r an), .int .i64 (if 0 ≤ b ∧ b < 4 then cc.r b.toNat else 0), .int .i64 b] W fun e w' => e = .returned (.tuple #[.int .i64 v, .int .i64 f]) ∧ ∃ n, w' = W.drewN n := fun W => by
        obtain ⟨k, hk⟩ := (reckon_ev (o : Int) (cc.r an) _ b (h64 an han) hy).rounds
        rw [hrec] at hk
        exact (Pr.quarterdeckref05_reckon.calls k _ _ _ _ v f W hk).mono fun e w' ⟨h, ⟨n, h2⟩⟩ => ⟨h, n, h2⟩
      have hno' : (o : Int) ≠ 0 ∧ (o : Int) ≠ 8 ∧ (o : Int) ≠ 9 ∧ (o : Int) ≠ 10 ∧ (o : Int) ≠ 11 ∧ (o : Int) ≠ 18 ∧ (o : Int) ≠ 19 := by omega
      by_cases hz : f = 0
      · subst hz
        obtain ⟨g1, g2⟩ := good _ hfl (hX rfl)
        have g3 := mem hno.2.2.1 hfl
        by_cases hin : 0 ≤ b ∧ b < 4
        · exact (ref_reck_in cc A c code _ _ now w hc h0 h1 o an b hi hmay han hno' _ v rfl hRe hin).mono fun e w' h => same _ _ e w' g1 g2 g3 h
        · exact (ref_reck_out cc A c code _ _ now w hc h0 h1 o an b hi hmay han hno' _ v rfl hRe hin).mono fun e w' h => same _ _ e w' g1 g2 g3 h
      · obtain ⟨g1, g2, g3⟩ := bad f hfl hz
        exact (ref_reck_bad cc A c code _ _ now w hc h0 h1 o an b hi hmay han hno' _ v f rfl hz hRe (hfb hz)).mono fun e w' h => same _ _ e w' g1 g2 g3 h
    have two : isTwo o = true → 0 ≤ b ∧ b < 4 := fun h => CpuS.may_two hmay h
    have plain : o ≠ 6 → o ≠ 8 → o ≠ 9 → stepF code cc m (l.map rg_) now = 0 := fun h6 h8 h9 => by rw [eF]; unfold faultOf; rw [if_neg h6, if_neg h8, if_neg h9]
    have hcase : o = 0 ∨ o = 1 ∨ o = 2 ∨ o = 3 ∨ o = 4 ∨ o = 5 ∨ o = 6 ∨ o = 7 ∨ o = 8 ∨ o = 9 ∨ o = 10 ∨ o = 11 ∨ o = 12 ∨ o = 13 ∨ o = 14 ∨ o = 15 ∨ o = 16 ∨ o = 17 ∨ o = 18 ∨ o = 19 := by omega
    have hr2 : 0 ≤ b ∧ b < 4 → (if 0 ≤ b ∧ b < 4 then cc.r b.toNat else 0) = cc.r b.toNat := fun h => if_pos h
    rcases hcase with rfl | rfl | rfl | rfl | rfl | rfl | rfl | rfl | rfl | rfl | rfl | rfl | rfl | rfl | rfl | rfl | rfl | rfl | rfl | rfl
    · -- halt
      have hf := plain (by decide) (by decide) (by decide)
      obtain ⟨g1, g2⟩ := good _ hf rfl
      have hp : wrap64 (cc.pc + 1 - 1) = cc.pc := by have := hc.1; unfold wrap64; omega
      have g1' : stepC code cc m (l.map rg_) now = cc := by
        rw [g1]
        show (⟨wrap64 (cc.pc + 1 - 1), cc.r⟩ : Core) = cc
        rw [hp]
      exact (ref_halt cc A c code _ _ now w hc h0 h1 _ an b hi hmay han rfl).mono fun e w' h => same _ _ e w' g1' g2 (mem (by decide) hf) h
    · exact reck _ 0 (by decide) rfl (plain (by decide) (by decide) (by decide)) (fun _ => rfl) (fun h => absurd rfl h)
    · exact reck _ 0 (by decide) (by rw [hr2 (two rfl)]; rfl) (plain (by decide) (by decide) (by decide)) (fun _ => rfl) (fun h => absurd rfl h)
    · exact reck _ 0 (by decide) (by rw [hr2 (two rfl)]; rfl) (plain (by decide) (by decide) (by decide)) (fun _ => rfl) (fun h => absurd rfl h)
    · exact reck _ 0 (by decide) (by rw [hr2 (two rfl)]; rfl) (plain (by decide) (by decide) (by decide)) (fun _ => rfl) (fun h => absurd rfl h)
    · exact reck _ 0 (by decide) (by rw [hr2 (two rfl)]; rfl) (plain (by decide) (by decide) (by decide)) (fun _ => rfl) (fun h => absurd rfl h)
    · exact reck _ _ (by decide) (by rw [hr2 (two rfl)]; rfl) eF (fun _ => rfl) (fun _ => two rfl)
    · exact reck _ 0 (by decide) (by rw [hr2 (two rfl)]; rfl) (plain (by decide) (by decide) (by decide)) (fun _ => rfl) (fun h => absurd rfl h)
    · -- load
      obtain ⟨bn, rfl⟩ : ∃ bn : Nat, b = (bn : Int) := ⟨b.toNat, by have := two rfl; omega⟩
      have hb4 : bn < 4 := by have := two rfl; omega
      rw [Int.toNat_natCast] at eF good eX eM
      have eF' : stepF code cc m (l.map rg_) now = if wrongN m.length (l.map rg_) (cc.r bn) false = 0 then 0 else 5 := eF
      obtain ⟨k, hk⟩ := (refload_ev m l hl1 (cc.r bn)).rounds
      rw [← wrong_ref m.length l (cc.r bn) false hm hfew] at hk
      have hLd : ∀ W, Below w.heap.size w W → _ := fun W hb => Pr.quarterdeckref03_Load.calls k M cm m A' c' l (cc.r bn) _ _ W (Kd.C_below hr hb) hcm (Kd.C_below hl hb) hcl hk
      by_cases hw : wrongN m.length (l.map rg_) (cc.r bn) false = 0
      · rw [if_pos hw] at eF'
        simp only [hw, if_true] at hLd
        have hv : loadV m (l.map rg_) (cc.r bn) = rd m (cc.r bn) := by unfold loadV; rw [if_pos hw]
        obtain ⟨g1, g2⟩ := good _ eF' rfl
        have g1' : stepC code cc m (l.map rg_) now = ⟨cc.pc + 1, upd cc.r an (rd m (cc.r bn))⟩ := by rw [g1, ← hv]; rfl
        have g2' : stepO code cc m (l.map rg_) now = ⟨0, -1, false, true, rd m (cc.r bn)⟩ := by rw [g2, ← hv]; rfl
        exact (ref_load cc A c code _ _ now w hc h0 h1 _ an bn hi hmay han rfl hb4 _ hLd).mono fun e w' h => same _ _ e w' g1' g2' (mem (by decide) eF') h
      · rw [if_neg hw] at eF'
        simp only [if_neg hw] at hLd
        obtain ⟨g1, g2, g3⟩ := bad 5 eF' (by decide)
        exact (ref_load_bad cc A c code _ _ now w hc h0 h1 _ an bn hi hmay han rfl hb4 _ hw hLd).mono fun e w' h => same _ _ e w' g1 g2 g3 h
    · -- store
      obtain ⟨bn, rfl⟩ : ∃ bn : Nat, b = (bn : Int) := ⟨b.toNat, by have := two rfl; omega⟩
      have hb4 : bn < 4 := by have := two rfl; omega
      rw [Int.toNat_natCast] at eF good eX eM
      have eF' : stepF code cc m (l.map rg_) now = if wrongN m.length (l.map rg_) (cc.r bn) true = 0 then 0 else 5 := eF
      obtain ⟨k, hk⟩ := (refstore_ev m hm l hl1 (cc.r bn) (cc.r an)).rounds
      rw [← wrong_ref m.length l (cc.r bn) true hm hfew] at hk
      have hSt : ∀ W, Below w.heap.size w W → _ := fun W hb => Pr.quarterdeckref03_Store.calls k M cm m A' c' l (cc.r bn) (cc.r an) _ _ W (Kd.C_below hr hb) hcm (Kd.C_below hl hb) hcl hk
      by_cases hw : wrongN m.length (l.map rg_) (cc.r bn) true = 0
      · rw [if_pos hw] at eF'
        simp only [hw, if_true] at hSt
        obtain ⟨g1, g2⟩ := good _ eF' rfl
        have g3 : stepM code cc m (l.map rg_) now = m.set (cc.r bn).toNat (cc.r an) := by
          rw [eM eF']
          show storeV m (l.map rg_) (cc.r bn) (cc.r an) = _
          unfold storeV
          rw [if_pos hw]
        refine (ref_store cc A c code _ _ now w hc h0 h1 _ an bn hi hmay han rfl hb4 _ hSt).mono ?_
        rintro e w' ⟨v, he, hR, hb⟩
        rw [g1, g2, g3]
        obtain ⟨B, d, hv, hd, hC⟩ := Kd.R_reads hR
        refine ⟨v, he, ⟨B, d, hv, hd, hC, .inr fun hn => ?_⟩, hb⟩
        subst hv
        obtain ⟨b, rfl⟩ : ∃ b, B = some ⟨b, 0, none⟩ := by
          obtain ⟨g, cap, hg⟩ := Kd.R_slice1 hR hn
          simp only [Value.slice.injEq] at hg
          obtain ⟨rfl, _, rfl⟩ := hg
          exact (Kd.R_head hR).imp fun b h => by rw [h]
        exact ⟨b, rfl, Kd.R_base hR b (by simp [Value.ownBlock])⟩
      · rw [if_neg hw] at eF'
        simp only [if_neg hw] at hSt
        obtain ⟨g1, g2, g3⟩ := bad 5 eF' (by decide)
        exact (ref_store_bad cc A c code _ _ now w hc h0 h1 _ an bn hi hmay han rfl hb4 _ _ hw hSt).mono fun e w' h => same _ _ e w' g1 g2 g3 h
    · have hf := plain (by decide) (by decide) (by decide)
      obtain ⟨g1, g2⟩ := good _ hf rfl
      exact (ref_jump cc A c code _ _ now w hc h0 h1 _ an b hi hmay han rfl).mono fun e w' h => same _ _ e w' g1 g2 (mem (by decide) hf) h
    · have hf := plain (by decide) (by decide) (by decide)
      obtain ⟨g1, g2⟩ := good _ hf rfl
      by_cases hz : cc.r an = 0
      · have g1' : stepC code cc m (l.map rg_) now = ⟨b, cc.r⟩ := by
          rw [g1]; show coreOf (if cc.r an = 0 then _ else _) = _; rw [if_pos hz]; rfl
        have g2' : stepO code cc m (l.map rg_) now = out0 := by
          rw [g2]; show outOf (if cc.r an = 0 then _ else _) = _; rw [if_pos hz]; rfl
        exact (ref_zero_z cc A c code _ _ now w hc h0 h1 _ an b hi hmay han rfl hz).mono fun e w' h => same _ _ e w' g1' g2' (mem (by decide) hf) h
      · have g1' : stepC code cc m (l.map rg_) now = ⟨cc.pc + 1, cc.r⟩ := by
          rw [g1]; show coreOf (if cc.r an = 0 then _ else _) = _; rw [if_neg hz]; rfl
        have g2' : stepO code cc m (l.map rg_) now = out0 := by
          rw [g2]; show outOf (if cc.r an = 0 then _ else _) = _; rw [if_neg hz]; rfl
        exact (ref_zero_n cc A c code _ _ now w hc h0 h1 _ an b hi hmay han rfl hz).mono fun e w' h => same _ _ e w' g1' g2' (mem (by decide) hf) h
    · exact reck _ 0 (by decide) rfl (plain (by decide) (by decide) (by decide)) (fun _ => rfl) (fun h => absurd rfl h)
    · exact reck _ 0 (by decide) rfl (plain (by decide) (by decide) (by decide)) (fun _ => rfl) (fun h => absurd rfl h)
    · exact reck _ 0 (by decide) rfl (plain (by decide) (by decide) (by decide)) (fun _ => rfl) (fun h => absurd rfl h)
    · exact reck _ 0 (by decide) (by rw [hr2 (two rfl)]; rfl) (plain (by decide) (by decide) (by decide)) (fun _ => rfl) (fun h => absurd rfl h)
    · exact reck _ 0 (by decide) rfl (plain (by decide) (by decide) (by decide)) (fun _ => rfl) (fun h => absurd rfl h)
    · exact reck _ 0 (by decide) rfl (plain (by decide) (by decide) (by decide)) (fun _ => rfl) (fun h => absurd rfl h)
    · have hf := plain (by decide) (by decide) (by decide)
      obtain ⟨g1, g2⟩ := good _ hf rfl
      exact (ref_clock cc A c code _ _ now w hc h0 h1 _ an b hi hmay han rfl).mono fun e w' h => same _ _ e w' g1 g2 (mem (by decide) hf) h
    · have hf := plain (by decide) (by decide) (by decide)
      obtain ⟨g1, g2⟩ := good _ hf rfl
      exact (ref_call cc A c code _ _ now w hc h0 h1 _ an b hi hmay han rfl).mono fun e w' h => same _ _ e w' g1 g2 (mem (by decide) hf) h
  · have eF : stepF code cc m (l.map rg_) now = 4 := by unfold stepF; rw [if_neg hok]
    have g1 : stepC code cc m (l.map rg_) now = cc := by unfold stepC; rw [if_neg (by rw [eF]; decide)]
    have g2 : stepO code cc m (l.map rg_) now = ⟨4, -1, false, false, 0⟩ := by unfold stepO; rw [if_neg (by rw [eF]; decide), eF]; rfl
    have g3 : stepM code cc m (l.map rg_) now = m := by unfold stepM; rw [if_neg (by rw [eF]; decide)]
    by_cases hp : cc.pc < 0 ∨ (code.length : Int) ≤ cc.pc
    · exact (ref_low cc A code.length c _ _ now w hp).mono fun e w' h => same _ _ e w' g1 g2 g3 h
    · have hmay : Instr.mayB (code.getD cc.pc.toNat zI).1 (code.getD cc.pc.toNat zI).2.1 (code.getD cc.pc.toNat zI).2.2 = false := by
        rw [Bool.eq_false_iff]
        intro hm
        refine hok ?_
        unfold okAt
        rw [hm]
        simp
        omega
      exact (ref_no cc A c code _ _ now w hc (by omega) (by omega) _ _ _ rfl hmay).mono fun e w' h => same _ _ e w' g1 g2 g3 h
theorem ref_any (hc : CodeAt w A code) (hr : (Kd.int .i64).C w M m.length m) (hcm : m.length ≤ cm) (hm : m.length ≤ 1000) (hl : Kd.C Pr.k25 w A' l.length l) (hcl : l.length ≤ c') (hl1 : l.length ≤ 1000)
    (hfew : ∀ x ∈ l, x.f1 ≤ 200 ∧ x.f0 < 1000) (h64 : ∀ i, i < 4 → In64 (cc.r i)) :
    Calls Tryd.prog 13 #[.slice A code.length c, coreV cc, .slice M m.length cm, .slice A' l.length c', .int .i64 now] w fun e w' =>
      ∃ v, e = .returned (.tuple #[coreV (stepC code cc m (l.map rg_) now), v, outV (stepO code cc m (l.map rg_) now)]) ∧ WordsAt w' v (stepM code cc m (l.map rg_) now) ∧ Below w.heap.size w w' :=
  (ref_new cc A c code w M cm m A' c' l now hc hr hcm hm hl hcl hl1 hfew h64).mono fun e w' ⟨v, he, ⟨B, d, h1, h2, h3, _⟩, hb⟩ => ⟨v, he, ⟨B, d, h1, h2, h3⟩, hb⟩
end
end Go.Proofs.YtlphgnfjemaliaaDoor.RefAny

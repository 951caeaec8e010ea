/-
  The walks of package real: what each of its functions returns, in whole numbers. Conditions: the arguments are
  64-bit numbers.
-/
import Derived.Test.YtlphgnfjemaliaaDoorFlt
import Derived.Test.YtlphgnfjemaliaaDoorRows
import Derived.WalkKit
import Derived.WalkSpells
import Derived.WalkLawsBesides
import Derived.Laws.FloatArith
import Derived.Laws.Externs
import Derived.Lib.Hide
namespace Go.Proofs.YtlphgnfjemaliaaDoor.RealW
open Go.RowKit Go.Proofs.YtlphgnfjemaliaaDoor.Flt

theorem enters_frombits (n : Int) (w : World) : (callFunc 76 #[.int .u64 n]).run Tryd.prog w = .ok (.value (.float .f64 n.toNat)) w := by
  rw [run_callFunc_extern (e := Extern.MathFloatBits.float64frombits) Tryd.func76 (by kernel_rfl) (by kernel_rfl) (by kernel_rfl) (by kernel_rfl)]
  rfl
theorem enters_bits (n : Nat) (w : World) : (callFunc 77 #[.float .f64 n]).run Tryd.prog w = .ok (.value (.int .u64 n)) w := by
  rw [run_callFunc_extern (e := Extern.MathFloatBits.float64bits) Tryd.func77 (by kernel_rfl) (by kernel_rfl) (by kernel_rfl) (by kernel_rfl)]
  rfl

/-- The 64 bits of a whole number, as a natural number. -/
def U (x : Int) : Nat := (IntKind.u64.wrap x).toNat
theorem U_lt (x : Int) : U x < 18446744073709551616 := by
  unfold U; rw [IntKind.wrap_u64]; omega

def nanN (n : Nat) : Bool := decide (9218868437227405312 < rg n)

theorem order_self (n : Nat) (h : n < 18446744073709551616) : (Ieee.double.order n n != some .eq) = nanN n := by
  rw [order_eq n n h h]
  unfold nanN
  by_cases hn : 9218868437227405312 < rg n
  · rw [if_pos (Or.inl hn)]; simp [hn]
  · rw [if_neg (by omega)]
    have : compare (placeN n) (placeN n) = .eq := by rw [Int.compare_eq_eq]
    rw [this]; simp [hn]

theorem number_any (x : Int) (w : World) :
    Calls Tryd.prog 70 #[.int .i64 x] w fun e w' => e = .returned (.float .f64 (U x)) ∧ w = w' := by
  have h1 := fun n w => enters_frombits n w
  go_enter Tryd.func70, Tryd.ntmps70
  go_wp2
  go_ret
  exact ⟨rfl, rfl⟩

theorem isnan_any (n : Nat) (h : n < 18446744073709551616) (w : World) :
    Calls Tryd.prog 73 #[.float .f64 n] w fun e w' => e = .returned (.bool (nanN n)) ∧ w = w' := by
  have H := Lib.hid (order_self n h)
  clear h
  go_enter Tryd.func73, Tryd.ntmps73
  go_wp2
  go_ret
  exact ⟨by rw [← H.out]; rfl, rfl⟩

theorem bits_nan (n : Nat) (h : n < 18446744073709551616) (hn : nanN n = true) (w : World) :
    Calls Tryd.prog 72 #[.float .f64 n] w fun e w' => e = .returned (.int .i64 9221120237041090560) ∧ w = w' := by
  have H := Lib.hid h
  clear h
  go_enter Tryd.func72, Tryd.ntmps72
  go_wp2_with (go_at_call 73; refine (isnan_any _ H.out _).mono ?_; rintro e w' ⟨rfl, rfl⟩)
  go_ret
  exact ⟨rfl, rfl⟩

theorem bits_num (n : Nat) (h : n < 18446744073709551616) (hn : nanN n = false) (w : World) :
    Calls Tryd.prog 72 #[.float .f64 n] w fun e w' => e = .returned (.int .i64 (wrap64 n)) ∧ w = w' := by
  have h1 := fun n w => enters_bits n w
  have H := Lib.hid h
  clear h
  go_enter Tryd.func72, Tryd.ntmps72
  go_wp2_with (go_at_call 73; refine (isnan_any _ H.out _).mono ?_; rintro e w' ⟨rfl, rfl⟩)
  go_wp2
  go_ret
  exact ⟨rfl, rfl⟩

def bitsI (n : Nat) : Int := if nanN n = true then 9221120237041090560 else wrap64 n
theorem bitsI_nan {n : Nat} (h : nanN n = true) : bitsI n = 9221120237041090560 := by unfold bitsI; rw [if_pos h]
theorem bitsI_num {n : Nat} (h : nanN n = false) : bitsI n = wrap64 n := by unfold bitsI; rw [if_neg (by rw [h]; decide)]
theorem bits_any (n : Nat) (h : n < 18446744073709551616) (w : World) :
    Calls Tryd.prog 72 #[.float .f64 n] w fun e w' => e = .returned (.int .i64 (bitsI n)) ∧ w = w' := by
  cases hn : nanN n
  · rw [bitsI_num hn]; exact bits_num n h hn w
  · rw [bitsI_nan hn]; exact bits_nan n h hn w

theorem below_any (x y : Int) (w : World) :
    Calls Tryd.prog 53 #[.int .i64 x, .int .i64 y] w fun e w' => e = .returned (.bool (Ieee.double.order (U x) (U y) == some .lt)) ∧ w = w' := by
  go_enter Tryd.func53, Tryd.ntmps53
  go_wp2_with (go_at_call 70; refine (number_any _ _).mono ?_; rintro e w' ⟨rfl, rfl⟩)
  go_ret
  exact ⟨rfl, rfl⟩

theorem flip_any (x : Int) (w : World) :
    Calls Tryd.prog 58 #[.int .i64 x] w fun e w' => e = .returned (.int .i64 (bitsI (U x ^^^ 9223372036854775808))) ∧ w = w' := by
  have H := Lib.hid (show U x ^^^ 9223372036854775808 < 18446744073709551616 from Nat.xor_lt_two_pow (n := 64) (U_lt x) (by omega))
  have h3 : ∀ (n : Nat) (w : World), (Op.unary .neg (.float .f64 n)).run Tryd.prog w = .ok (.float .f64 (n ^^^ 9223372036854775808)) w := fun _ _ => rfl
  go_enter Tryd.func58, Tryd.ntmps58
  go_wp2_with (first
    | (go_at_call 70; refine (number_any _ _).mono ?_; rintro e w' ⟨rfl, rfl⟩)
    | (go_at_call 72; refine (bits_any _ H.out _).mono ?_; rintro e w' ⟨rfl, rfl⟩))
  go_ret
  exact ⟨rfl, rfl⟩

/-- The bits that the tape gives for a number that is none. -/
theorem nan_cut (q t : Nat) (h : q = Question.cut (.nanBits .f64 0 0) t) : q < 18446744073709551616 ∧ nanN q = true := by
  have e : q = t % 2 * 9223372036854775808 + 9218868437227405312 + 1 + t / 2 % 4503599627370495 := h
  have hs : t % 2 < 2 := Nat.mod_lt _ (by omega)
  have hf : t / 2 % 4503599627370495 < 4503599627370495 := Nat.mod_lt _ (by omega)
  generalize t % 2 = s at *
  generalize t / 2 % 4503599627370495 = f at *
  unfold nanN rg
  refine ⟨by omega, ?_⟩
  rw [decide_eq_true_iff]
  rcases (show s = 0 ∨ s = 1 by omega) with rfl | rfl
  · rw [show q = 9218868437227405312 + 1 + f by omega, Nat.mod_eq_of_lt (by omega)]; omega
  · rw [show q = (9218868437227405312 + 1 + f) + 9223372036854775808 by omega, Nat.add_mod_right, Nat.mod_eq_of_lt (by omega)]; omega

theorem run_arith_some (op : BinOp) (t : TypeId) (x y r : Nat) (h : floatBits op .f64 x y = some r) (w : World) : (binOp op t (.float .f64 x) (.float .f64 y)).run Tryd.prog w = .ok (.float .f64 r) w :=
  run_float_arith w op t .f64 x y r h

theorem run_arith_none (op : BinOp) (t : TypeId) (x y : Nat) (ho : op = .quo ∨ op = .mul) (h : floatBits op .f64 x y = none) (w : World) :
    ∃ r, r < 18446744073709551616 ∧ nanN r = true ∧ (binOp op t (.float .f64 x) (.float .f64 y)).run Tryd.prog w = .ok (.float .f64 r) w.drew := by
  refine ⟨Question.cut (.nanBits .f64 x y) (w.tape w.drawn (.nanBits .f64 x y)), ?_, ?_, ?_⟩
  · exact (nan_cut _ _ rfl).1
  · exact (nan_cut _ _ rfl).2
  · unfold floatBits at h
    rcases ho with rfl | rfl
    · simp only at h
      simp [binOp, Op.floatArith, h, Question.forced]
    · simp only at h
      simp [binOp, Op.floatArith, h, Question.forced]

theorem half_some (x : Int) (r : Nat) (hr : r < 18446744073709551616) (h : Ieee.double.div (U x) 4611686018427387904 = some r) (w : World) :
    Calls Tryd.prog 56 #[.int .i64 x] w fun e w' => e = .returned (.int .i64 (bitsI r)) ∧ w = w' := by
  have h1 := fun w => run_arith_some .quo 90 (U x) 4611686018427387904 r h w
  have H := Lib.hid hr
  clear h hr
  go_enter Tryd.func56, Tryd.ntmps56
  go_wp2_with (first
    | (go_at_call 70; refine (number_any _ _).mono ?_; rintro e w' ⟨rfl, rfl⟩)
    | (go_at_call 72; refine (bits_any _ H.out _).mono ?_; rintro e w' ⟨rfl, rfl⟩))
  go_ret
  exact ⟨rfl, rfl⟩

theorem half_none (x : Int) (h : Ieee.double.div (U x) 4611686018427387904 = none) (w : World) :
    Calls Tryd.prog 56 #[.int .i64 x] w fun e w' => e = .returned (.int .i64 9221120237041090560) ∧ w.drew = w' := by
  obtain ⟨r, hr, hn, h1⟩ := run_arith_none .quo 90 (U x) 4611686018427387904 (.inl rfl) h w
  have H := Lib.hid hr
  clear h hr
  go_enter Tryd.func56, Tryd.ntmps56
  go_wp2_with (first
    | (go_at_call 70; refine (number_any _ _).mono ?_; rintro e w' ⟨rfl, rfl⟩)
    | (go_at_call 72; refine (bits_nan _ H.out hn _).mono ?_; rintro e w' ⟨rfl, rfl⟩))
  go_ret
  exact ⟨rfl, rfl⟩

theorem twice_some (x : Int) (r : Nat) (hr : r < 18446744073709551616) (h : Ieee.double.mul (U x) 4611686018427387904 = some r) (w : World) :
    Calls Tryd.prog 57 #[.int .i64 x] w fun e w' => e = .returned (.int .i64 (bitsI r)) ∧ w = w' := by
  have h1 := fun w => run_arith_some .mul 90 (U x) 4611686018427387904 r h w
  have H := Lib.hid hr
  clear h hr
  go_enter Tryd.func57, Tryd.ntmps57
  go_wp2_with (first
    | (go_at_call 70; refine (number_any _ _).mono ?_; rintro e w' ⟨rfl, rfl⟩)
    | (go_at_call 72; refine (bits_any _ H.out _).mono ?_; rintro e w' ⟨rfl, rfl⟩))
  go_ret
  exact ⟨rfl, rfl⟩

theorem twice_none (x : Int) (h : Ieee.double.mul (U x) 4611686018427387904 = none) (w : World) :
    Calls Tryd.prog 57 #[.int .i64 x] w fun e w' => e = .returned (.int .i64 9221120237041090560) ∧ w.drew = w' := by
  obtain ⟨r, hr, hn, h1⟩ := run_arith_none .mul 90 (U x) 4611686018427387904 (.inr rfl) h w
  have H := Lib.hid hr
  clear h hr
  go_enter Tryd.func57, Tryd.ntmps57
  go_wp2_with (first
    | (go_at_call 70; refine (number_any _ _).mono ?_; rintro e w' ⟨rfl, rfl⟩)
    | (go_at_call 72; refine (bits_nan _ H.out hn _).mono ?_; rintro e w' ⟨rfl, rfl⟩))
  go_ret
  exact ⟨rfl, rfl⟩

/-- 'n' brought between '-2^53' and '2^53'. -/
def mxC (n : Int) : Int := if n < -9007199254740992 then -9007199254740992 else n
def mnC (n : Int) : Int := if 9007199254740992 < n then 9007199254740992 else n
def ofBits (n : Int) : Nat := Ieee.double.nearest (n < 0) n.natAbs 0
theorem ofBits_lt (n : Int) : ofBits n < 18446744073709551616 := Ieee.Format.nearest_lt _ _ _ _
theorem run_max (n : Int) (w : World) : (Builtin.max_ #[3, 3] 3 #[.int .i64 n, .int .i64 (-9007199254740992)]).run Tryd.prog w = .ok (.int .i64 (mxC n)) w := by
  simp only [Builtin.max_, List.foldlM_cons, List.foldlM_nil, Builtin.max2, gt_iff_lt]; rfl
theorem run_min (n : Int) (w : World) : (Builtin.min_ #[3, 3] 3 #[.int .i64 n, .int .i64 9007199254740992]).run Tryd.prog w = .ok (.int .i64 (mnC n)) w := by
  simp only [Builtin.min_, List.foldlM_cons, List.foldlM_nil, Builtin.min2]; rfl
theorem run_tofloat (n : Int) (w : World) : (convert 3 90 (.int .i64 n)).run Tryd.prog w = .ok (.float .f64 (ofBits n)) w := by
  simp [convert, run_underlying Tryd.underlying3, run_underlying Tryd.underlying90, Conv.intToFloat]; rfl

theorem of_any (n : Int) (w : World) :
    Calls Tryd.prog 59 #[.int .i64 n] w fun e w' => e = .returned (.int .i64 (bitsI (ofBits (mnC (mxC n))))) ∧ w = w' := by
  have H := Lib.hid (ofBits_lt (mnC (mxC n)))
  have h1 := fun n w => run_max n w
  have h2 := fun n w => run_min n w
  have h3 := fun n w => run_tofloat n w
  go_enter Tryd.func59, Tryd.ntmps59
  go_wp2_with (first
    | (go_at_call 72; refine (bits_any _ H.out _).mono ?_; rintro e w' ⟨rfl, rfl⟩))
  go_ret
  exact ⟨rfl, rfl⟩

/-! ### The whole part -/
/-- What Trunc gives of a number below 2^53 in size. -/
def truncN (n : Nat) : Nat := Ieee.double.word (sg n) (ofN (intN (rg n)))
theorem truncN_lt (n : Nat) : truncN n < 18446744073709551616 := by
  have h := ofN_lt (intN (rg n)) (intN_lt _)
  exact (sg_word (sg n) (ofN (intN (rg n))) (by omega)).2.2

theorem enters_trunc (n : Nat) (hn : n < 18446744073709551616) (h : rg n < 4845873199050653696) (w : World) :
    (callFunc 78 #[.float .f64 n]).run Tryd.prog w = .ok (.value (.float .f64 (truncN n))) w := by
  have hr : FloatKind.f64.decode n = .number (sg n) (mg (rg n)) (pl (rg n)) := by
    show Ieee.double.read n = _
    rw [read_eq n hn, if_pos (by omega)]
  have he : (Extern.MathFloor.toIntegral "math.archTrunc" .zero #[.float .f64 n]).run Tryd.prog w = .ok (.float .f64 (truncN n)) w := by
    conv => lhs; arg 2; whnf
    rw [hr]
    dsimp only
    rw [integral_eq _ _ h]
    show Result.ok (Value.float .f64 (Ieee.double.nearest (sg n) (intN (rg n)) 0)) w = _
    rw [of_near _ _ (Nat.le_of_lt (intN_lt _))]
    rfl
  rw [run_callFunc_extern (e := Extern.MathFloor.toIntegral "math.archTrunc" .zero) Tryd.func78 (by kernel_rfl) (by kernel_rfl) (by kernel_rfl) (by kernel_rfl), he]
  rfl

theorem trunc_any (n : Nat) (hn : n < 18446744073709551616) (h : rg n < 4845873199050653696) (w : World) :
    Calls Tryd.prog 74 #[.float .f64 n] w fun e w' => e = .returned (.float .f64 (truncN n)) ∧ w = w' := by
  have h1 := fun w => enters_trunc n hn h w
  clear hn h
  go_enter Tryd.func74, Tryd.ntmps74
  go_wp2
  go_ret
  exact ⟨rfl, rfl⟩

theorem placeN_big : placeN 4845873199050653696 = 4845873199050653696 ∧ placeN 14069245235905429504 = -4845873199050653696 := by decide

theorem ord_big (n : Nat) (hn : n < 18446744073709551616) (h : nanN n = false) : FloatKind.f64.format.order n 4845873199050653696 = some (compare (placeN n) 4845873199050653696) ∧
    FloatKind.f64.format.order n 14069245235905429504 = some (compare (placeN n) (-4845873199050653696)) := by
  have h1 := order_eq n 4845873199050653696 hn (by omega)
  have h2 := order_eq n 14069245235905429504 hn (by omega)
  unfold nanN at h
  rw [decide_eq_false_iff_not] at h
  rw [if_neg (by rintro (a | a); exact h a; revert a; decide), placeN_big.1] at h1
  rw [if_neg (by rintro (a | a); exact h a; revert a; decide), placeN_big.2] at h2
  exact ⟨h1, h2⟩

theorem run_toint (n : Nat) (w : World) : (convert 90 3 (.float .f64 (truncN n))).run Tryd.prog w = .ok (.int .i64 (signedU (sg n) (intN (rg n)))) w := by
  have hlt := intN_lt (rg n)
  refine run_convert_float_int w _ _ .f64 .i64 _ _ (by rw [Tryd.underlying90]; rfl) Tryd.underlying3 ?_
  unfold floatToIntVal truncN
  have : (FloatKind.f64.decode (Ieee.double.word (sg n) (ofN (intN (rg n))))).toInt .zero = some (signedU (sg n) (intN (rg n))) := toInt_word _ _ hlt
  simp only [this]
  have hb : IntKind.i64.min ≤ signedU (sg n) (intN (rg n)) ∧ signedU (sg n) (intN (rg n)) ≤ IntKind.i64.max := by
    have h1 : IntKind.i64.min = -9223372036854775808 := rfl
    have h2 : IntKind.i64.max = 9223372036854775807 := rfl
    rw [h1, h2]; unfold signedU; split <;> omega
  rw [if_pos hb]

theorem whole_nan (x : Int) (h : nanN (U x) = true) (w : World) :
    Calls Tryd.prog 60 #[.int .i64 x] w fun e w' => e = .returned (.int .i64 0) ∧ w = w' := by
  have H := Lib.hid (U_lt x)
  go_enter Tryd.func60, Tryd.ntmps60
  go_wp2_with (first
    | (go_at_call 70; refine (number_any _ _).mono ?_; rintro e w' ⟨rfl, rfl⟩)
    | (go_at_call 73; refine (isnan_any _ H.out _).mono ?_; rintro e w' ⟨rfl, rfl⟩))
  go_ret
  exact ⟨rfl, rfl⟩

theorem whole_high (x : Int) (h : nanN (U x) = false) (hb : 4845873199050653696 ≤ placeN (U x)) (w : World) :
    Calls Tryd.prog 60 #[.int .i64 x] w fun e w' => e = .returned (.int .i64 9007199254740992) ∧ w = w' := by
  have H := Lib.hid (U_lt x)
  have ho := (ord_big (U x) H.out h).1
  rcases (show placeN (U x) = 4845873199050653696 ∨ 4845873199050653696 < placeN (U x) by omega) with hc | hc
  · rw [Int.compare_eq_eq.2 hc] at ho
    clear hb hc
    go_enter Tryd.func60, Tryd.ntmps60
    go_wp2_with (first
      | (go_at_call 70; refine (number_any _ _).mono ?_; rintro e w' ⟨rfl, rfl⟩)
      | (go_at_call 73; refine (isnan_any _ H.out _).mono ?_; rintro e w' ⟨rfl, rfl⟩))
    go_ret
    exact ⟨rfl, rfl⟩
  · rw [Int.compare_eq_gt.2 hc] at ho
    clear hb hc
    go_enter Tryd.func60, Tryd.ntmps60
    go_wp2_with (first
      | (go_at_call 70; refine (number_any _ _).mono ?_; rintro e w' ⟨rfl, rfl⟩)
      | (go_at_call 73; refine (isnan_any _ H.out _).mono ?_; rintro e w' ⟨rfl, rfl⟩))
    go_ret
    exact ⟨rfl, rfl⟩

theorem whole_low (x : Int) (h : nanN (U x) = false) (hc : placeN (U x) ≤ -4845873199050653696) (w : World) :
    Calls Tryd.prog 60 #[.int .i64 x] w fun e w' => e = .returned (.int .i64 (-9007199254740992)) ∧ w = w' := by
  have H := Lib.hid (U_lt x)
  have ho := (ord_big (U x) H.out h).1
  have ho2 := (ord_big (U x) H.out h).2
  rw [Int.compare_eq_lt.2 (by omega)] at ho
  rcases (show placeN (U x) = -4845873199050653696 ∨ placeN (U x) < -4845873199050653696 by omega) with hd | hd
  · rw [Int.compare_eq_eq.2 hd] at ho2
    clear hc hd
    go_enter Tryd.func60, Tryd.ntmps60
    go_wp2_with (first
      | (go_at_call 70; refine (number_any _ _).mono ?_; rintro e w' ⟨rfl, rfl⟩)
      | (go_at_call 73; refine (isnan_any _ H.out _).mono ?_; rintro e w' ⟨rfl, rfl⟩))
    go_ret
    exact ⟨rfl, rfl⟩
  · rw [Int.compare_eq_lt.2 hd] at ho2
    clear hc hd
    go_enter Tryd.func60, Tryd.ntmps60
    go_wp2_with (first
      | (go_at_call 70; refine (number_any _ _).mono ?_; rintro e w' ⟨rfl, rfl⟩)
      | (go_at_call 73; refine (isnan_any _ H.out _).mono ?_; rintro e w' ⟨rfl, rfl⟩))
    go_ret
    exact ⟨rfl, rfl⟩

theorem whole_mid (x : Int) (h : nanN (U x) = false) (hb : ¬ 4845873199050653696 ≤ placeN (U x)) (hc : ¬ placeN (U x) ≤ -4845873199050653696) (w : World) :
    Calls Tryd.prog 60 #[.int .i64 x] w fun e w' => e = .returned (.int .i64 (signedU (sg (U x)) (intN (rg (U x))))) ∧ w = w' := by
  have H := Lib.hid (U_lt x)
  have ho := (ord_big (U x) H.out h).1
  have ho2 := (ord_big (U x) H.out h).2
  rw [Int.compare_eq_lt.2 (by omega)] at ho
  rw [Int.compare_eq_gt.2 (by omega)] at ho2
  have h3 := fun w => run_toint (U x) w
  have H2 := Lib.hid (show rg (U x) < 4845873199050653696 by unfold placeN at hb hc; split at hb <;> split at hc <;> first | omega | contradiction)
  clear hb hc
  go_enter Tryd.func60, Tryd.ntmps60
  go_wp2_with (first
    | (go_at_call 70; refine (number_any _ _).mono ?_; rintro e w' ⟨rfl, rfl⟩)
    | (go_at_call 74; refine (trunc_any _ H.out H2.out _).mono ?_; rintro e w' ⟨rfl, rfl⟩)
    | (go_at_call 73; refine (isnan_any _ H.out _).mono ?_; rintro e w' ⟨rfl, rfl⟩))
  go_ret
  exact ⟨rfl, rfl⟩
end Go.Proofs.YtlphgnfjemaliaaDoor.RealW

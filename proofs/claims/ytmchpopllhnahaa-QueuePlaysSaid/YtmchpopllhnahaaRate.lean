/- Contracts of rate.Compare and its reference. -/
import Derived.Test.YtmchpopllhnahaaRows
import Derived.Test.YtmchpopllhnahaaBase
import Derived.Test.YtmchpopllhnahaaFloat
namespace Go.Proofs.Ytmchpopllhnahaa
open Go.RowKit
set_option linter.unusedVariables false

theorem isnan_f (x : Nat) (w : World) (hx : x < 2^64) : Calls Try.prog 53 #[.float .f64 x] w fun e w' => e = .returned (.bool (nanB x)) ∧ w = w' := by
  have h := ord_ne x x hx hx
  rw [eqF_self, Bool.not_not] at h
  go_enter Try.func53, Try.ntmps53
  go_wp2
  go_ret
  exact ⟨rfl, rfl⟩
theorem isnan_i (x : Int) (w : World) : Calls Try.prog 54 #[.int .i64 x] w fun e w' => e = .returned (.bool false) ∧ w = w' := by
  go_enter Try.func54, Try.ntmps54
  go_wp2
  go_ret
  exact ⟨by simp, rfl⟩
theorem cmpi_any (x y : Int) (w : World) : Calls Try.prog 47 #[.int .i64 x, .int .i64 y] w fun e w' => e = .returned (.int .i64 (cmpI x y)) ∧ w = w' := by
  unfold cmpI
  by_cases h1 : x < y
  · rw [if_pos h1]
    go_enter Try.func47, Try.ntmps47
    go_wp2_with (go_at_call 54; refine (isnan_i _ _).mono ?_; rintro e w' ⟨rfl, rfl⟩)
    go_ret
    exact ⟨rfl, rfl⟩
  · rw [if_neg h1]
    by_cases h2 : y < x
    · rw [if_pos h2]
      go_enter Try.func47, Try.ntmps47
      go_wp2_with (go_at_call 54; refine (isnan_i _ _).mono ?_; rintro e w' ⟨rfl, rfl⟩)
      go_ret
      exact ⟨rfl, rfl⟩
    · rw [if_neg h2]
      go_enter Try.func47, Try.ntmps47
      go_wp2_with (go_at_call 54; refine (isnan_i _ _).mono ?_; rintro e w' ⟨rfl, rfl⟩)
      go_ret
      exact ⟨rfl, rfl⟩
theorem cmpf_any (x y : Nat) (w : World) (hx : x < 2^64) (hy : y < 2^64) : Calls Try.prog 46 #[.float .f64 x, .float .f64 y] w fun e w' => e = .returned (.int .i64 (cmpF x y)) ∧ w = w' := by
  rw [cmpF]
  have i1 := fun w => isnan_f x w hx
  have i2 := fun w => isnan_f y w hy
  have l1 := ord_lt x y hx hy
  have l2 := ord_gt x y hx hy
  generalize ltF x y = b3 at *
  generalize ltF y x = b4 at *
  generalize nanB x = b1 at *
  generalize nanB y = b2 at *
  have I1 := Lib.hid i1; have I2 := Lib.hid i2
  clear i1 i2
  have H : ∀ (c : Int), Calls Try.prog 46 #[.float .f64 x, .float .f64 y] w (fun e w' => e = .returned (.int .i64 (if b1 then (if b2 then 0 else -1) else if b2 then 1 else if b3 then -1 else if b4 then 1 else 0)) ∧ w = w') := by
    intro _
    cases b1 <;> cases b2
    · cases b3
      · cases b4
        all_goals
          go_enter Try.func46, Try.ntmps46
          go_wp2_with fail
          refine (I1.out _).mono ?_
          rintro e w' ⟨rfl, rfl⟩
          go_wp2_with fail
          refine (I2.out _).mono ?_
          rintro e w' ⟨rfl, rfl⟩
          go_wp2_with fail
          go_ret
          exact ⟨rfl, rfl⟩
      · go_enter Try.func46, Try.ntmps46
        go_wp2_with fail
        refine (I1.out _).mono ?_
        rintro e w' ⟨rfl, rfl⟩
        go_wp2_with fail
        refine (I2.out _).mono ?_
        rintro e w' ⟨rfl, rfl⟩
        go_wp2_with fail
        go_ret
        exact ⟨rfl, rfl⟩
    all_goals
      clear l1 l2
      go_enter Try.func46, Try.ntmps46
      go_wp2_with fail
      refine (I1.out _).mono ?_
      rintro e w' ⟨rfl, rfl⟩
      go_wp2_with fail
      refine (I2.out _).mono ?_
      rintro e w' ⟨rfl, rfl⟩
      go_wp2_with fail
      go_ret
      exact ⟨rfl, rfl⟩
  exact H 0

/-- cmp.Or of two. -/
theorem or_two (x y : Int) (w : World) :
    Calls Try.prog 45 #[.slice (some ⟨w.heap.size, 0, none⟩) 2 2] (w.alloc (.cells #[.int .i64 x, .int .i64 y] 3)) fun e w' => e = .returned (.int .i64 (if x = 0 then y else x)) ∧ w.alloc (.cells #[.int .i64 x, .int .i64 y] 3) = w' := by
  obtain ⟨g, hg⟩ : ∃ g, w.heap.size = g := ⟨_, rfl⟩
  obtain ⟨V, hV⟩ : ∃ V, w.alloc (.cells #[.int .i64 x, .int .i64 y] 3) = V := ⟨_, rfl⟩
  have c0 : V.cell? ⟨g, 0, none⟩ = some (.int .i64 x) := by rw [← hV, ← hg]; simp
  have c1 : V.cell? ⟨g, 1, none⟩ = some (.int .i64 y) := by rw [← hV, ← hg]; simp
  rw [hg, hV]
  clear hg hV
  by_cases hx : x = 0
  · subst hx
    rw [if_pos rfl]
    by_cases hy : y = 0
    · subst hy
      go_enter Try.func45, Try.ntmps45
      go_wp2
      go_loop [8] (fun i => ∃ k : Nat, k ≤ 2 ∧ i = .int .i64 k) (fun i => 2 - (intOf i).toNat)
      case atStart => exact ⟨0, by omega, rfl⟩
      case round =>
        obtain ⟨k, hk, rfl⟩ := hrel
        match k, hk with
        | 0, _ =>
          go_wp2
          go_round
          case rel => exact ⟨1, by omega, by go_num⟩
          case measure => simp [intOf]
        | 1, _ =>
          go_wp2
          go_round
          case rel => exact ⟨2, by omega, by go_num⟩
          case measure => simp [intOf]
        | 2, _ =>
          go_wp2
          go_ret
          exact ⟨rfl, rfl⟩
    · have hb : (y != 0) = true := by simpa using hy
      go_enter Try.func45, Try.ntmps45
      go_wp2
      go_loop [8] (fun i => ∃ k : Nat, k ≤ 1 ∧ i = .int .i64 k) (fun i => 2 - (intOf i).toNat)
      case atStart => exact ⟨0, by omega, rfl⟩
      case round =>
        obtain ⟨k, hk, rfl⟩ := hrel
        match k, hk with
        | 0, _ =>
          go_wp2
          go_round
          case rel => exact ⟨1, by omega, by go_num⟩
          case measure => simp [intOf]
        | 1, _ =>
          go_wp2
          go_ret
          exact ⟨rfl, rfl⟩
  · rw [if_neg hx]
    have hb : (x != 0) = true := by simpa using hx
    clear hx
    go_enter Try.func45, Try.ntmps45
    go_wp2
    go_loop [8] (fun i => i = .int .i64 0) (fun i => 2 - (intOf i).toNat)
    case atStart => rfl
    case round =>
      subst hrel
      go_wp2
      go_ret
      exact ⟨rfl, rfl⟩

theorem ext_bits (x : Nat) (w : World) : (callFunc 35 #[.float .f64 x]).run Try.prog w = .ok (.value (.int .u64 x)) w := by
  rw [run_callFunc_extern Try.func35 (by kernel_rfl) (by kernel_rfl) (by kernel_rfl) (e := Extern.MathFloatBits.float64bits) (by kernel_rfl)]; rfl
theorem ext_from (x : Nat) (w : World) : (callFunc 34 #[.int .u64 x]).run Try.prog w = .ok (.value (.float .f64 x)) w := by
  rw [run_callFunc_extern Try.func34 (by kernel_rfl) (by kernel_rfl) (by kernel_rfl) (e := Extern.MathFloatBits.float64frombits) (by kernel_rfl)]; rfl
theorem signbit_any (x : Nat) (w : World) (hx : x < 2^64) : Calls Try.prog 55 #[.float .f64 x] w fun e w' => e = .returned (.bool (negB x)) ∧ w = w' := by
  have e : decide (wrap64 (x : Int) < 0) = negB x := by
    rw [negB, Bool.eq_iff_iff]
    simp [wrap64]
    omega
  rw [← e]
  clear e
  have h := ext_bits x
  go_enter Try.func55, Try.ntmps55
  go_wp2
  go_ret
  exact ⟨rfl, rfl⟩
theorem sign_any (x : Nat) (w : World) (hx : x < 2^64) : Calls Try.prog 48 #[.float .f64 x] w fun e w' => e = .returned (.int .i64 (sgnF x)) ∧ w = w' := by
  rw [sgnF]
  have l1 := ord_ne x 0 hx (by omega)
  have s1 := fun w => signbit_any x w hx
  generalize eqF x 0 = b1 at *
  generalize negB x = b2 at *
  have S1 := Lib.hid s1
  clear s1
  cases b1
  · rw [Bool.not_false] at l1
    go_enter Try.func48, Try.ntmps48
    go_wp2
    go_ret
    exact ⟨rfl, rfl⟩
  · rw [Bool.not_true] at l1
    cases b2
    all_goals
      go_enter Try.func48, Try.ntmps48
      go_wp2_with fail
      refine (S1.out _).mono ?_
      rintro e w' ⟨rfl, rfl⟩
      go_wp2_with fail
      go_ret
      exact ⟨rfl, rfl⟩
theorem rcmp_any (x y : Nat) (w : World) (hx : x < 2^64) (hy : y < 2^64) : Calls Try.prog 28 #[.float .f64 x, .float .f64 y] w fun e w' => e = .returned (.int .i64 (cmpK x y)) ∧ Below w.heap.size w w' := by
  rw [← rcmp_eq x y hx hy, rcmp]
  have h1 := fun w => cmpf_any x y w hx hy
  have h2 := fun w => sign_any x w hx
  have h3 := fun w => sign_any y w hy
  have h4 := fun w => cmpi_any (sgnF x) (sgnF y) w
  have h5 := fun w => or_two (cmpF x y) (cmpI (sgnF x) (sgnF y)) w
  generalize (if cmpF x y = 0 then cmpI (sgnF x) (sgnF y) else cmpF x y) = z at *
  generalize cmpI (sgnF x) (sgnF y) = s at *
  generalize cmpF x y = p at *
  generalize sgnF x = q at *
  generalize sgnF y = r at *
  have H1 := Lib.hid h1; have H2 := Lib.hid h2; have H3 := Lib.hid h3; have H4 := Lib.hid h4; have H5 := Lib.hid h5
  clear h1 h2 h3 h4 h5
  go_enter Try.func28, Try.ntmps28
  go_wp2_with fail
  refine (H1.out _).mono ?_
  rintro e w' ⟨rfl, rfl⟩
  go_wp2_with fail
  refine (H2.out _).mono ?_
  rintro e w' ⟨rfl, rfl⟩
  go_wp2_with fail
  refine (H3.out _).mono ?_
  rintro e w' ⟨rfl, rfl⟩
  go_wp2_with fail
  refine (H4.out _).mono ?_
  rintro e w' ⟨rfl, rfl⟩
  go_wp2_with fail
  refine (H5.out _).mono ?_
  rintro e w' ⟨rfl, rfl⟩
  go_wp2_with fail
  go_ret
  exact ⟨rfl, (Below.refl _ _).alloc (Nat.le_refl _) _⟩

theorem u64_in (n : Int) (h : 0 ≤ n ∧ n ≤ 18446744073709551615) : IntKind.u64.wrap n = n := by
  simp only [IntKind.wrap, IntKind.signed, IntKind.bits, Bool.false_and, Bool.false_eq_true, if_false]
  omega
theorem bv64 (n : Nat) : (BitVec.ofInt 64 (n : Int)).toNat = n % 2^64 := by
  rw [BitVec.toNat_ofInt]; omega
theorem intBits_or (k : IntKind) (x y : Int) : Op.intBits .or k x y = pure (.int k (k.wrap ((BitVec.ofInt k.bits x ||| BitVec.ofInt k.bits y).toNat : Nat))) := rfl
theorem intBits_andNot (k : IntKind) (x y : Int) : Op.intBits .andNot k x y = pure (.int k (k.wrap ((BitVec.ofInt k.bits x &&& ~~~(BitVec.ofInt k.bits y)).toNat : Nat))) := rfl
theorem top_lit : (9223372036854775808 : Int) = ((2^63 : Nat) : Int) := by decide
theorem or_top (x : Nat) (h : x < 2^63) : Op.intBits .or .u64 (x : Int) 9223372036854775808 = pure (.int .u64 ((x : Int) + 9223372036854775808)) := by
  have e : ((BitVec.ofInt 64 (x : Int)) ||| (BitVec.ofInt 64 ((2^63 : Nat) : Int))).toNat = x + 2^63 := by
    rw [BitVec.toNat_or, bv64, bv64, Nat.mod_eq_of_lt (by omega), Nat.mod_eq_of_lt (by omega), Nat.or_comm]
    have := Nat.two_pow_add_eq_or_of_lt h 1
    rw [Nat.mul_one] at this
    rw [← this, Nat.add_comm]
  rw [intBits_or, top_lit, show IntKind.u64.bits = 64 from rfl, e, u64_in _ (by omega)]
  rw [Int.natCast_add]
theorem abs_bits (x : Nat) (h : x < 2^64) : Op.intBits .andNot .u64 (x : Int) 9223372036854775808 = pure (.int .u64 ((x % 2^63 : Nat) : Int)) := by
  have e : ((BitVec.ofInt 64 (x : Int)) &&& ~~~(BitVec.ofInt 64 ((2^63 : Nat) : Int))).toNat = x % 2^63 := by
    have h1 : ~~~(BitVec.ofInt 64 ((2^63 : Nat) : Int)) = BitVec.ofNat 64 (2^63 - 1) := by decide
    rw [h1, BitVec.toNat_and, bv64, BitVec.toNat_ofNat, Nat.mod_eq_of_lt h, Nat.mod_eq_of_lt (a := 2^63 - 1) (by omega), Nat.and_two_pow_sub_one_eq_mod]
  rw [intBits_andNot, top_lit, show IntKind.u64.bits = 64 from rfl, e, u64_in _ (by omega)]
theorem key_any (x : Nat) (w : World) (hx : x < 2^64) : Calls Try.prog 36 #[.float .f64 x] w fun e w' => e = .returned (.int .u64 (keyF x)) ∧ w = w' := by
  rw [keyF]
  have l1 := ord_ne x x hx hx
  rw [eqF_self, Bool.not_not] at l1
  have h := ext_bits x
  have hsm : nanB x = false → x < 2^63 → (x : Int) ≤ 9218868437227405312 := fun h1 h2 => by have := small_le h1 h2; omega
  generalize nanB x = b1 at *
  cases b1
  · by_cases hn : 2^63 ≤ x
    · rw [if_neg (by simp), if_pos hn]
      have g1 : (9223372036854775808 : Int) ≤ x := by omega
      have g2 : (x : Int) ≤ 18446744073709551615 := by omega
      have H := Lib.hid hn
      clear hn hx hsm
      go_enter Try.func36, Try.ntmps36
      go_wp2
      go_ret
      have := H.out
      exact ⟨ret_int (by omega), rfl⟩
    · rw [if_neg (by simp), if_neg hn]
      have g1 : ¬ (9223372036854775808 : Int) ≤ x := by omega
      have hor := or_top x (by omega)
      have HSM := Lib.hid (hsm rfl (by omega))
      clear hn hsm
      go_enter Try.func36, Try.ntmps36
      go_wp2
      go_ret
      clear hor h l1 g1
      have h1 := HSM.out
      have h3 : 0 ≤ 1 + ((x : Int) + 9223372036854775808) ∧ 1 + ((x : Int) + 9223372036854775808) ≤ 18446744073709551615 := by omega
      have h2 := u64_in _ h3
      exact ⟨ret_int h2, rfl⟩
  · rw [if_pos rfl]
    clear h hsm
    go_enter Try.func36, Try.ntmps36
    go_wp2
    go_ret
    exact ⟨rfl, rfl⟩
theorem refcmp_any (x y : Nat) (w : World) (hx : x < 2^64) (hy : y < 2^64) : Calls Try.prog 13 #[.float .f64 x, .float .f64 y] w fun e w' => e = .returned (.int .i64 (cmpK x y)) ∧ w = w' := by
  rw [cmpK, cmpN]
  have h1 := fun w => key_any x w hx
  have h2 := fun w => key_any y w hy
  generalize keyF x = p at *
  generalize keyF y = q at *
  have H1 := Lib.hid h1; have H2 := Lib.hid h2
  clear h1 h2
  by_cases c1 : p < q
  · rw [if_pos c1]
    have g1 : (p : Int) < q := by omega
    go_enter Try.func13, Try.ntmps13
    go_wp2_with fail
    refine (H1.out _).mono ?_
    rintro e w' ⟨rfl, rfl⟩
    go_wp2_with fail
    refine (H2.out _).mono ?_
    rintro e w' ⟨rfl, rfl⟩
    go_wp2_with fail
    go_ret
    exact ⟨rfl, rfl⟩
  · rw [if_neg c1]
    have g1 : ¬ (p : Int) < q := by omega
    by_cases c2 : q < p
    · rw [if_pos c2]
      have g2 : (q : Int) < p := by omega
      go_enter Try.func13, Try.ntmps13
      go_wp2_with fail
      refine (H1.out _).mono ?_
      rintro e w' ⟨rfl, rfl⟩
      go_wp2_with fail
      refine (H2.out _).mono ?_
      rintro e w' ⟨rfl, rfl⟩
      go_wp2_with fail
      refine (H1.out _).mono ?_
      rintro e w' ⟨rfl, rfl⟩
      go_wp2_with fail
      refine (H2.out _).mono ?_
      rintro e w' ⟨rfl, rfl⟩
      go_wp2_with fail
      go_ret
      exact ⟨rfl, rfl⟩
    · rw [if_neg c2]
      have g2 : ¬ (q : Int) < p := by omega
      go_enter Try.func13, Try.ntmps13
      go_wp2_with fail
      refine (H1.out _).mono ?_
      rintro e w' ⟨rfl, rfl⟩
      go_wp2_with fail
      refine (H2.out _).mono ?_
      rintro e w' ⟨rfl, rfl⟩
      go_wp2_with fail
      refine (H1.out _).mono ?_
      rintro e w' ⟨rfl, rfl⟩
      go_wp2_with fail
      refine (H2.out _).mono ?_
      rintro e w' ⟨rfl, rfl⟩
      go_wp2_with fail
      go_ret
      exact ⟨rfl, rfl⟩
end Go.Proofs.Ytmchpopllhnahaa

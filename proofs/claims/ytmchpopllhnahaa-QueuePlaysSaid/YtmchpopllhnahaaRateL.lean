/- The walks of RateOrders and RateThree. -/
import Derived.Test.YtmchpopllhnahaaRate
import Derived.OpenShut
namespace Go.Proofs.Ytmchpopllhnahaa
open Go.RowKit
set_option linter.unusedVariables false

theorem mnan (w : World) : Calls Try.prog 27 #[] w fun e w' => e = .returned (.float .f64 9221120237041090561) ∧ w = w' := by
  have h : ∀ w, (callFunc 34 #[.int .u64 9221120237041090561]).run Try.prog w = .ok (.value (.float .f64 9221120237041090561)) w := fun w => by simpa using ext_from 9221120237041090561 w
  go_enter Try.func27, Try.ntmps27
  go_wp2
  go_ret
  exact ⟨rfl, rfl⟩
theorem minf_pos (w : World) : Calls Try.prog 10 #[.int .i64 1] w fun e w' => e = .returned (.float .f64 9218868437227405312) ∧ w = w' := by
  have h : ∀ w, (callFunc 34 #[.int .u64 9218868437227405312]).run Try.prog w = .ok (.value (.float .f64 9218868437227405312)) w := fun w => by simpa using ext_from 9218868437227405312 w
  go_enter Try.func10, Try.ntmps10
  go_wp2
  go_ret
  exact ⟨rfl, rfl⟩
theorem minf_neg (w : World) : Calls Try.prog 10 #[.int .i64 (-1)] w fun e w' => e = .returned (.float .f64 18442240474082181120) ∧ w = w' := by
  have h : ∀ w, (callFunc 34 #[.int .u64 18442240474082181120]).run Try.prog w = .ok (.value (.float .f64 18442240474082181120)) w := fun w => by simpa using ext_from 18442240474082181120 w
  go_enter Try.func10, Try.ntmps10
  go_wp2
  go_ret
  exact ⟨rfl, rfl⟩

/-- The bits of 'float64(fee) / float64(size)', where it is valid. -/
def divI (fee size : Int) : Option Nat := floatBits .quo .f64 (floatOfInt .f64 fee) (floatOfInt .f64 size)

theorem of_nan (fee size : Int) (w : World) (h : size < 0 ∨ size = 0 ∧ fee = 0) : Calls Try.prog 37 #[.int .u64 fee, .int .i64 size] w fun e w' => e = .returned (.float .f64 9221120237041090561) ∧ w = w' := by
  rcases h with h | ⟨rfl, rfl⟩
  · go_enter Try.func37, Try.ntmps37
    go_wp2_with fail
    refine (mnan _).mono ?_
    rintro e w' ⟨rfl, rfl⟩
    go_wp2_with fail
    go_ret
    exact ⟨rfl, rfl⟩
  · go_enter Try.func37, Try.ntmps37
    go_wp2_with fail
    refine (mnan _).mono ?_
    rintro e w' ⟨rfl, rfl⟩
    go_wp2_with fail
    go_ret
    exact ⟨rfl, rfl⟩
theorem of_inf (fee : Int) (w : World) (h : 0 < fee) : Calls Try.prog 37 #[.int .u64 fee, .int .i64 0] w fun e w' => e = .returned (.float .f64 9218868437227405312) ∧ w = w' := by
  have hb : (fee == 0) = false := beq_eq_false_iff_ne.2 (by omega)
  go_enter Try.func37, Try.ntmps37
  go_wp2_with fail
  refine (minf_pos _).mono ?_
  rintro e w' ⟨rfl, rfl⟩
  go_wp2_with fail
  go_ret
  exact ⟨rfl, rfl⟩
theorem of_num (fee size : Int) (r : Nat) (w : World) (h : 0 < size) (hr : divI fee size = some r) : Calls Try.prog 37 #[.int .u64 fee, .int .i64 size] w fun e w' => e = .returned (.float .f64 r) ∧ w = w' := by
  have hb : (size == 0) = false := beq_eq_false_iff_ne.2 (by omega)
  have hq := fun w t => run_float_arith (P := Try.prog) w .quo t .f64 _ _ r hr
  clear hr
  go_enter Try.func37, Try.ntmps37
  go_wp2_with fail
  go_ret
  exact ⟨rfl, rfl⟩

theorem awake01 (w : World) : Calls Try.prog 15 #[] w fun e w' => e = .returned (.bool true) ∧ Below w.heap.size w w' := by
  have n1 : (FloatKind.f64.format.order 9221120237041090561 9221120237041090561 != some .eq) = true := by decide +kernel
  have n2 : (FloatKind.f64.format.order 4609434218613702656 4609434218613702656 == some .eq) = true := by decide +kernel
  have k1 : cmpK 9221120237041090561 18442240474082181120 = -1 := by decide +kernel
  have hc := fun w => rcmp_any 9221120237041090561 18442240474082181120 w (by decide) (by decide)
  rw [k1] at hc
  have HC := Lib.hid hc
  clear hc k1
  go_enter Try.func15, Try.ntmps15
  go_wp2_with fail
  refine (of_nan 0 0 _ (.inr ⟨rfl, rfl⟩)).mono ?_
  rintro e w' ⟨rfl, rfl⟩
  go_wp2_with fail
  refine (minf_neg _).mono ?_
  rintro e w' ⟨rfl, rfl⟩
  go_wp2_with fail
  refine (HC.out _).mono ?_
  rintro e w1 ⟨rfl, hb1⟩
  have HB1 := Lib.hid hb1; clear hb1
  go_wp2_with fail
  refine (of_num 6 4 4609434218613702656 _ (by omega) (by decide +kernel)).mono ?_
  rintro e w' ⟨rfl, rfl⟩
  go_wp2_with fail
  go_ret
  exact ⟨rfl, HB1.out⟩

theorem lt64 {x : Nat} (h : (Lit.float .f64 x).wf = true) : x < 2^64 := by simpa [Lit.wf] using h

end Go.Proofs.Ytmchpopllhnahaa

/- The walks of RateOrders and RateThree. -/
import Derived.Test.YtcbanjbibankgaaRate
import Derived.OpenShut
namespace Go.Proofs.Ytcbanjbibankgaa
open Go.RowKit
set_option linter.unusedVariables false

theorem mnan (w : World) : Calls Try.prog 41 #[] w fun e w' => e = .returned (.float .f64 9221120237041090561) ∧ w = w' := by
  have h : ∀ w, (callFunc 52 #[.int .u64 9221120237041090561]).run Try.prog w = .ok (.value (.float .f64 9221120237041090561)) w := fun w => by simpa using ext_from 9221120237041090561 w
  go_enter Try.func41, Try.ntmps41
  go_wp2
  go_ret
  exact ⟨rfl, rfl⟩
theorem minf_pos (w : World) : Calls Try.prog 40 #[.int .i64 1] w fun e w' => e = .returned (.float .f64 9218868437227405312) ∧ w = w' := by
  have h : ∀ w, (callFunc 52 #[.int .u64 9218868437227405312]).run Try.prog w = .ok (.value (.float .f64 9218868437227405312)) w := fun w => by simpa using ext_from 9218868437227405312 w
  go_enter Try.func40, Try.ntmps40
  go_wp2
  go_ret
  exact ⟨rfl, rfl⟩
theorem minf_neg (w : World) : Calls Try.prog 40 #[.int .i64 (-1)] w fun e w' => e = .returned (.float .f64 18442240474082181120) ∧ w = w' := by
  have h : ∀ w, (callFunc 52 #[.int .u64 18442240474082181120]).run Try.prog w = .ok (.value (.float .f64 18442240474082181120)) w := fun w => by simpa using ext_from 18442240474082181120 w
  go_enter Try.func40, Try.ntmps40
  go_wp2
  go_ret
  exact ⟨rfl, rfl⟩

/-- The bits of 'float64(fee) / float64(size)', where it is valid. -/
def divI (fee size : Int) : Option Nat := floatBits .quo .f64 (floatOfInt .f64 fee) (floatOfInt .f64 size)

theorem of_nan (fee size : Int) (w : World) (h : size < 0 ∨ size = 0 ∧ fee = 0) : Calls Try.prog 16 #[.int .u64 fee, .int .i64 size] w fun e w' => e = .returned (.float .f64 9221120237041090561) ∧ w = w' := by
  rcases h with h | ⟨rfl, rfl⟩
  · go_enter Try.func16, Try.ntmps16
    go_wp2_with fail
    refine (mnan _).mono ?_
    rintro e w' ⟨rfl, rfl⟩
    go_wp2_with fail
    go_ret
    exact ⟨rfl, rfl⟩
  · go_enter Try.func16, Try.ntmps16
    go_wp2_with fail
    refine (mnan _).mono ?_
    rintro e w' ⟨rfl, rfl⟩
    go_wp2_with fail
    go_ret
    exact ⟨rfl, rfl⟩
theorem of_inf (fee : Int) (w : World) (h : 0 < fee) : Calls Try.prog 16 #[.int .u64 fee, .int .i64 0] w fun e w' => e = .returned (.float .f64 9218868437227405312) ∧ w = w' := by
  have hb : (fee == 0) = false := beq_eq_false_iff_ne.2 (by omega)
  go_enter Try.func16, Try.ntmps16
  go_wp2_with fail
  refine (minf_pos _).mono ?_
  rintro e w' ⟨rfl, rfl⟩
  go_wp2_with fail
  go_ret
  exact ⟨rfl, rfl⟩
theorem of_num (fee size : Int) (r : Nat) (w : World) (h : 0 < size) (hr : divI fee size = some r) : Calls Try.prog 16 #[.int .u64 fee, .int .i64 size] w fun e w' => e = .returned (.float .f64 r) ∧ w = w' := by
  have hb : (size == 0) = false := beq_eq_false_iff_ne.2 (by omega)
  have hq := fun w t => run_float_arith (P := Try.prog) w .quo t .f64 _ _ r hr
  clear hr
  go_enter Try.func16, Try.ntmps16
  go_wp2_with fail
  go_ret
  exact ⟨rfl, rfl⟩

theorem awake01 (w : World) : Calls Try.prog 15 #[] w fun e w' => e = .returned (.bool true) ∧ Below w.heap.size w w' := by
  have n1 : (FloatKind.f64.format.order 9221120237041090561 9221120237041090561 != some .eq) = true := by decide +kernel
  have n2 : (FloatKind.f64.format.order 4609434218613702656 4609434218613702656 == some .eq) = true := by decide +kernel
  have k1 : cmpK 9221120237041090561 18442240474082181120 = -1 := by decide +kernel
  have hc := fun w => rcmp_any 9221120237041090561 18442240474082181120 w (by decide) (by decide)
  rw [k1] at hc
  have HC := Lib.hid hc
  clear hc k1
  go_enter Try.func15, Try.ntmps15
  go_wp2_with fail
  refine (of_nan 0 0 _ (.inr ⟨rfl, rfl⟩)).mono ?_
  rintro e w' ⟨rfl, rfl⟩
  go_wp2_with fail
  refine (minf_neg _).mono ?_
  rintro e w' ⟨rfl, rfl⟩
  go_wp2_with fail
  refine (HC.out _).mono ?_
  rintro e w1 ⟨rfl, hb1⟩
  have HB1 := Lib.hid hb1; clear hb1
  go_wp2_with fail
  refine (of_num 6 4 4609434218613702656 _ (by omega) (by decide +kernel)).mono ?_
  rintro e w' ⟨rfl, rfl⟩
  go_wp2_with fail
  go_ret
  exact ⟨rfl, HB1.out⟩

theorem lt64 {x : Nat} (h : (Lit.float .f64 x).wf = true) : x < 2^64 := by simpa [Lit.wf] using h

theorem walk_RateOrders (a b : Nat) (w : World) (ha : (Lit.float .f64 a).wf = true) (hb : (Lit.float .f64 b).wf = true) :
    Calls Try.prog 4 #[.float .f64 a, .float .f64 b] w fun e w' => e = .returned (.bool true) ∧ Below w.heap.size w w' := by
  have h1 := fun w => rcmp_any a b w (lt64 ha) (lt64 hb)
  have h2 := fun w => rcmp_any b a w (lt64 hb) (lt64 ha)
  have h3 := fun w => refcmp_any a b w (lt64 ha) (lt64 hb)
  have h4 := fun w => rcmp_any a a w (lt64 ha) (lt64 ha)
  have e1 : cmpK b a = - cmpK a b := by unfold cmpK; exact cmpN_neg _ _
  have e2 : cmpK a a = 0 := by unfold cmpK; exact cmpN_self _
  have r1 : -1 ≤ cmpK a b ∧ cmpK a b ≤ 1 := by unfold cmpK; exact cmpN_range _ _
  rw [e1] at h2
  rw [e2] at h4
  generalize cmpK a b = p at *
  obtain ⟨r1, r2⟩ := r1
  have H1 := Lib.hid h1; have H2 := Lib.hid h2; have H3 := Lib.hid h3; have H4 := Lib.hid h4
  clear h1 h2 h3 h4 e1 e2 ha hb
  have r3 : IntKind.i64.wrap (- - p) = p := by rw [Int.neg_neg]; exact IntWalk.i64_in _ (by omega)
  go_enter Try.func4, Try.ntmps4
  go_wp2_with fail
  refine (H1.out _).mono ?_
  rintro e w1 ⟨rfl, hb1⟩
  have HB1 := Lib.hid hb1; clear hb1
  go_wp2_with fail
  refine (H2.out _).mono ?_
  rintro e w2 ⟨rfl, hb1⟩
  have HB2 := Lib.hid hb1; clear hb1
  go_wp2_with fail
  refine (H3.out _).mono ?_
  rintro e w' ⟨rfl, rfl⟩
  go_wp2_with fail
  refine (H4.out _).mono ?_
  rintro e w3 ⟨rfl, hb1⟩
  have HB3 := Lib.hid hb1; clear hb1
  go_wp2_with fail
  refine (awake01 _).mono ?_
  rintro e w4 ⟨rfl, hb1⟩
  have HB4 := Lib.hid hb1; clear hb1
  go_wp2_with fail
  go_ret
  exact ⟨rfl, below_chain (below_chain (below_chain HB1.out HB2.out) HB3.out) HB4.out⟩

theorem walk_RateThree (a b c : Nat) (w : World) (ha : (Lit.float .f64 a).wf = true) (hb : (Lit.float .f64 b).wf = true) (hc : (Lit.float .f64 c).wf = true) :
    Calls Try.prog 5 #[.float .f64 a, .float .f64 b, .float .f64 c] w fun e w' => e = .returned (.bool true) ∧ Below w.heap.size w w' := by
  have h1 := fun w => rcmp_any a b w (lt64 ha) (lt64 hb)
  have h2 := fun w => rcmp_any b c w (lt64 hb) (lt64 hc)
  have h3 := fun w => rcmp_any a c w (lt64 ha) (lt64 hc)
  have t1 : cmpK a b ≤ 0 → cmpK b c ≤ 0 → cmpK a c ≤ 0 := by unfold cmpK; exact cmpN_three _ _ _
  have t2 : cmpK a b = 0 → cmpK a c = cmpK b c := by unfold cmpK; exact cmpN_same _ _ _
  generalize cmpK a b = p at *
  generalize cmpK b c = q at *
  generalize cmpK a c = r at *
  have H1 := Lib.hid h1; have H2 := Lib.hid h2; have H3 := Lib.hid h3
  have T1 := Lib.hid t1; have T2 := Lib.hid t2
  clear h1 h2 h3 ha hb hc t1 t2
  have HB := Lib.hid (Below.refl w.heap.size w)
  by_cases hp : 0 < p
  · have hpb : (p != 0) = true := bne_iff_ne.2 (by omega)
    go_enter Try.func5, Try.ntmps5
    go_wp2_with fail
    refine (H1.out _).mono ?_
    rintro e w_ ⟨rfl, hb_⟩
    have HB_ := Lib.hid (below_step HB.out HB.out.size hb_)
    clear hb_ HB
    have HB := HB_
    clear HB_
    go_wp2_with fail
    refine (H1.out _).mono ?_
    rintro e w_ ⟨rfl, hb_⟩
    have HB_ := Lib.hid (below_step HB.out HB.out.size hb_)
    clear hb_ HB
    have HB := HB_
    clear HB_
    go_wp2_with fail
    refine (awake01 _).mono ?_
    rintro e w_ ⟨rfl, hb_⟩
    have HB_ := Lib.hid (below_step HB.out HB.out.size hb_)
    clear hb_ HB
    have HB := HB_
    clear HB_
    go_wp2_with fail
    go_ret
    exact ⟨rfl, HB.out⟩
  · by_cases hq : 0 < q
    · by_cases hz : p = 0
      · have hpb : (p != 0) = false := bne_eq_false_iff_eq.2 hz
        obtain rfl := T2.out hz
        clear hz
        go_enter Try.func5, Try.ntmps5
        go_wp2_with fail
        refine (H1.out _).mono ?_
        rintro e w_ ⟨rfl, hb_⟩
        have HB_ := Lib.hid (below_step HB.out HB.out.size hb_)
        clear hb_ HB
        have HB := HB_
        clear HB_
        go_wp2_with fail
        refine (H2.out _).mono ?_
        rintro e w_ ⟨rfl, hb_⟩
        have HB_ := Lib.hid (below_step HB.out HB.out.size hb_)
        clear hb_ HB
        have HB := HB_
        clear HB_
        go_wp2_with fail
        refine (H1.out _).mono ?_
        rintro e w_ ⟨rfl, hb_⟩
        have HB_ := Lib.hid (below_step HB.out HB.out.size hb_)
        clear hb_ HB
        have HB := HB_
        clear HB_
        go_wp2_with fail
        refine (H3.out _).mono ?_
        rintro e w_ ⟨rfl, hb_⟩
        have HB_ := Lib.hid (below_step HB.out HB.out.size hb_)
        clear hb_ HB
        have HB := HB_
        clear HB_
        go_wp2_with fail
        refine (H2.out _).mono ?_
        rintro e w_ ⟨rfl, hb_⟩
        have HB_ := Lib.hid (below_step HB.out HB.out.size hb_)
        clear hb_ HB
        have HB := HB_
        clear HB_
        go_wp2_with fail
        refine (awake01 _).mono ?_
        rintro e w_ ⟨rfl, hb_⟩
        have HB_ := Lib.hid (below_step HB.out HB.out.size hb_)
        clear hb_ HB
        have HB := HB_
        clear HB_
        go_wp2_with fail
        go_ret
        exact ⟨rfl, HB.out⟩
      · have hpb : (p != 0) = true := bne_iff_ne.2 hz
        clear hz
        go_enter Try.func5, Try.ntmps5
        go_wp2_with fail
        refine (H1.out _).mono ?_
        rintro e w_ ⟨rfl, hb_⟩
        have HB_ := Lib.hid (below_step HB.out HB.out.size hb_)
        clear hb_ HB
        have HB := HB_
        clear HB_
        go_wp2_with fail
        refine (H2.out _).mono ?_
        rintro e w_ ⟨rfl, hb_⟩
        have HB_ := Lib.hid (below_step HB.out HB.out.size hb_)
        clear hb_ HB
        have HB := HB_
        clear HB_
        go_wp2_with fail
        refine (H1.out _).mono ?_
        rintro e w_ ⟨rfl, hb_⟩
        have HB_ := Lib.hid (below_step HB.out HB.out.size hb_)
        clear hb_ HB
        have HB := HB_
        clear HB_
        go_wp2_with fail
        refine (awake01 _).mono ?_
        rintro e w_ ⟨rfl, hb_⟩
        have HB_ := Lib.hid (below_step HB.out HB.out.size hb_)
        clear hb_ HB
        have HB := HB_
        clear HB_
        go_wp2_with fail
        go_ret
        exact ⟨rfl, HB.out⟩
    · have hr := T1.out (by omega) (by omega)
      by_cases hz : p = 0
      · have hpb : (p != 0) = false := bne_eq_false_iff_eq.2 hz
        obtain rfl := T2.out hz
        clear hz
        go_enter Try.func5, Try.ntmps5
        go_wp2_with fail
        refine (H1.out _).mono ?_
        rintro e w_ ⟨rfl, hb_⟩
        have HB_ := Lib.hid (below_step HB.out HB.out.size hb_)
        clear hb_ HB
        have HB := HB_
        clear HB_
        go_wp2_with fail
        refine (H2.out _).mono ?_
        rintro e w_ ⟨rfl, hb_⟩
        have HB_ := Lib.hid (below_step HB.out HB.out.size hb_)
        clear hb_ HB
        have HB := HB_
        clear HB_
        go_wp2_with fail
        refine (H3.out _).mono ?_
        rintro e w_ ⟨rfl, hb_⟩
        have HB_ := Lib.hid (below_step HB.out HB.out.size hb_)
        clear hb_ HB
        have HB := HB_
        clear HB_
        go_wp2_with fail
        refine (H1.out _).mono ?_
        rintro e w_ ⟨rfl, hb_⟩
        have HB_ := Lib.hid (below_step HB.out HB.out.size hb_)
        clear hb_ HB
        have HB := HB_
        clear HB_
        go_wp2_with fail
        refine (H3.out _).mono ?_
        rintro e w_ ⟨rfl, hb_⟩
        have HB_ := Lib.hid (below_step HB.out HB.out.size hb_)
        clear hb_ HB
        have HB := HB_
        clear HB_
        go_wp2_with fail
        refine (H2.out _).mono ?_
        rintro e w_ ⟨rfl, hb_⟩
        have HB_ := Lib.hid (below_step HB.out HB.out.size hb_)
        clear hb_ HB
        have HB := HB_
        clear HB_
        go_wp2_with fail
        refine (awake01 _).mono ?_
        rintro e w_ ⟨rfl, hb_⟩
        have HB_ := Lib.hid (below_step HB.out HB.out.size hb_)
        clear hb_ HB
        have HB := HB_
        clear HB_
        go_wp2_with fail
        go_ret
        exact ⟨rfl, HB.out⟩
      · have hpb : (p != 0) = true := bne_iff_ne.2 hz
        clear hz
        go_enter Try.func5, Try.ntmps5
        go_wp2_with fail
        refine (H1.out _).mono ?_
        rintro e w_ ⟨rfl, hb_⟩
        have HB_ := Lib.hid (below_step HB.out HB.out.size hb_)
        clear hb_ HB
        have HB := HB_
        clear HB_
        go_wp2_with fail
        refine (H2.out _).mono ?_
        rintro e w_ ⟨rfl, hb_⟩
        have HB_ := Lib.hid (below_step HB.out HB.out.size hb_)
        clear hb_ HB
        have HB := HB_
        clear HB_
        go_wp2_with fail
        refine (H3.out _).mono ?_
        rintro e w_ ⟨rfl, hb_⟩
        have HB_ := Lib.hid (below_step HB.out HB.out.size hb_)
        clear hb_ HB
        have HB := HB_
        clear HB_
        go_wp2_with fail
        refine (H1.out _).mono ?_
        rintro e w_ ⟨rfl, hb_⟩
        have HB_ := Lib.hid (below_step HB.out HB.out.size hb_)
        clear hb_ HB
        have HB := HB_
        clear HB_
        go_wp2_with fail
        refine (awake01 _).mono ?_
        rintro e w_ ⟨rfl, hb_⟩
        have HB_ := Lib.hid (below_step HB.out HB.out.size hb_)
        clear hb_ HB
        have HB := HB_
        clear HB_
        go_wp2_with fail
        go_ret
        exact ⟨rfl, HB.out⟩
end Go.Proofs.Ytcbanjbibankgaa

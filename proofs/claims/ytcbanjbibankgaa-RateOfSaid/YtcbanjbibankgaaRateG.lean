/- The walk of RateGrows. -/
import Derived.Test.YtcbanjbibankgaaRateL
import Derived.Test.YtcbanjbibankgaaFloatR
namespace Go.Proofs.Ytcbanjbibankgaa
open Go.RowKit
set_option linter.unusedVariables false

theorem of_dW (fee size : Int) (w : World) (h : 0 ≤ fee) (h1 : fee ≤ 18446744073709551615) (h2 : 0 < size) (h3 : size ≤ 9223372036854775807) :
    Calls Try.prog 16 #[.int .u64 fee, .int .i64 size] w fun e w' => e = .returned (.float .f64 (dW fee.toNat size.toNat)) ∧ w = w' := by
  refine of_num fee size _ w h2 ?_
  have := dW_some fee.toNat size.toNat (by omega) (by omega) (by omega)
  unfold rI at this
  rw [Int.toNat_of_nonneg h, Int.toNat_of_nonneg (by omega)] at this
  exact this

theorem cmpN_le {p q : Nat} (h : p ≤ q) : cmpN p q ≤ 0 := by
  unfold cmpN
  split
  · omega
  · rw [if_neg (by omega)]; omega
theorem cmpK_le {x y : Nat} (h : x ≤ y) (h2 : y < 9218868437227405312) : cmpK x y ≤ 0 := by
  unfold cmpK
  rw [key_small (by omega), key_small (by omega)]
  exact cmpN_le (by omega)

theorem dW_lt64 (f s : Nat) (h1 : f < 2 ^ 64) (h2 : 0 < s) (h3 : s < 2 ^ 64) : dW f s < 2 ^ 64 := by
  have := dW_lt f s h1 h2 h3
  omega

/-- The comparison of two rates, both of whose parts are in range, the first no greater. -/
theorem grow_cmp (x y s t : Int) (w : World) (hx : 0 ≤ x) (hxy : x ≤ y) (hy : y ≤ 18446744073709551615) (ht : 0 < t) (hts : t ≤ s) (hs : s ≤ 9223372036854775807) :
    Calls Try.prog 13 #[.float .f64 (dW x.toNat s.toNat), .float .f64 (dW y.toNat t.toNat)] w fun e w' => (∃ c, e = .returned (.int .i64 c) ∧ c ≤ 0) ∧ Below w.heap.size w w' := by
  refine (rcmp_any _ _ w (dW_lt64 _ _ (by omega) (by omega) (by omega)) (dW_lt64 _ _ (by omega) (by omega) (by omega))).mono ?_
  rintro e w' ⟨rfl, hb⟩
  exact ⟨⟨_, rfl, cmpK_le (dW_mono _ _ _ _ (by omega) (by omega) (by omega) (by omega) (by omega)) (dW_lt _ _ (by omega) (by omega) (by omega))⟩, hb⟩

theorem walk_RateGrows (a b n m : Int) (w : World) (ha : (Lit.int .u64 a).wf = true) (hb : (Lit.int .u64 b).wf = true) (hn : (Lit.int .u16 n).wf = true) (hm : (Lit.int .u16 m).wf = true) :
    Calls Try.prog 6 #[.int .u64 a, .int .u64 b, .int .u16 n, .int .u16 m] w fun e w' => e = .returned (.bool true) ∧ Below w.heap.size w w' := by
  obtain ⟨a1, a2⟩ := bounds_u64 ha
  obtain ⟨b1, b2⟩ := bounds_u64 hb
  obtain ⟨n1, n2⟩ := bounds_u16 hn
  obtain ⟨m1, m2⟩ := bounds_u16 hm
  clear ha hb hn hm
  have HB := Lib.hid (Below.refl w.heap.size w)
  rcases Int.lt_trichotomy a b with hab | rfl | hab <;> rcases Int.lt_trichotomy n m with hnm | rfl | hnm
  all_goals
    go_enter Try.func6, Try.ntmps6
    go_wp2_with fail
    refine (of_dW _ _ _ (by omega) (by omega) (by omega) (by omega)).mono ?_
    rintro e w' ⟨rfl, rfl⟩
    go_wp2_with fail
    refine (of_dW _ _ _ (by omega) (by omega) (by omega) (by omega)).mono ?_
    rintro e w' ⟨rfl, rfl⟩
    go_wp2_with fail
    refine (grow_cmp _ _ _ _ _ (by omega) (by omega) (by omega) (by omega) (by omega) (by omega)).mono ?_
    rintro e w_ ⟨⟨c1, rfl, hc1⟩, hb_⟩
    have HB_ := Lib.hid (below_step HB.out HB.out.size hb_)
    clear hb_ HB
    have HB := HB_
    clear HB_
    go_wp2_with fail
    refine (of_dW _ _ _ (by omega) (by omega) (by omega) (by omega)).mono ?_
    rintro e w' ⟨rfl, rfl⟩
    go_wp2_with fail
    refine (of_dW _ _ _ (by omega) (by omega) (by omega) (by omega)).mono ?_
    rintro e w' ⟨rfl, rfl⟩
    go_wp2_with fail
    refine (grow_cmp _ _ _ _ _ (by omega) (by omega) (by omega) (by omega) (by omega) (by omega)).mono ?_
    rintro e w_ ⟨⟨c2, rfl, hc2⟩, hb_⟩
    have HB_ := Lib.hid (below_step HB.out HB.out.size hb_)
    clear hb_ HB
    have HB := HB_
    clear HB_
    go_wp2_with fail
    refine (awake01 _).mono ?_
    rintro e w_ ⟨rfl, hb_⟩
    have HB_ := Lib.hid (below_step HB.out HB.out.size hb_)
    clear hb_ HB
    have HB := HB_
    clear HB_
    go_wp2_with fail
    go_ret
    exact ⟨rfl, HB.out⟩
end Go.Proofs.Ytcbanjbibankgaa

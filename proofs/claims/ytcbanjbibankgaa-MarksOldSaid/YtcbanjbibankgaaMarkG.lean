/- The walk of seisinlaw20.MarksOld. -/
import Derived.Test.YtcbanjbibankgaaMarkF
namespace Go.Proofs.Ytcbanjbibankgaa
open Go.RowKit
set_option linter.unusedVariables false

theorem u16_bounds {m : Int} (h : (Lit.int .u16 m).wf = true) : 0 ≤ m ∧ m ≤ 65535 := by
  simp [Lit.wf, IntKind.min, IntKind.max, IntKind.signed, IntKind.bits] at h; omega
set_option maxRecDepth 100000 in
set_option maxHeartbeats 1000000 in
theorem marksOld_any (x y m : Int) (w : World) (hx : I64 x) (hy : I64 y) (hm0 : 0 ≤ m) (hm1 : m ≤ 65535) : Calls Try.prog 3 #[.int .i64 x, .int .i64 y, .int .u16 m] w fun e w' => e = .returned (.bool true) ∧ Below w.heap.size w w' := by
  have HX := Lib.hid hx; have HY := Lib.hid hy
  obtain ⟨hx1, hx2⟩ := hx
  obtain ⟨hy1, hy2⟩ := hy
  obtain ⟨o, ho⟩ : ∃ o, oldB x y = o := ⟨_, rfl⟩
  have HO := Lib.hid ho
  have vm : IntKind.i64.wrap m = m := IntWalk.i64_in _ (by omega)
  have vm2 : RowKit.wrap64 m = m := by unfold RowKit.wrap64; omega
  have HAW := Lib.hid (fun w => awake20_any w)
  go_enter Try.func3, Try.ntmps3
  go_wp2_with fail
  refine (old_any x y _ HX.out HY.out HO.out).mono ?_
  rintro e w1 ⟨rfl, rfl⟩
  cases o with
  | true =>
    have h := oldB_iff.1 ho
    clear ho
    have l1 : decide (x < 0) = false := by simp; omega
    by_cases hy3 : 549755813888 < y
    · have l2 : decide (549755813888 < y) = true := by simpa using hy3
      by_cases hx3 : 549755813888 < x
      · have l3 : decide (549755813888 < x) = true := by simpa using hx3
        go_wp2_with fail
        refine (rold_any x y _ HX.out HY.out HO.out).mono ?_
        rintro e w1 ⟨rfl, rfl⟩
        go_wp2_with fail
        refine (HAW.out _).mono ?_
        rintro e w1 ⟨rfl, hb⟩
        go_wp2_with fail
        go_ret
        exact ⟨rfl, hb⟩
      · have l3 : decide (549755813888 < x) = false := by simpa using hx3
        have v1 : IntKind.i64.wrap (x + m) = x + m := IntWalk.i64_in _ (by omega)
        have v2 : RowKit.wrap64 (x + m) = x + m := by unfold RowKit.wrap64; omega
        obtain ⟨q, hq⟩ : ∃ q, oldB (x + m) y = q := ⟨_, rfl⟩
        have HQ := Lib.hid hq
        have HXM := Lib.hid (show I64 (x + m) by unfold I64; omega)
        clear hq
        go_wp2_with fail
        refine (old_any (x + m) y _ HXM.out HY.out HQ.out).mono ?_
        rintro e w1 ⟨rfl, rfl⟩
        cases q
        all_goals
          go_wp2_with fail
          refine (rold_any x y _ HX.out HY.out HO.out).mono ?_
          rintro e w1 ⟨rfl, rfl⟩
          go_wp2_with fail
          refine (HAW.out _).mono ?_
          rintro e w1 ⟨rfl, hb⟩
          go_wp2_with fail
          go_ret
          exact ⟨rfl, hb⟩
    · have l2 : decide (549755813888 < y) = false := by simpa using hy3
      have v3 : IntKind.i64.wrap (y + m) = y + m := IntWalk.i64_in _ (by omega)
      have v4 : RowKit.wrap64 (y + m) = y + m := by unfold RowKit.wrap64; omega
      have HQ2 := Lib.hid (show oldB x (y + m) = true from oldB_iff.2 (by omega))
      have HYM := Lib.hid (show I64 (y + m) by unfold I64; omega)
      have hx3 : ¬ 549755813888 < x := by omega
      have l3 : decide (549755813888 < x) = false := by simpa using hx3
      have v1 : IntKind.i64.wrap (x + m) = x + m := IntWalk.i64_in _ (by omega)
      have v2 : RowKit.wrap64 (x + m) = x + m := by unfold RowKit.wrap64; omega
      obtain ⟨q, hq⟩ : ∃ q, oldB (x + m) y = q := ⟨_, rfl⟩
      have HQ := Lib.hid hq
      have HXM := Lib.hid (show I64 (x + m) by unfold I64; omega)
      clear hq
      go_wp2_with fail
      refine (old_any x (y + m) _ HX.out HYM.out HQ2.out).mono ?_
      rintro e w1 ⟨rfl, rfl⟩
      go_wp2_with fail
      refine (old_any (x + m) y _ HXM.out HY.out HQ.out).mono ?_
      rintro e w1 ⟨rfl, rfl⟩
      cases q
      all_goals
        go_wp2_with fail
        refine (rold_any x y _ HX.out HY.out HO.out).mono ?_
        rintro e w1 ⟨rfl, rfl⟩
        go_wp2_with fail
        refine (HAW.out _).mono ?_
        rintro e w1 ⟨rfl, hb⟩
        go_wp2_with fail
        go_ret
        exact ⟨rfl, hb⟩
  | false =>
    have hno : ¬ ((0 ≤ x ∧ x ≤ 1099511627776) ∧ (0 ≤ y ∧ y ≤ 1099511627776) ∧ x + 2 < y) := fun h => by rw [oldB_iff.2 h] at ho; cases ho
    clear ho
    by_cases hx0 : x < 0
    · have l1 : decide (x < 0) = true := by simpa using hx0
      go_wp2_with fail
      refine (rold_any x y _ HX.out HY.out HO.out).mono ?_
      rintro e w1 ⟨rfl, rfl⟩
      go_wp2_with fail
      refine (HAW.out _).mono ?_
      rintro e w1 ⟨rfl, hb⟩
      go_wp2_with fail
      go_ret
      exact ⟨rfl, hb⟩
    · have l1 : decide (x < 0) = false := by simpa using hx0
      by_cases hx3 : 549755813888 < x
      · have l3 : decide (549755813888 < x) = true := by simpa using hx3
        go_wp2_with fail
        refine (rold_any x y _ HX.out HY.out HO.out).mono ?_
        rintro e w1 ⟨rfl, rfl⟩
        go_wp2_with fail
        refine (HAW.out _).mono ?_
        rintro e w1 ⟨rfl, hb⟩
        go_wp2_with fail
        go_ret
        exact ⟨rfl, hb⟩
      · have l3 : decide (549755813888 < x) = false := by simpa using hx3
        have v1 : IntKind.i64.wrap (x + m) = x + m := IntWalk.i64_in _ (by omega)
        have v2 : RowKit.wrap64 (x + m) = x + m := by unfold RowKit.wrap64; omega
        have HQ := Lib.hid (show oldB (x + m) y = false from oldB_no (fun h => by have := oldB_iff.1 h; omega))
        have HXM := Lib.hid (show I64 (x + m) by unfold I64; omega)
        go_wp2_with fail
        refine (old_any (x + m) y _ HXM.out HY.out HQ.out).mono ?_
        rintro e w1 ⟨rfl, rfl⟩
        go_wp2_with fail
        refine (rold_any x y _ HX.out HY.out HO.out).mono ?_
        rintro e w1 ⟨rfl, rfl⟩
        go_wp2_with fail
        refine (HAW.out _).mono ?_
        rintro e w1 ⟨rfl, hb⟩
        go_wp2_with fail
        go_ret
        exact ⟨rfl, hb⟩
theorem marksOld_walk (x y m : Int) (w : World) (hx : (Lit.int .i64 x).wf = true) (hy : (Lit.int .i64 y).wf = true) (hm : (Lit.int .u16 m).wf = true) : Calls Try.prog 3 #[.int .i64 x, .int .i64 y, .int .u16 m] w fun e w' => e = .returned (.bool true) ∧ Below w.heap.size w w' :=
  marksOld_any x y m w (bounds_i64 hx) (bounds_i64 hy) (u16_bounds hm).1 (u16_bounds hm).2
end Go.Proofs.Ytcbanjbibankgaa

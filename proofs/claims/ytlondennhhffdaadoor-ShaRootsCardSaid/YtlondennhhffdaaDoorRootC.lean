/- Layer 3, the document's answer: is a number, to the power k, at most p? -/
import Derived.Test.YtlondennhhffdaaDoorRootB
namespace Go.Proofs.YtlondennhhffdaaDoor
open Go.RowKit Go.Shelf
set_option linter.unusedVariables false

theorem cmpB_ne {v w : List Nat} {i : Nat} (h : v.getD i 0 ≠ w.getD i 0) : cmpB v w (i + 1) = decide (v.getD i 0 < w.getD i 0) := by unfold cmpB; rw [if_neg h]
theorem cmpB_eq {v w : List Nat} {i : Nat} (h : v.getD i 0 = w.getD i 0) : cmpB v w (i + 1) = cmpB v w i := by rw [cmpB, if_pos h]
theorem wB_len (p k : Nat) : (wB p k).length = 2 * k + 4 := by unfold wB; rw [List.length_append, List.length_replicate, dg_len]

set_option maxRecDepth 100000 in
set_option maxHeartbeats 4000000 in
theorem below_any (x p k : Nat) {res : Bool} (hres : belowB x p k = res) (w : World) (hx : x < 18446744073709551616) (hp : p ≤ 400) (hk : k ≤ 3) :
    Calls Tryd.prog 72 #[.int .u64 x, .int .i64 p, .int .i64 k] w fun e w' => e = .returned (.bool res) ∧ Below w.heap.size w w' := by
  have HRES := Lib.hid hres
  have HXL := Lib.hid hx
  have HB := Lib.hid (Below.refl w.heap.size w)
  clear hres hx
  have hkk : (2 : Int) * (k : Int) = ((2 * k : Nat) : Int) := by simp
  obtain ⟨kk, hkk0⟩ : ∃ m, m = 2 * k := ⟨_, rfl⟩
  rw [← hkk0] at hkk
  have hkkb : kk ≤ 6 := by omega
  have HKK := Lib.hid hkk0
  clear hkk0
  have hwp : IntKind.u64.wrap (p : Int) = (p : Int) := by rw [IntKind.wrap_u64]; omega
  go_enter Tryd.func72, Tryd.ntmps72
  go_wp2_with fail
  refine (digits_any x _ HXL.out).mono ?_
  rintro e w1 ⟨A1, c1, rfl, hs, hb_⟩
  have HS := Lib.hid hs
  have HB1 := Lib.hid (HB.out.grow' hb_)
  clear hs hb_ HB
  go_wp2_with fail
  generalize hw_ : World.alloc w1 _ = w2
  obtain ⟨hX_, hb2, hs_⟩ := alloc_eq hw_
  have HV := Lib.hid (show Sl w2 w2.heap.size 1 (some ⟨w1.heap.size, 0, none⟩) 1 ((powB (dg x 4) 0).map U) from hX_.sl rfl)
  have HS2 := Lib.hid (HS.out.grow hb2)
  have HB2 := Lib.hid (HB1.out.grow' hb2)
  clear hw_ hX_ hb2 hs_ HS HB1
  go_loopw [8, 9] (fun v i wr => ∃ j m : Nat, ∃ A c, j ≤ k ∧ m ≤ 13 ∧ i = .int .i64 j ∧ v = .slice A m c ∧ Hid (m = 1 + j * 4) ∧ Hid (Sl wr wr.heap.size 1 A m ((powB (dg x 4) j).map U)) ∧ Hid (Below w2.heap.size w2 wr)) (fun _ i _ => k - (intOf i).toNat)
  case atStart => exact ⟨0, 1, _, _, by omega, by omega, rfl, rfl, Lib.hid rfl, HV, Lib.hid (Below.refl _ _)⟩
  case round =>
    obtain ⟨j, m, A, c, hj, hm, rfl, rfl, hmj, hv, hbw⟩ := hrel
    clear HV
    by_cases hlt : j < k
    · have HSW := Lib.hid ((HS2.out.below hbw.out).more hbw.out.size)
      have hm9 : m ≤ 9 := by have := hmj.out; omega
      go_wp2_with fail
      refine (times_any _ _ _ _ _ _ _ _ _ hv.out HSW.out (by omega) (by omega) (pow_small (dg_small x 4) j) (dg_small x 4)).mono ?_
      rintro e w3 ⟨g, rfl, hs3, hb3⟩
      have HV3 := Lib.hid (show Sl w3 w3.heap.size 1 (some ⟨g, 0, none⟩) (m + 4) ((powB (dg x 4) (j + 1)).map U) from hs3)
      have HB3 := Lib.hid (hbw.out.grow' hb3)
      have HM := Lib.hid (show m + 4 = 1 + (j + 1) * 4 by have := hmj.out; omega)
      clear hs3 hb3
      go_wp2_with fail
      go_roundw
      case rel => exact ⟨j + 1, m + 4, _, _, by omega, by omega, by go_num, rfl, HM, HV3, HB3⟩
      case measure => simp [intOf]; omega
    · obtain rfl : j = k := by omega
      have HV := Lib.hid hv.out
      have HB3 := Lib.hid (HB2.out.grow' hbw.out)
      clear hbw hv HB2 HS2
      rename World => w3
      go_wp2_with fail
      go_loopw [10, 11] (fun v i wr => ∃ q : Nat, ∃ A' c', q ≤ kk ∧ i = .int .i64 q ∧ v = .slice A' q c' ∧ Hid (wr.ownsRow w3.heap.size 68 1 (.slice A' q c') q ((List.replicate q 0).map U)) ∧ Hid (Below w3.heap.size w3 wr)) (fun _ i _ => kk - (intOf i).toNat)
      case atStart => exact ⟨0, none, 0, by omega, rfl, rfl, Lib.hid (by simpa using World.ownsRow_nil _ _ _ _), Lib.hid (Below.refl _ _)⟩
      case round =>
        obtain ⟨q, A', c', hq, rfl, rfl, ho0, hb0⟩ := hrel
        by_cases hlq : q < kk
        · have hbz := hb0.out.size
          go_wp2_with (at_builtin; refine wpl_app1 rfl rfl el_u64 ho0.out rfl (m := 1) rfl rfl ?_ ?_ ?_ ?_ ?_)
          · rfl
          · omega
          · omega
          · exact hbz
          · intro A4 c4 w4 ho hg hA
            have HO := Lib.hid (show w4.ownsRow w3.heap.size 68 1 (.slice A4 (q + 1) c4) (q + 1) ((List.replicate (q + 1) 0).map U) by
              rw [List.replicate_succ', List.map_append, List.map_replicate]; exact ho)
            have HB4 := Lib.hid (show Below w3.heap.size w3 w4 from hb0.out.grown hg hb0.out.size (fun g hg => own_from ho0.out g hg))
            clear ho hg hA
            go_wp2_with fail
            go_roundw
            case rel => exact ⟨q + 1, A4, c4, by omega, by go_num, rfl, HO, HB4⟩
            case measure => simp [intOf]; omega
        · obtain rfl : q = kk := by omega
          rename World => w4
          have HB0 := hb0
          have HO0 := ho0
          clear ho0 hb0
          go_wp2_with fail
          refine (digits_any p _ (by omega)).mono ?_
          rintro e w5 ⟨A5, c5, rfl, hs5, hb5⟩
          have HS5 := Lib.hid hs5
          have HO5 := Lib.hid (own_below HO0.out hb5)
          have HB5 := Lib.hid (HB0.out.grow' hb5)
          have HA5 := Lib.hid (all_u (dg p 4))
          clear hs5 hb5 HO0 HB0
          go_wp2_with (at_builtin; refine wpl_apps rfl rfl el_u64 HO5.out rfl HS5.out rfl HA5.out (by omega) (by omega) HB5.out.size ?_)
          intro A6 c6 w6 ho hg hA
          have HW6 := Lib.hid (show Sl w6 w6.heap.size 1 A6 (q + 4) ((wB p j).map U) by
            have h := Sl.of_own ho
            unfold wB; rw [List.map_append, List.map_replicate, ← HKK.out]; exact h)
          have HB6 := Lib.hid (show Below w3.heap.size w3 w6 from HB5.out.grown hg HB5.out.size (fun g hg => own_from HO5.out g hg))
          have HV6 := Lib.hid ((HV.out.below HB6.out).more HB6.out.size)
          have HBA := Lib.hid (HB3.out.grow' HB6.out)
          clear ho hg hA HO5 HS5 HB5 HB6 HV HB3
          by_cases hcm : m < q + 4
          · obtain ⟨mx, hmx⟩ : ∃ mx, mx = q + 4 := ⟨_, rfl⟩
            have hmxb : mx ≤ 13 := by omega
            have HMX := Lib.hid (show cmpB (powB (dg x 4) j) (wB p j) mx = res by
              have h := HRES.out
              unfold belowB at h
              rw [← h, hmx]; congr 1; have h1 := hmj.out; have h2 := HKK.out; omega)
            have e1 : ((m : Int) < (q : Int) + 4) = True := eq_true (by omega)
            have e2 : ((q : Int) + 4 ≤ (m : Int)) = False := eq_false (by omega)
            have e3 : ((m : Int) ≤ (q : Int) + 4) = True := eq_true (by omega)
            have hmxi : (mx : Int) = (q : Int) + 4 := by omega
            have HMI := Lib.hid hmxi
            clear hmx hmxi hcm
            go_wp2_with fail
            go_loopw [13] (fun i wr => ∃ r : Nat, r ≤ mx ∧ i = .int .i64 ((r : Int) - 1) ∧ Hid (cmpB (powB (dg x 4) j) (wB p j) r = res) ∧ wr = w6) (fun i _ => (intOf i + 1).toNat)
            case atStart => exact ⟨mx, Nat.le_refl _, by have := HMI.out; first | rfl | (congr 1; omega), HMX, rfl⟩
            case round =>
              obtain ⟨r, hr, rfl, hcr, rfl⟩ := hrel
              by_cases hr0 : 0 < r
              · obtain ⟨i, rfl⟩ : ∃ i, r = i + 1 := ⟨r - 1, by omega⟩
                have hi1 : (((i + 1 : Nat) : Int) - 1) = (i : Int) := by omega
                rw [hi1]
                obtain ⟨dv, hdv⟩ : ∃ d, d = (powB (dg x 4) j).getD i 0 := ⟨_, rfl⟩
                obtain ⟨dw, hdw⟩ : ∃ d, d = (wB p j).getD i 0 := ⟨_, rfl⟩
                have HDV := Lib.hid hdv; have HDW := Lib.hid hdw
                clear hdv hdw
                have hd1 := digit_any A m c i _ _ HV6.out
                have hd2 := digit_any A6 (q + 4) c6 i _ _ HW6.out
                rw [← HDV.out] at hd1
                rw [← HDW.out] at hd2
                have H1 := Lib.hid hd1; have H2 := Lib.hid hd2
                clear hd1 hd2
                by_cases hdd : dv = dw
                · have HN := Lib.hid (show cmpB (powB (dg x 4) j) (wB p j) i = res by rw [← hcr.out, cmpB_eq (by rw [← HDV.out, ← HDW.out]; exact hdd)])
                  subst hdd
                  go_wp2_with fail
                  refine H1.out.mono ?_
                  rintro e w7 ⟨rfl, hw7⟩
                  rw [hw7]
                  clear hw7
                  clear w7
                  go_wp2_with fail
                  refine H2.out.mono ?_
                  rintro e w7 ⟨rfl, hw7⟩
                  rw [hw7]
                  clear hw7
                  clear w7
                  go_wp2_with fail
                  go_roundw
                  case rel => exact ⟨i, by omega, by first | rfl | (congr 1; omega), HN, by trivial⟩
                  case measure => first | (simp [intOf]; done) | (simp [intOf]; omega)
                · have HN := Lib.hid (show res = decide (dv < dw) by rw [← hcr.out, cmpB_ne (by rw [← HDV.out, ← HDW.out]; exact hdd), ← HDV.out, ← HDW.out])
                  have n1 : ((dv : Int) != (dw : Int)) = true := by simp; omega
                  have n2 : ((dv : Int) = (dw : Int)) = False := eq_false (by omega)
                  have n3 : decide ((dv : Int) < (dw : Int)) = decide (dv < dw) := decide_eq_decide.2 (by omega)
                  go_wp2_with fail
                  refine H1.out.mono ?_
                  rintro e w7 ⟨rfl, hw7⟩
                  rw [hw7]
                  clear hw7
                  clear w7
                  go_wp2_with fail
                  refine H2.out.mono ?_
                  rintro e w7 ⟨rfl, hw7⟩
                  rw [hw7]
                  clear hw7
                  clear w7
                  go_wp2_with fail
                  refine H1.out.mono ?_
                  rintro e w7 ⟨rfl, hw7⟩
                  rw [hw7]
                  clear hw7
                  clear w7
                  go_wp2_with fail
                  refine H2.out.mono ?_
                  rintro e w7 ⟨rfl, hw7⟩
                  rw [hw7]
                  clear hw7
                  clear w7
                  go_wp2_with fail
                  go_ret
                  exact ⟨by rw [HN.out]; rfl, HBA.out⟩
              · obtain rfl : r = 0 := by omega
                have HN := Lib.hid (show res = true by rw [← hcr.out]; rfl)
                go_wp2_with fail
                go_ret
                exact ⟨by rw [HN.out]; rfl, HBA.out⟩
          · obtain ⟨mx, hmx⟩ : ∃ mx, mx = m := ⟨_, rfl⟩
            have hmxb : mx ≤ 13 := by omega
            have HMX := Lib.hid (show cmpB (powB (dg x 4) j) (wB p j) mx = res by
              have h := HRES.out
              unfold belowB at h
              rw [← h, hmx]; congr 1; have h1 := hmj.out; have h2 := HKK.out; omega)
            have e1 : ((m : Int) < (q : Int) + 4) = False := eq_false (by omega)
            have e2 : ((q : Int) + 4 ≤ (m : Int)) = True := eq_true (by omega)
            have hmxi : (mx : Int) = (m : Int) := by omega
            have HMI := Lib.hid hmxi
            clear hmx hmxi hcm
            go_wp2_with fail
            go_loopw [13] (fun i wr => ∃ r : Nat, r ≤ mx ∧ i = .int .i64 ((r : Int) - 1) ∧ Hid (cmpB (powB (dg x 4) j) (wB p j) r = res) ∧ wr = w6) (fun i _ => (intOf i + 1).toNat)
            case atStart => exact ⟨mx, Nat.le_refl _, by have := HMI.out; first | rfl | (congr 1; omega), HMX, rfl⟩
            case round =>
              obtain ⟨r, hr, rfl, hcr, rfl⟩ := hrel
              by_cases hr0 : 0 < r
              · obtain ⟨i, rfl⟩ : ∃ i, r = i + 1 := ⟨r - 1, by omega⟩
                have hi1 : (((i + 1 : Nat) : Int) - 1) = (i : Int) := by omega
                rw [hi1]
                obtain ⟨dv, hdv⟩ : ∃ d, d = (powB (dg x 4) j).getD i 0 := ⟨_, rfl⟩
                obtain ⟨dw, hdw⟩ : ∃ d, d = (wB p j).getD i 0 := ⟨_, rfl⟩
                have HDV := Lib.hid hdv; have HDW := Lib.hid hdw
                clear hdv hdw
                have hd1 := digit_any A m c i _ _ HV6.out
                have hd2 := digit_any A6 (q + 4) c6 i _ _ HW6.out
                rw [← HDV.out] at hd1
                rw [← HDW.out] at hd2
                have H1 := Lib.hid hd1; have H2 := Lib.hid hd2
                clear hd1 hd2
                by_cases hdd : dv = dw
                · have HN := Lib.hid (show cmpB (powB (dg x 4) j) (wB p j) i = res by rw [← hcr.out, cmpB_eq (by rw [← HDV.out, ← HDW.out]; exact hdd)])
                  subst hdd
                  go_wp2_with fail
                  refine H1.out.mono ?_
                  rintro e w7 ⟨rfl, hw7⟩
                  rw [hw7]
                  clear hw7
                  clear w7
                  go_wp2_with fail
                  refine H2.out.mono ?_
                  rintro e w7 ⟨rfl, hw7⟩
                  rw [hw7]
                  clear hw7
                  clear w7
                  go_wp2_with fail
                  go_roundw
                  case rel => exact ⟨i, by omega, by first | rfl | (congr 1; omega), HN, by trivial⟩
                  case measure => first | (simp [intOf]; done) | (simp [intOf]; omega)
                · have HN := Lib.hid (show res = decide (dv < dw) by rw [← hcr.out, cmpB_ne (by rw [← HDV.out, ← HDW.out]; exact hdd), ← HDV.out, ← HDW.out])
                  have n1 : ((dv : Int) != (dw : Int)) = true := by simp; omega
                  have n2 : ((dv : Int) = (dw : Int)) = False := eq_false (by omega)
                  have n3 : decide ((dv : Int) < (dw : Int)) = decide (dv < dw) := decide_eq_decide.2 (by omega)
                  go_wp2_with fail
                  refine H1.out.mono ?_
                  rintro e w7 ⟨rfl, hw7⟩
                  rw [hw7]
                  clear hw7
                  clear w7
                  go_wp2_with fail
                  refine H2.out.mono ?_
                  rintro e w7 ⟨rfl, hw7⟩
                  rw [hw7]
                  clear hw7
                  clear w7
                  go_wp2_with fail
                  refine H1.out.mono ?_
                  rintro e w7 ⟨rfl, hw7⟩
                  rw [hw7]
                  clear hw7
                  clear w7
                  go_wp2_with fail
                  refine H2.out.mono ?_
                  rintro e w7 ⟨rfl, hw7⟩
                  rw [hw7]
                  clear hw7
                  clear w7
                  go_wp2_with fail
                  go_ret
                  exact ⟨by rw [HN.out]; rfl, HBA.out⟩
              · obtain rfl : r = 0 := by omega
                have HN := Lib.hid (show res = true by rw [← hcr.out]; rfl)
                go_wp2_with fail
                go_ret
                exact ⟨by rw [HN.out]; rfl, HBA.out⟩
end Go.Proofs.YtlondennhhffdaaDoor

/- The given card HeaderRowCardSaid, out of the walk hdrRow_walk: for every input the law returns true, and each argument reads as it did; the tables of package sha are tied to the program's text. No condition. -/
import Derived.Test.YtphmefhnffoafaaDoorHeaderFollowsB7
import Derived.Test.YtphmefhnffoafaaDoorHeaderFollowsB17
import Derived.Test.YtphmefhnffoafaaDoorHeaderRowB1
import Derived.Test.YtphmefhnffoafaaDoorHeaderRowB2
import Derived.Test.YtphmefhnffoafaaDoorHeaderFollowsB2
import Derived.ShutString
import Derived.ChangeOld
import Derived.Below
set_option linter.unusedSimpArgs false
/- The walk of HeaderRow. Printed by mkhdrr.py. -/
namespace Go.Proofs.YtphmefhnffoafaaDoor
open Go.RowKit Go.Shelf
set_option linter.unusedVariables false
set_option maxRecDepth 100000 in
set_option maxHeartbeats 16000000 in
theorem hdrRow_any (A : Option Addr) (n c : Nat) (ls : List (List UInt8)) (z : Int) (w : World) (hl : LS w A n c ls) (hz : I64 z) (ht : Tabs w) :
    Calls Tryd.prog 5 #[.slice A n c, .int .i64 z] w fun e w' => e = .returned (.bool true) ∧ Below w.heap.size w w' := by
  have HT0 := Lib.hid ht; have HL0 := Lib.hid hl
  obtain ⟨w_, hw⟩ : ∃ x, x = w := ⟨_, rfl⟩
  have HB := Lib.hid (show Below w.heap.size w w_ by rw [hw]; exact Below.refl _ _)
  have HCC := Lib.hid (show n ≤ c by obtain ⟨_, _, _, h⟩ := hl; exact h)
  have HHD := Lib.hid (fun k => hv_of (rowH_ok (ls := ls) k))
  suffices H : Calls Tryd.prog 5 #[.slice A n c, .int .i64 z] w_ fun e w' => e = .returned (.bool true) ∧ Below w.heap.size w w' by rw [hw] at H; exact H
  clear hw hl ht
  by_cases h12 : n ≤ 12
  · have g1 : decide (12 < (n : Int)) = false := by simp; omega
    go_enter Tryd.func5, Tryd.ntmps5
    go_wp2_with (first | (with_reducible refine wpl_alloc (o := ⟨some 6, _, _, _, _, _⟩) rfl rfl zero_header ?_))
    intro w2_ hb2_ hb_ hsz2_
    have HX_ := Lib.hid (at_mk hb2_ len_header)
    clear hb2_ hsz2_
    have HG_ := Lib.hid HB.out.size
    have HB_ := Lib.hid (HB.out.grow' hb_)
    clear HB
    have HB := HB_
    clear HB_
    generalize hg_ : w_.heap.size = g6 at HX_ HG_ ⊢
    clear hg_
    have HV_g := HG_
    clear HG_
    have HV := HX_
    clear hb_ HX_
    try clear w_
    rename World => w_
    have HVG := HV_g
    clear HV_g
    have HHV0 := Lib.hid (show hdrV noHdr = hdrV (rowH ls 0) from rfl)
    rw [HHV0.out] at HV
    go_wp2_with fail
    go_loopw [5, 7] (fun rv iv wr => ∃ k : Nat, ∃ A' c', k ≤ n ∧ iv = .int .i64 k ∧ rv = .slice A' k c' ∧ Hid (∀ j l, j < k → ls[j]? = some l → l.length ≤ 20) ∧ Hid (At wr g6 25 67 (hdrV (rowH ls k)) ∧ OwnH wr (g6 + 1) A' k c' (hdrsV (rowUp ls k)) ∧ Below w.heap.size w wr)) (fun _ iv _ => n - (intOf iv).toNat)
    case atStart => exact ⟨0, none, 0, by omega, rfl, rfl, Lib.hid (fun j l h => by omega), Lib.hid ⟨HV.out, World.ownsRow_nil _ _ _ _, HB.out⟩⟩
    case round =>
      obtain ⟨k, A9, c9, hk, rfl, rfl, hall, hI⟩ := hrel
      clear HV HB
      have HV := Lib.hid hI.out.1; have HO := Lib.hid hI.out.2.1; have HB := Lib.hid hI.out.2.2
      clear hI
      by_cases hlt : k < n
      · have HL := Lib.hid (HL0.out.grow HB.out)
        obtain ⟨b1, o1, A3, n3, c3, l, rfl, hl1, hk1, hn3, hc3, hs3⟩ := HL.out.at2 hlt
        have HK1 := Lib.hid hk1; have HS3 := Lib.hid hs3; have HLL := Lib.hid hl1; have HN3 := Lib.hid hn3
        have HGD := Lib.hid (show ls.getD k [] = l by rw [List.getD_eq_getElem?_getD, hl1]; rfl)
        clear hl1 hs3 hn3 HL
        unfold KeepC at hk1
        by_cases h20 : n3 ≤ 20
        · have g2 : decide (20 < (n3 : Int)) = false := by simp; omega
          have HALL := Lib.hid (show ∀ j l, j < k + 1 → ls[j]? = some l → l.length ≤ 20 from fun j l' hj hl' => by
            by_cases hjk : j < k
            · exact hall.out j l' hjk hl'
            · obtain rfl : j = k := by omega
              have h1 := HLL.out
              rw [hl'] at h1
              have h2 := HN3.out
              cases h1; omega)
          have q1 := u64_keep (k := k) (by omega)
          have v1 : IntKind.i64.wrap ((k : Int) + 1) = (k : Int) + 1 := IntWalk.i64_in _ (by omega)
          have v2 : RowKit.wrap64 ((k : Int) + 1) = (k : Int) + 1 := wrap64_in _ (by omega)
          have V1 := Lib.hid v1; have V2 := Lib.hid v2; have Q1 := Lib.hid q1
          clear v1 v2 q1
          obtain ⟨ev, hev⟩ : ∃ v, v = entV (entK k) := ⟨_, rfl⟩
          have BE := Lib.hid (built_entK (k := k))
          rw [← hev] at BE
          have HEV := Lib.hid hev
          clear hev
          obtain ⟨hv, hhv⟩ : ∃ v, v = hdrV (rowH ls (k + 1)) := ⟨_, rfl⟩
          have HHV := Lib.hid hhv
          have HD := Lib.hid (show YtphmefhnffoafaaDoor.HV hv by rw [hhv]; exact HHD.out (k + 1))
          have IN := Lib.hid (show hv[0]? = some (.int .i64 5) ∧ hv[1]? = some (.int .i64 ((k : Int) + 1)) by
            have h1 := row_all ls k (by omega)
            have h2 := hdr_at (rowH_ok (ls := ls) (k + 1))
            rw [h1.2.1, h1.2.2.1] at h2
            rw [hhv]; exact ⟨h2.1, h2.2.1⟩)
          obtain ⟨pv, hpv⟩ : ∃ v, v = hdrV (rowH ls k) := ⟨_, rfl⟩
          have HPV := Lib.hid hpv
          obtain ⟨fi, hfi⟩ : ∃ f, f = decide (k = 0) := ⟨_, rfl⟩
          have HFI := Lib.hid hfi
          have e1 : ((k : Int) == 0) = fi := by rw [hfi, Bool.eq_iff_iff]; simp
          have e2 : decide (0 < (k : Int)) = !fi := by rw [hfi, Bool.eq_iff_iff]; simp; omega
          have e3 : decide (0 < k) = !fi := by rw [hfi, Bool.eq_iff_iff]; simp; omega
          have NX := Lib.hid (fun w A c => nextK_any (ls := ls) (l := l) (A := A) (c := c) hpv (show hv = _ by rw [hhv, ← HGD.out]; rfl) hfi (by omega) (by have := HN3.out; omega) w)
          have FO : Hid (fi = false → ∀ w, Tabs w → Calls Tryd.prog 21 #[.agg pv.toArray, .agg hv.toArray] w fun e w' => e = .returned (.bool true) ∧ Below w.heap.size w w') := Lib.hid (by
            intro h1 w ht
            rw [hpv, hhv]
            have hk0 : k ≠ 0 := by rw [hfi] at h1; simpa using h1
            obtain ⟨j, rfl⟩ : ∃ j, k = j + 1 := ⟨k - 1, by omega⟩
            have h3 := fol_any (rowH ls (j + 1)) (rowH ls (j + 2)) w (rowH_ok _) (rowH_ok _) ht
            rw [row_follows (by omega)] at h3
            exact h3)
          rw [← hpv] at HV
          clear hhv hpv hfi
          have q1 := Q1.out
          go_wp2_with (first | (with_reducible refine wpl_stop (o := ⟨some 44, _, _, _, _, _⟩) ?_))
          refine stop_go ?_
          refine wpl_build rfl rfl BE.out ?_
          go_wp2_with fail
          clear q1
          refine (leavesK_any HEV.out (by omega) hc3 (by omega) _ HS3.out).mono ?_
          rintro e w2_ ⟨A1, c1, rfl, hl_, hb_⟩
          have HL1 := Lib.hid hl_
          clear hl_ hk1
          have hb_ := hb_
          clear hb_
          have HB_ := Lib.hid (HB.out.grow' hb_)
          clear HB
          have HB := HB_
          clear HB_
          have HV_ := Lib.hid (HV.out.grow hb_)
          clear HV
          have HV := HV_
          clear HV_
          have HO_ := Lib.hid (HO.out.grow hb_)
          clear HO
          have HO := HO_
          clear HO_
          have HK1_ := Lib.hid (HK1.out.grow hb_)
          clear HK1
          have HK1 := HK1_
          clear HK1_
          clear hb_
          try clear w_
          rename World => w_
          have HT := Lib.hid (HT0.out.grow HB.out)
          go_wp2_with (first | (with_reducible refine wpl_loadb (o := ⟨some 51, _, _, _, _, _⟩) rfl rfl row_header HV.out.blk rfl HV.out.len ?_))
          go_wp2_with fail
          refine (NX.out _ _ _ HL1.out HT.out).mono ?_
          rintro e w_ ⟨rfl, hb_⟩
          have HB_ := Lib.hid (HB.out.grow' hb_)
          clear HB
          have HB := HB_
          clear HB_
          have HV_ := Lib.hid (HV.out.grow hb_)
          clear HV
          have HV := HV_
          clear HV_
          have HO_ := Lib.hid (HO.out.grow hb_)
          clear HO
          have HO := HO_
          clear HO_
          clear hb_
          go_wp2_with (first | (with_reducible refine wpl_alloc (o := ⟨some 10, _, _, _, _, _⟩) rfl rfl zero_header ?_))
          intro w1_ hb1_ hbw1_ hsz1_
          have HB1_ := Lib.hid (at_mk hb1_ len_header)
          have HBW1_ := Lib.hid hbw1_
          have HZ1_ := Lib.hid hsz1_
          clear hb1_ hbw1_ hsz1_
          go_wp2_with (first | (with_reducible refine wpl_storeb (o := ⟨none, .store _ _ _, _, _, _, _⟩) rfl rfl row_header HB1_.out.blk rfl rfl HB1_.out.len HD.out.len HD.out.one ?_))
          intro w2_ hb2_ hg2_ hsz2_
          have hb_ := var_grow HBW1_.out HZ1_.out hg2_
          have HX_ := Lib.hid (at_mk hb2_ HD.out.len)
          clear hb2_ hg2_ hsz2_ HB1_ HBW1_ HZ1_
          have HB_ := Lib.hid (HB.out.grow' hb_)
          clear HB
          have HB := HB_
          clear HB_
          have HV_ := Lib.hid (HV.out.grow hb_)
          clear HV
          have HV := HV_
          clear HV_
          have HO_ := Lib.hid (HO.out.grow hb_)
          clear HO
          have HO := HO_
          clear HO_
          generalize hg_ : w_.heap.size = g10 at HX_ ⊢
          clear hg_
          have HN := HX_
          clear hb_ HX_
          clear w1_
          try clear w_
          rename World => w_
          clear HL1 HT NX
          have c0 := HN.out.blk.at_ IN.out.1
          have c1 := HN.out.blk.at_ IN.out.2
          have v1 := V1.out; have v2 := V2.out
          cases fi with
          | true =>
            simp only [Bool.not_true] at e2 e3
            go_wp2_with (first | (with_reducible refine wpl_loadb (o := ⟨some 87, _, _, _, _, _⟩) rfl rfl row_header HN.out.blk rfl HN.out.len ?_) | (with_reducible refine wpl_storeb (o := ⟨none, .store _ _ _, _, _, _, _⟩) rfl rfl row_header HV.out.blk rfl rfl HV.out.len HD.out.len HD.out.one ?_))
            intro w2_ hb2_ hg2_ hsz2_
            have HV_ := Lib.hid (at_mk hb2_ HD.out.len)
            have HO_ := Lib.hid (HO.out.far hg2_)
            have HB_ := Lib.hid (put_below HB.out HVG.out hg2_)
            clear hb2_ hg2_ hsz2_ HV HO HB HN
            try clear c0 c1
            have HV := HV_; have HO := HO_; have HB := HB_
            clear HV_ HO_ HB_
            try clear w_
            rename World => w_
            have hlv := HD.out.len
            have HGZ := Lib.hid (Nat.succ_le_of_lt HV.out.blk.lt)
            have HO3 := Lib.hid (show w_.ownsRow (g6 + 1) 25 67 (.slice A9 k c9) k (hdrsV (rowUp ls k)) from HO.out)
            go_wp2_with (first | (with_reducible refine wpl_loadb (o := ⟨some 89, _, _, _, _, _⟩) rfl rfl row_header HV.out.blk rfl HV.out.len ?_) | (at_builtin; refine wpl_app1 rfl rfl el_header HO3.out rfl (m := 1) rfl ?_ ?_ ?_ ?_ ?_ ?_))
            · refine (Array.length_toList ..).symm.trans ?_
              rw [fold_setH _ hv (by rw [HD.out.len]; rfl), HD.out.len]
            · rw [fold_setH _ hv (by rw [HD.out.len]; rfl)]; exact HD.out.one
            · clear v1 v2; omega
            · clear v1 v2; omega
            · exact HGZ.out
            intro A4 c4 w4_ ho_ hg_ hA_
            clear hlv
            rw [fold_setH _ hv (by rw [HD.out.len]; rfl)] at ho_
            have hne_ := own_from HO3.out
            have HV_ := Lib.hid (show At w4_ g6 25 67 hv from at_mk (HV.out.blk.grown hg_ (fun h => by have := hne_ _ h.symm; omega)) HV.out.len)
            have HB_ := Lib.hid (below_grown HB.out hg_ HB.out.size (fun x hx => by have := hne_ _ hx; have := HVG.out; omega))
            have HO_ := Lib.hid (show OwnH w4_ (g6 + 1) A4 (k + 1) c4 (hdrsV (rowUp ls (k + 1))) by rw [rowUp_succ, hdrsV_snoc, ← HHV.out]; exact ho_)
            clear ho_ hg_ hA_ hne_ HV HO HO3 HB HGZ
            have HV := HV_; have HO := HO_; have HB := HB_
            clear HV_ HO_ HB_
            rw [HHV.out] at HV
            go_wp2_with fail
            go_roundw
            all_goals clear v1 v2
            case rel => exact ⟨k + 1, A4, c4, by omega, by go_num, rfl, HALL, Lib.hid ⟨HV.out, HO.out, HB.out⟩⟩
            case measure => simp [intOf]; omega
          | false =>
            simp only [Bool.not_false] at e2 e3
            have FO2 := Lib.hid (FO.out (by first | trivial | rfl))
            have HT := Lib.hid (HT0.out.grow HB.out)
            go_wp2_with (first | (with_reducible refine wpl_loadb (o := ⟨_, .load _ _, _, _, _, _⟩) rfl rfl row_header HV.out.blk rfl HV.out.len ?_) | (with_reducible refine wpl_loadw (o := ⟨_, .load _ _, _, _, _, _⟩) (by first | rfl | (go_simp; done) | fail) rfl row_header HV.out.blk rfl HV.out.len ?_) | (with_reducible refine wpl_loadb (o := ⟨_, .load _ _, _, _, _, _⟩) rfl rfl row_header HN.out.blk rfl HN.out.len ?_) | (with_reducible refine wpl_loadw (o := ⟨_, .load _ _, _, _, _, _⟩) (by first | rfl | (go_simp; done) | fail) rfl row_header HN.out.blk rfl HN.out.len ?_))
            clear c0 c1
            go_wp2_with fail
            refine (FO2.out _ HT.out).mono ?_
            rintro e w_ ⟨rfl, hb_⟩
            have HB_ := Lib.hid (HB.out.grow' hb_)
            clear HB
            have HB := HB_
            clear HB_
            have HV_ := Lib.hid (HV.out.grow hb_)
            clear HV
            have HV := HV_
            clear HV_
            have HO_ := Lib.hid (HO.out.grow hb_)
            clear HO
            have HO := HO_
            clear HO_
            have HN_ := Lib.hid (HN.out.grow hb_)
            clear HN
            have HN := HN_
            clear HN_
            clear hb_
            go_wp2_with (first | (with_reducible refine wpl_loadb (o := ⟨some 87, _, _, _, _, _⟩) rfl rfl row_header HN.out.blk rfl HN.out.len ?_) | (with_reducible refine wpl_storeb (o := ⟨none, .store _ _ _, _, _, _, _⟩) rfl rfl row_header HV.out.blk rfl rfl HV.out.len HD.out.len HD.out.one ?_))
            intro w2_ hb2_ hg2_ hsz2_
            have HV_ := Lib.hid (at_mk hb2_ HD.out.len)
            have HO_ := Lib.hid (HO.out.far hg2_)
            have HB_ := Lib.hid (put_below HB.out HVG.out hg2_)
            clear hb2_ hg2_ hsz2_ HV HO HB HN
            try clear c0 c1
            have HV := HV_; have HO := HO_; have HB := HB_
            clear HV_ HO_ HB_
            try clear w_
            rename World => w_
            have hlv := HD.out.len
            have HGZ := Lib.hid (Nat.succ_le_of_lt HV.out.blk.lt)
            have HO3 := Lib.hid (show w_.ownsRow (g6 + 1) 25 67 (.slice A9 k c9) k (hdrsV (rowUp ls k)) from HO.out)
            go_wp2_with (first | (with_reducible refine wpl_loadb (o := ⟨some 89, _, _, _, _, _⟩) rfl rfl row_header HV.out.blk rfl HV.out.len ?_) | (at_builtin; refine wpl_app1 rfl rfl el_header HO3.out rfl (m := 1) rfl ?_ ?_ ?_ ?_ ?_ ?_))
            · refine (Array.length_toList ..).symm.trans ?_
              rw [fold_setH _ hv (by rw [HD.out.len]; rfl), HD.out.len]
            · rw [fold_setH _ hv (by rw [HD.out.len]; rfl)]; exact HD.out.one
            · clear v1 v2; omega
            · clear v1 v2; omega
            · exact HGZ.out
            intro A4 c4 w4_ ho_ hg_ hA_
            clear hlv
            rw [fold_setH _ hv (by rw [HD.out.len]; rfl)] at ho_
            have hne_ := own_from HO3.out
            have HV_ := Lib.hid (show At w4_ g6 25 67 hv from at_mk (HV.out.blk.grown hg_ (fun h => by have := hne_ _ h.symm; omega)) HV.out.len)
            have HB_ := Lib.hid (below_grown HB.out hg_ HB.out.size (fun x hx => by have := hne_ _ hx; have := HVG.out; omega))
            have HO_ := Lib.hid (show OwnH w4_ (g6 + 1) A4 (k + 1) c4 (hdrsV (rowUp ls (k + 1))) by rw [rowUp_succ, hdrsV_snoc, ← HHV.out]; exact ho_)
            clear ho_ hg_ hA_ hne_ HV HO HO3 HB HGZ
            have HV := HV_; have HO := HO_; have HB := HB_
            clear HV_ HO_ HB_
            rw [HHV.out] at HV
            go_wp2_with fail
            go_roundw
            all_goals clear v1 v2
            case rel => exact ⟨k + 1, A4, c4, by omega, by go_num, rfl, HALL, Lib.hid ⟨HV.out, HO.out, HB.out⟩⟩
            case measure => simp [intOf]; omega
        · have g2 : decide (20 < (n3 : Int)) = true := by simp; omega
          have HT := Lib.hid (HT0.out.grow HB.out)
          go_wp2_with fail
          refine (awake10_any _ HT.out).mono ?_
          rintro e w_ ⟨rfl, hb_⟩
          have HB_ := Lib.hid (HB.out.grow' hb_)
          clear HB
          have HB := HB_
          clear HB_
          have HT_ := Lib.hid (HT.out.grow hb_)
          clear HT
          have HT := HT_
          clear HT_
          clear hb_
          go_wp2_with fail
          go_ret
          exact ⟨rfl, HB.out⟩
      · obtain rfl : n = k := by omega
        rename World => w_
        by_cases h2 : n < 2
        · have g3 : decide ((n : Int) < 2) = true := by simp; omega
          have HT := Lib.hid (HT0.out.grow HB.out)
          go_wp2_with fail
          refine (awake10_any _ HT.out).mono ?_
          rintro e w_ ⟨rfl, hb_⟩
          have HB_ := Lib.hid (HB.out.grow' hb_)
          clear HB
          have HB := HB_
          clear HB_
          have HT_ := Lib.hid (HT.out.grow hb_)
          clear HT
          have HT := HT_
          clear HT_
          clear hb_
          go_wp2_with fail
          go_ret
          exact ⟨rfl, HB.out⟩
        · have g3 : decide ((n : Int) < 2) = false := by simp; omega
          obtain ⟨gr, hgr, _, _, _⟩ := own_form (show w_.ownsRow (g6 + 1) 25 67 (.slice A9 n c9) n (hdrsV (rowUp ls n)) from HO.out) (by omega)
          subst hgr
          obtain ⟨m, hm⟩ : ∃ m : Nat, z % ((n : Int) - 1) = (m : Int) := ⟨(z % ((n : Int) - 1)).toNat, by have := Int.emod_nonneg z (b := (n : Int) - 1) (by omega); omega⟩
          have hmn : m + 1 < n := by have := Int.emod_lt_of_pos z (b := (n : Int) - 1) (by omega); omega
          have hmn0 : m < n := by omega
          have HM := Lib.hid hm
          have v3 : IntKind.i64.wrap ((n : Int) - 1) = (n : Int) - 1 := IntWalk.i64_in _ (by omega)
          have v4 : RowKit.wrap64 ((n : Int) - 1) = (n : Int) - 1 := wrap64_in _ (by clear v3; omega)
          clear hm HV HVG
          have HPA := Lib.hid (fun w => pick_any z ((n : Int) - 1) w hz.1 hz.2 (by clear v3 v4; omega) (by clear v3 v4; omega))
          go_wp2_with fail
          refine (HPA.out _).mono ?_
          rintro e w1 ⟨rfl, hw1⟩
          rw [hw1, HM.out]
          clear hw1 v3 v4 HM
          clear w1
          have HL := Lib.hid (HL0.out.grow HB.out)
          obtain ⟨b1, o1, A3, n3, c3, l, hA3, hl1, hk1, hn3, hc3, hs3⟩ := HL.out.at2 (show m < n by omega)
          subst hA3
          have h20 : n3 ≤ 20 := by rw [hn3]; exact hall.out m l (by omega) hl1
          have HLN := Lib.hid hn3
          have HK1 := Lib.hid hk1
          clear hk1 hn3 HL hall
          have hk2 := HK1.out.grow (show Grow w_ (w_.alloc (.cells #[] 5)) from (Below.refl w_.heap.size w_).alloc (Nat.le_refl _) (.cells #[] 5))
          unfold KeepC at hk2
          have HN0 := Lib.hid (World.ownsRow_lit (base := w_.heap.size) (e := 5) (size := 1) w_ #[] 0 (Nat.le_refl _) (by simp [maxLen]) rfl)
          have HSa := Lib.hid (hs3.alloc (Nat.le_refl _) (.cells #[] 5))
          have HA := Lib.hid (all_bytes l)
          have HLM := Lib.hid hl1
          clear hs3 hl1
          go_wp2_with (at_builtin; refine wpl_apps rfl rfl el_u8 HN0.out rfl HSa.out rfl HA.out (by omega) (by omega) (Nat.le_of_lt (by simp)) ?_)
          intro A71 c71 w4 ho hg hA
          have HG4 := Lib.hid (show Grow w_ w4 from ((Below.refl w_.heap.size w_).alloc (Nat.le_refl _) (.cells #[] 5)).grown hg (by simp) (by intro k hk; cases hk; exact Nat.le_refl _))
          have HO4 := Lib.hid ho
          clear ho hg hA HN0 HSa hk2 HK1
          have HSZ := Lib.hid (Sl.lit (sz := 1) w4 #[.int .u8 9] 5 1 rfl)
          have HO5 := Lib.hid (own_alloc HO4.out (.cells #[.int .u8 9] 5))
          have HG5 := Lib.hid (show w_.heap.size ≤ (w4.alloc (.cells #[.int .u8 9] 5)).heap.size from Nat.le_trans HG4.out.size (by simp))
          have HA0 := Lib.hid (show ∀ u ∈ (#[.int .u8 9] : Array Value).toList, u.oneCell' = true from by intro u hu; simp at hu; subst hu; rfl)
          go_wp2_with (at_builtin; refine wpl_apps rfl rfl el_u8 HO5.out rfl HSZ.out rfl HA0.out (by omega) (by omega) HG5.out ?_)
          intro A75 c75 w5 ho hg hA
          have hb5 : Grow w_ w5 := (HG4.out.alloc HG4.out.size (.cells #[.int .u8 9] 5)).grown hg HG5.out (own_from HO5.out)
          have HSY := Lib.hid (show Sl w5 w5.heap.size 1 A75 (n3 + 1) ((l ++ [9]).map B) by
            have h := Sl.of_own ho
            simp only [List.map_append, List.map_cons, List.map_nil, Nat.zero_add, List.nil_append] at h ⊢
            exact h)
          have HCY := Lib.hid (show n3 + 1 ≤ c75 by obtain ⟨_, _, _, _, hcc⟩ := own_form ho (by omega); simpa using hcc)
          clear ho hg hA HO4 HO5 HG4 HG5 HSZ HA0 HA
          have hb_ := hb5
          clear hb5
          have HB_ := Lib.hid (HB.out.grow' hb_)
          clear HB
          have HB := HB_
          clear HB_
          have HO_ := Lib.hid (HO.out.grow hb_)
          clear HO
          have HO := HO_
          clear HO_
          clear hb_
          try clear w_
          rename World => w_
          have HGD := Lib.hid (show ls.getD m [] = l by rw [List.getD_eq_getElem?_getD, HLM.out]; rfl)
          have Q1 := Lib.hid (u64_keep (k := m) (by omega))
          obtain ⟨m1, hm1⟩ : ∃ q, q = m + 1 := ⟨_, rfl⟩
          have HM1E := Lib.hid hm1
          have hm1n : m1 < n := by omega
          have V1 : Hid (IntKind.i64.wrap ((m : Int) + 1) = (m1 : Int)) := Lib.hid ( by rw [hm1]; have := IntWalk.i64_in ((m : Int) + 1) (by omega); rw [this]; simp)
          have V2 : Hid (RowKit.wrap64 ((m : Int) + 1) = (m1 : Int)) := Lib.hid (by rw [hm1]; have := wrap64_in ((m : Int) + 1) (by omega); rw [this]; simp)
          obtain ⟨ev, hev⟩ : ∃ v, v = entV (entK m) := ⟨_, rfl⟩
          have BE := Lib.hid (built_entK (k := m))
          rw [← hev] at BE
          have HEV := Lib.hid hev
          clear hev
          obtain ⟨oh, hoh⟩ : ∃ v, v = nextB (rowH ls m) (decide (m = 0)) (lvK (l ++ [9]) m) 5 (m : Int) := ⟨_, rfl⟩
          obtain ⟨ov, hov⟩ : ∃ v, v = hdrV oh := ⟨_, rfl⟩
          have hook : oh.ok := by rw [hoh]; exact nextB_ok
          have HDO := Lib.hid (show YtphmefhnffoafaaDoor.HV ov by rw [hov]; exact hv_of hook)
          have HOV := Lib.hid (show ov = hdrV (nextB (rowH ls m) (decide (m = 0)) (lvK (l ++ [9]) m) 5 (m : Int)) by rw [hov, hoh])
          obtain ⟨rv, hrv⟩ : ∃ v, v = hdrV (rowH ls (m + 1)) := ⟨_, rfl⟩
          obtain ⟨rw2, hrw⟩ : ∃ v, v = hdrV (rowH ls (m + 2)) := ⟨_, rfl⟩
          have HRV := Lib.hid hrv
          have HRW := Lib.hid (show rw2 = hdrV (rowH ls (m1 + 1)) by rw [hm1]; exact hrw)
          have LR1 := Lib.hid (show rv.length = 67 by rw [hrv]; exact hdrV_length (rowH_ok _))
          have LR2 := Lib.hid (show rw2.length = 67 by rw [hrw]; exact hdrV_length (rowH_ok _))
          obtain ⟨pv, hpv⟩ : ∃ v, v = hdrV (rowH ls m) := ⟨_, rfl⟩
          have HPV := Lib.hid hpv
          have HDP := Lib.hid (show YtphmefhnffoafaaDoor.HV pv by rw [hpv]; exact HHD.out m)
          obtain ⟨fi, hfi⟩ : ∃ f, f = decide (m = 0) := ⟨_, rfl⟩
          have e1 : ((m : Int) == 0) = fi := by rw [hfi, Bool.eq_iff_iff]; simp
          have NX := Lib.hid (fun w A c => nextK_any (ls := ls) (l := l ++ [9]) (A := A) (c := c) hpv HOV.out hfi (by omega) (by have := HLN.out; simp; omega) w)
          obtain ⟨zo, hzo⟩ : ∃ q, Dig q (hidB oh) := ⟨(hidB oh).map B, rfl, hidB_len oh⟩
          obtain ⟨zr, hzr⟩ : ∃ q, Dig q (hidB (rowH ls (m + 1))) := ⟨(hidB _).map B, rfl, hidB_len _⟩
          have IDO := Lib.hid (fun w => rhid_any oh hzo w hook)
          have IDR := Lib.hid (fun w => rhid_any (rowH ls (m + 1)) hzr w (rowH_ok _))
          rw [← hov] at IDO
          rw [← hrv] at IDR
          obtain ⟨dd, hdd⟩ : ∃ d, (hidB oh == hidB (rowH ls (m + 1))) = d := ⟨_, rfl⟩
          have q2 := hzo.eql_b hzr hdd
          obtain ⟨n4, hn4⟩ := types_3
          obtain ⟨r, hr, hq⟩ := eql_deep key_header (m := 3) (by omega) (by kernel_rfl) (by kernel_rfl) (by kernel_rfl) (hdrV oh) (hdrV (rowH ls (m + 1))) (by rw [hdrV_length hook, cells_header]) (by rw [hdrV_length (rowH_ok _), cells_header]) (by rw [hn4]; exact lits_hdr (n4 + 1) _ hook) (by rw [hn4]; exact lits_hdr (n4 + 1) _ (rowH_ok _))
          rw [← hov, ← hrv] at hr hq
          have NE : Hid (dd = false → Hid (∀ w, (Op.equalIn 10000 25 (.agg ov.toArray) (.agg rv.toArray)).run Tryd.prog w = .ok false w) ∧ ∀ w, Tabs w → Calls Tryd.prog 21 #[.agg ov.toArray, .agg rw2.toArray] w fun e w' => e = .returned (.bool false) ∧ Below w.heap.size w w') := Lib.hid (by
            intro h0
            have hne : hidB oh ≠ hidB (rowH ls (m + 1)) := by rw [h0] at hdd; simpa using hdd
            refine ⟨Lib.hid ?_, ?_⟩
            · cases r with
              | false => exact hq
              | true =>
                have h3 := hr.1 rfl
                rw [hov, hrv] at h3
                exact absurd (congrArg hidB (hdrV_inj hook (rowH_ok _) h3)) hne
            · intro w ht
              have h4 := fol_any oh (rowH ls (m + 2)) w hook (rowH_ok _) ht
              rw [row_else (by omega) hne, ← hov, ← hrw] at h4
              exact h4)
          clear hr hq hn4 hdd hzo hzr hfi hpv hrw hrv hov hoh hook hm1
          have q1 := Q1.out
          go_wp2_with (first | (with_reducible refine wpl_stop (o := ⟨some 112, _, _, _, _, _⟩) ?_))
          refine stop_go ?_
          refine wpl_build rfl rfl BE.out ?_
          go_wp2_with fail
          clear q1
          refine (leavesK_any HEV.out (by omega) HCY.out (by omega) _ HSY.out).mono ?_
          rintro e w2_ ⟨A1, c1, rfl, hl_, hb_⟩
          have HLS1 := Lib.hid hl_
          clear hl_
          have hb_ := hb_
          clear hb_
          have HB_ := Lib.hid (HB.out.grow' hb_)
          clear HB
          have HB := HB_
          clear HB_
          have HO_ := Lib.hid (HO.out.grow hb_)
          clear HO
          have HO := HO_
          clear HO_
          have HSY_ := Lib.hid (HSY.out.grow hb_)
          clear HSY
          have HSY := HSY_
          clear HSY_
          clear hb_
          try clear w_
          rename World => w_
          clear BE HEV
          go_wp2_with (first | (with_reducible refine wpl_alloc (o := ⟨some 16, _, _, _, _, _⟩) rfl rfl zero_header ?_))
          intro w2_ hb2_ hb_ hsz2_
          obtain ⟨g16, hg16⟩ : ∃ g, g = w_.heap.size := ⟨_, rfl⟩
          have HP := Lib.hid (at_mk hb2_ len_header)
          have HGA := Lib.hid (show Grow w_ w2_ from hb_)
          have HGG := Lib.hid (show w_.heap.size ≤ g16 by omega)
          have HPG := Lib.hid HB.out.size
          have HB_ := Lib.hid (HB.out.grow' hb_)
          clear hb2_ hsz2_ hb_ HB
          have HB := HB_
          clear HB_
          rw [← hg16] at HP HPG ⊢
          clear hg16
          have HO0 := HO; have HSY0 := HSY; have HLS0 := HLS1
          clear HO HSY HLS1
          by_cases hm0 : m = 0
          · have e2 : decide (0 < (m : Int)) = false := by simp; omega
            have e3 : decide (0 < m) = false := by simp; omega
            have HO := Lib.hid (HO0.out.grow HGA.out); have HSY := Lib.hid ((HSY0.out.below HGA.out).more HGA.out.size); have HLS1 := Lib.hid (HLS0.out.grow HGA.out)
            clear HO0 HSY0 HLS0 HGA HGG
            rename World => w_
            have HP_ := Lib.hid (show At w_ g16 25 67 pv by rw [HPV.out, hm0]; exact HP.out)
            clear HP HPG
            have HP := HP_
            clear HP_ hm0
            have HT := Lib.hid (HT0.out.grow HB.out)
            go_wp2_with fail
            refine hr24 (k := m) (l := l ++ [9]) (ls := ls) (by omega) HCY.out (by omega) HPV.out HOV.out HDO HP HSY HT (Lib.hid ?_)
            intros
            rename_i w5_ g17 hb_ hx17_
            have HX17 := Lib.hid hx17_
            clear hx17_ HT
            have hb_ := hb_
            clear hb_
            have HB_ := Lib.hid (HB.out.grow' hb_)
            clear HB
            have HB := HB_
            clear HB_
            have HO_ := Lib.hid (HO.out.grow hb_)
            clear HO
            have HO := HO_
            clear HO_
            have HP_ := Lib.hid (HP.out.grow hb_)
            clear HP
            have HP := HP_
            clear HP_
            have HLS1_ := Lib.hid (HLS1.out.grow hb_)
            clear HLS1
            have HLS1 := HLS1_
            clear HLS1_
            clear hb_
            try clear w_
            rename World => w_
            go_wp2_with fail
            refine hr25 hmn0 h12 HRV LR1 HO HX17 IDO IDR q2 (Lib.hid ?_)
            intros
            rename_i w5_ hb_
            clear HX17
            have hb_ := hb_
            clear hb_
            have HB_ := Lib.hid (HB.out.grow' hb_)
            clear HB
            have HB := HB_
            clear HB_
            have HO_ := Lib.hid (HO.out.grow hb_)
            clear HO
            have HO := HO_
            clear HO_
            have HP_ := Lib.hid (HP.out.grow hb_)
            clear HP
            have HP := HP_
            clear HP_
            have HLS1_ := Lib.hid (HLS1.out.grow hb_)
            clear HLS1
            have HLS1 := HLS1_
            clear HLS1_
            clear hb_
            try clear w_
            rename World => w_
            cases dd with
            | true =>
              clear HP HO HLS1
              have HT := Lib.hid (HT0.out.grow HB.out)
              go_wp2_with fail
              refine (awake10_any _ HT.out).mono ?_
              rintro e w_ ⟨rfl, hb_⟩
              have HB_ := Lib.hid (HB.out.grow' hb_)
              clear HB
              have HB := HB_
              clear HB_
              have HT_ := Lib.hid (HT.out.grow hb_)
              clear HT
              have HT := HT_
              clear HT_
              clear hb_
              go_wp2_with fail
              go_ret
              exact ⟨rfl, HB.out⟩
            | false =>
              have HT := Lib.hid (HT0.out.grow HB.out)
              have NQ := NE.out (by first | trivial | rfl)
              have HQ := NQ.1
              have HFOF := Lib.hid NQ.2
              clear NQ
              go_wp2_with (first | (with_reducible refine wpl_loadb (o := ⟨some 149, _, _, _, _, _⟩) rfl rfl row_header HP.out.blk rfl HP.out.len ?_))
              go_wp2_with fail
              refine (NX.out _ _ _ HLS1.out HT.out).mono ?_
              rintro e w_ ⟨rfl, hb_⟩
              have HB_ := Lib.hid (HB.out.grow' hb_)
              clear HB
              have HB := HB_
              clear HB_
              have HO_ := Lib.hid (HO.out.grow hb_)
              clear HO
              have HO := HO_
              clear HO_
              clear hb_
              go_wp2_with (first | (with_reducible refine wpl_alloc (o := ⟨some 19, _, _, _, _, _⟩) rfl rfl zero_header ?_))
              intro w1_ hb1_ hbw1_ hsz1_
              have HB1_ := Lib.hid (at_mk hb1_ len_header)
              have HBW1_ := Lib.hid hbw1_
              have HZ1_ := Lib.hid hsz1_
              clear hb1_ hbw1_ hsz1_
              go_wp2_with (first | (with_reducible refine wpl_storeb (o := ⟨none, .store _ _ _, _, _, _, _⟩) rfl rfl row_header HB1_.out.blk rfl rfl HB1_.out.len HDO.out.len HDO.out.one ?_))
              intro w2_ hb2_ hg2_ hsz2_
              have hb_ := var_grow HBW1_.out HZ1_.out hg2_
              have HX_ := Lib.hid (at_mk hb2_ HDO.out.len)
              clear hb2_ hg2_ hsz2_ HB1_ HBW1_ HZ1_
              have HB_ := Lib.hid (HB.out.grow' hb_)
              clear HB
              have HB := HB_
              clear HB_
              have HO_ := Lib.hid (HO.out.grow hb_)
              clear HO
              have HO := HO_
              clear HO_
              generalize hg_ : w_.heap.size = g19 at HX_ ⊢
              clear hg_
              have HW := HX_
              clear hb_ HX_
              clear w1_
              try clear w_
              rename World => w_
              clear HT
              have HT := Lib.hid (HT0.out.grow HB.out)
              go_wp2_with fail
              refine hr28 hmn0 h12 hm1n V1.out V2.out HRV HRW LR1 LR2 HO HW HT HQ.out HFOF (Lib.hid ?_)
              intros
              rename_i w5_ hb_
              have hb_ := hb_
              clear hb_
              have HB_ := Lib.hid (HB.out.grow' hb_)
              clear HB
              have HB := HB_
              clear HB_
              clear hb_
              try clear w_
              rename World => w_
              go_wp2_with fail
              go_ret
              exact ⟨rfl, HB.out⟩
          · have e2 : decide (0 < (m : Int)) = true := by simp; omega
            have e3 : decide (0 < m) = true := by simp; omega
            obtain ⟨m0, hm0e⟩ : ∃ q, m = q + 1 := ⟨m - 1, by omega⟩
            have HM0 := Lib.hid hm0e
            have hm0n : m0 < n := by omega
            have v6 : RowKit.wrap64 ((m : Int) - 1) = (m0 : Int) := by have := wrap64_in ((m : Int) - 1) (by omega); rw [this, hm0e]; simp
            have v5 : IntKind.i64.wrap ((m : Int) - 1) = (m0 : Int) := by clear v6; have := IntWalk.i64_in ((m : Int) - 1) (by omega); rw [this, hm0e]; simp
            have HMP := Lib.hid ((HO0.out.grow HGA.out).mid hm0n)
            rw [← hm0e, ← HPV.out] at HMP
            have LPV := Lib.hid HDP.out.len
            clear hm0e hm0
            go_wp2_with (first | (with_reducible refine wpl_loadm (o := ⟨some 124, _, _, _, _, _⟩) rfl rfl row_header HMP.out (by first | rfl | (go_simp; done) | fail) LPV.out ?_) | (with_reducible refine wpl_storeb (o := ⟨none, .store _ _ _, _, _, _, _⟩) rfl rfl row_header HP.out.blk rfl rfl HP.out.len LPV.out HDP.out.one ?_))
            intro w2_ hb2_ hg2_ hsz2_
            have HP_ := Lib.hid (at_mk hb2_ LPV.out)
            have HGA_ := Lib.hid (put_below HGA.out HGG.out hg2_)
            have HB_ := Lib.hid (put_below HB.out HPG.out hg2_)
            clear hb2_ hg2_ hsz2_ HP HGA HB HMP v5 v6 HM0 LPV HPG
            have HP := HP_; have HGA := HGA_; have HB := HB_
            clear HP_ HGA_ HB_
            have HO := Lib.hid (HO0.out.grow HGA.out); have HSY := Lib.hid ((HSY0.out.below HGA.out).more HGA.out.size); have HLS1 := Lib.hid (HLS0.out.grow HGA.out)
            clear HO0 HSY0 HLS0 HGA HGG
            rename World => w_
            have HT := Lib.hid (HT0.out.grow HB.out)
            go_wp2_with fail
            refine hr24 (k := m) (l := l ++ [9]) (ls := ls) (by omega) HCY.out (by omega) HPV.out HOV.out HDO HP HSY HT (Lib.hid ?_)
            intros
            rename_i w5_ g17 hb_ hx17_
            have HX17 := Lib.hid hx17_
            clear hx17_ HT
            have hb_ := hb_
            clear hb_
            have HB_ := Lib.hid (HB.out.grow' hb_)
            clear HB
            have HB := HB_
            clear HB_
            have HO_ := Lib.hid (HO.out.grow hb_)
            clear HO
            have HO := HO_
            clear HO_
            have HP_ := Lib.hid (HP.out.grow hb_)
            clear HP
            have HP := HP_
            clear HP_
            have HLS1_ := Lib.hid (HLS1.out.grow hb_)
            clear HLS1
            have HLS1 := HLS1_
            clear HLS1_
            clear hb_
            try clear w_
            rename World => w_
            go_wp2_with fail
            refine hr25 hmn0 h12 HRV LR1 HO HX17 IDO IDR q2 (Lib.hid ?_)
            intros
            rename_i w5_ hb_
            clear HX17
            have hb_ := hb_
            clear hb_
            have HB_ := Lib.hid (HB.out.grow' hb_)
            clear HB
            have HB := HB_
            clear HB_
            have HO_ := Lib.hid (HO.out.grow hb_)
            clear HO
            have HO := HO_
            clear HO_
            have HP_ := Lib.hid (HP.out.grow hb_)
            clear HP
            have HP := HP_
            clear HP_
            have HLS1_ := Lib.hid (HLS1.out.grow hb_)
            clear HLS1
            have HLS1 := HLS1_
            clear HLS1_
            clear hb_
            try clear w_
            rename World => w_
            cases dd with
            | true =>
              clear HP HO HLS1
              have HT := Lib.hid (HT0.out.grow HB.out)
              go_wp2_with fail
              refine (awake10_any _ HT.out).mono ?_
              rintro e w_ ⟨rfl, hb_⟩
              have HB_ := Lib.hid (HB.out.grow' hb_)
              clear HB
              have HB := HB_
              clear HB_
              have HT_ := Lib.hid (HT.out.grow hb_)
              clear HT
              have HT := HT_
              clear HT_
              clear hb_
              go_wp2_with fail
              go_ret
              exact ⟨rfl, HB.out⟩
            | false =>
              have HT := Lib.hid (HT0.out.grow HB.out)
              have NQ := NE.out (by first | trivial | rfl)
              have HQ := NQ.1
              have HFOF := Lib.hid NQ.2
              clear NQ
              go_wp2_with (first | (with_reducible refine wpl_loadb (o := ⟨some 149, _, _, _, _, _⟩) rfl rfl row_header HP.out.blk rfl HP.out.len ?_))
              go_wp2_with fail
              refine (NX.out _ _ _ HLS1.out HT.out).mono ?_
              rintro e w_ ⟨rfl, hb_⟩
              have HB_ := Lib.hid (HB.out.grow' hb_)
              clear HB
              have HB := HB_
              clear HB_
              have HO_ := Lib.hid (HO.out.grow hb_)
              clear HO
              have HO := HO_
              clear HO_
              clear hb_
              go_wp2_with (first | (with_reducible refine wpl_alloc (o := ⟨some 19, _, _, _, _, _⟩) rfl rfl zero_header ?_))
              intro w1_ hb1_ hbw1_ hsz1_
              have HB1_ := Lib.hid (at_mk hb1_ len_header)
              have HBW1_ := Lib.hid hbw1_
              have HZ1_ := Lib.hid hsz1_
              clear hb1_ hbw1_ hsz1_
              go_wp2_with (first | (with_reducible refine wpl_storeb (o := ⟨none, .store _ _ _, _, _, _, _⟩) rfl rfl row_header HB1_.out.blk rfl rfl HB1_.out.len HDO.out.len HDO.out.one ?_))
              intro w2_ hb2_ hg2_ hsz2_
              have hb_ := var_grow HBW1_.out HZ1_.out hg2_
              have HX_ := Lib.hid (at_mk hb2_ HDO.out.len)
              clear hb2_ hg2_ hsz2_ HB1_ HBW1_ HZ1_
              have HB_ := Lib.hid (HB.out.grow' hb_)
              clear HB
              have HB := HB_
              clear HB_
              have HO_ := Lib.hid (HO.out.grow hb_)
              clear HO
              have HO := HO_
              clear HO_
              generalize hg_ : w_.heap.size = g19 at HX_ ⊢
              clear hg_
              have HW := HX_
              clear hb_ HX_
              clear w1_
              try clear w_
              rename World => w_
              clear HT
              have HT := Lib.hid (HT0.out.grow HB.out)
              go_wp2_with fail
              refine hr28 hmn0 h12 hm1n V1.out V2.out HRV HRW LR1 LR2 HO HW HT HQ.out HFOF (Lib.hid ?_)
              intros
              rename_i w5_ hb_
              have hb_ := hb_
              clear hb_
              have HB_ := Lib.hid (HB.out.grow' hb_)
              clear HB
              have HB := HB_
              clear HB_
              clear hb_
              try clear w_
              rename World => w_
              go_wp2_with fail
              go_ret
              exact ⟨rfl, HB.out⟩
  · have g1 : decide (12 < (n : Int)) = true := by simp; omega
    go_enter Tryd.func5, Tryd.ntmps5
    have HT := Lib.hid (HT0.out.grow HB.out)
    go_wp2_with fail
    refine (awake10_any _ HT.out).mono ?_
    rintro e w_ ⟨rfl, hb_⟩
    have HB_ := Lib.hid (HB.out.grow' hb_)
    clear HB
    have HB := HB_
    clear HB_
    have HT_ := Lib.hid (HT.out.grow hb_)
    clear HT
    have HT := HT_
    clear HT_
    clear hb_
    go_wp2_with fail
    go_ret
    exact ⟨rfl, HB.out⟩
theorem hdrRow_walk (A : Option Addr) (n c : Nat) (ps : List (Value × List UInt8)) (z : Int) (w : World) (hp : Parts w w.heap.size A n ps) (hc : n ≤ c) (hm : c ≤ maxLen) (hz : (Lit.int .i64 z).wf = true) (ht : Tabs w) :
    Calls Tryd.prog 5 #[.slice A n c, .int .i64 z] w fun e w' => e = .returned (.bool true) ∧ Below w.heap.size w w' :=
  hdrRow_any A n c (ps.map Prod.snd) z w ⟨ps, hp, rfl, hc⟩ (i64_of hz) ht
end Go.Proofs.YtphmefhnffoafaaDoor

/- The given card HeaderRowCardSaid, out of the walk hdrRow_walk: for every input the law returns true, and each argument reads as it did; the tables of package sha are tied to the program's text. No condition. -/
namespace Go.Proofs.YtphmefhnffoafaaDoor.lawHeaderRow
open Go.ChangeShapes Go.WideShapes Go.ChangeAt Go.RowKit
open Go.ChangeMaps (open_string shut_string)
set_option linter.unusedVariables false

theorem laidOut : laidOutB Tryd.prog = true := laid_out
set_option maxRecDepth 100000 in
theorem contract (H : Type) (enc : TypeId × Value → H) (W : World) (base : Nat) (args : Array Value) (ds gs : List (DataW H)) (before : List MemPlace)
    (hval0 : ∀ (j : Nat) t v, Tryd.f5.params[j]? = some t → args[j]? = some v → Value.okWide Tryd.prog W .any base t v)
    (hW : DataW.Whole enc Tryd.prog Tryd.f5.params.toList Rows.headerRowSpec.vars false W args.toList ds gs before) (hL : laidMetH Tryd.prog Rows.headerRowRow.laid W) :
    Calls Tryd.prog 5 args W fun e W' => ∃ v, e = .returned v ∧ Rows.headerRowSpec.post enc Tryd.prog Tryd.f5 false true false false W args v W' := by
  have hval : ∀ (j : Nat) t v, Tryd.f5.params[j]? = some t → args[j]? = some v → Value.okWide Tryd.prog W .any base t v := hval0
  have hW' := hW
  obtain ⟨p, q, hA0, hV, rfl, hfz, hnd⟩ := hW
  have hA : DataW.TrodAll enc Tryd.prog W 0 (fun _ => true) true Tryd.f5.params.toList args.toList ds p := hA0
  rw [Tryd.params5] at hA hval
  obtain ⟨v0, vs0, d0, ds0, p0, q0, hargs, rfl, rfl, h0, r0⟩ := trodAll_cons hA
  obtain ⟨v1, vs1, d1, ds1, p1, q1, rfl, rfl, rfl, h1, r1⟩ := trodAll_cons r0
  obtain ⟨rfl, rfl, rfl⟩ := trodAll_nil r1
  obtain rfl : args = #[v0, v1] := by cases args; simp_all
  obtain ⟨rfl, rfl⟩ := trodVars_none hV
  have k0 := h0
  have lt0 : ∀ x ∈ p0, x.block < W.heap.size := by obtain ⟨m, hm⟩ := k0; exact DataW.trod_lt m _ _ _ hm
  obtain ⟨x0_0, x0_1, x0_2, x0_3, rfl, f0_0, f0_1, f0_2⟩ := open_bb (hval 0 31 v0 rfl rfl) h0
  have k1 := h1
  have lt1 : ∀ x ∈ p1, x.block < W.heap.size := by obtain ⟨m, hm⟩ := k1; exact DataW.trod_lt m _ _ _ hm
  obtain ⟨a1, rfl, rfl, rfl, w1⟩ := open_int Tryd.underlying3 (hval 1 3 v1 rfl rfl) h1
  have htabs : Tabs W := tabs_of hL
  clear hA0 hval0 hL
  refine (hdrRow_walk x0_0 x0_1 x0_2 x0_3 a1 W f0_0 f0_1 f0_2 w1 htabs).mono fun e W' ⟨he, bel⟩ => ?_
  subst he
  exact ⟨_, rfl, _, _, _, [], _, [], hW', trodAll_mk1 (shut_bool Tryd.underlying4 _), (trodAll_cons_mk (Below.trod laidOut (by kernel_rfl) (of_decide_eq_true (by kernel_rfl)) k0 bel lt0) (trodAll_cons_mk (Below.trod laidOut (by kernel_rfl) (of_decide_eq_true (by kernel_rfl)) k1 bel lt1) trodAll_mk0)), rfl, bel.frame _, fun h => by cases h⟩

theorem laid_met (os : Os) : laidMet Tryd.prog Rows.headerRowRow.laid ((laidWorld os).forCall (fun _ _ => 0) ⟨#[], #[.slice none 0 0, .int .i64 0], []⟩).memory :=
  laidMet_of_run' 8 (by kernel_rfl) (by kernel_rfl)
theorem reads (os : Os) {H : Type} (enc : TypeId × Value → H) : ∃ ds places, DataW.whole enc Tryd.prog ((laidWorld os).forCall (fun _ _ => 0) ⟨#[], #[.slice none 0 0, .int .i64 0], []⟩).memory Tryd.f5.params.toList Rows.headerRowSpec.vars false #[.slice none 0 0, .int .i64 0].toList 8 = some (ds, [], places) := by
  obtain ⟨⟨ds, gs, pl⟩, h, e⟩ := Option.map_eq_some_iff.1 (show (DataW.whole enc Tryd.prog ((laidWorld os).forCall (fun _ _ => 0) ⟨#[], #[.slice none 0 0, .int .i64 0], []⟩).memory Tryd.f5.params.toList Rows.headerRowSpec.vars false #[.slice none 0 0, .int .i64 0].toList 8).map (fun x => x.2.1) = some [] by kernel_rfl)
  simp only at e
  subst e
  exact ⟨ds, pl, h⟩

set_option maxRecDepth 100000 in
theorem lifted (os : Os) (started : os.Started) (H : Type) (enc : TypeId × Value → H) (F : Stop.Interp) :
    ReturnsInHanded {} Tryd.checked os 5 .any ((OpenSpec.ofChange Rows.headerRowSpec).preRow enc Tryd.prog Tryd.f5 Rows.headerRowRow.domain false Rows.headerRowRow.laid) (((OpenSpec.ofChange Rows.headerRowSpec).at F).post enc Tryd.prog Tryd.f5 false true false false) := by
  obtain ⟨ds, places, hx⟩ := reads os enc
  refine returnsInHanded_of_row (C := Tryd.checked) (s := OpenSpec.ofChange Rows.headerRowSpec) own_knob started (by kernel_rfl) Tryd.func5
    (witness_row_at (enc := enc) (C := Tryd.checked) false (laidWorld os) #[.slice none 0 0, .int .i64 0] rfl (by kernel_rfl) (by kernel_rfl) (by kernel_rfl)
      (OpenSpec.preRow_of_cond 8 hx (by kernel_rfl) (fun k hk => by cases hk) (by kernel_rfl) (laid_met os))) ?_
  intro W base args ds gs before hval hW _ _ _ hL _ _
  exact contract H enc W base args ds gs before hval hW hL

theorem said : Rows.HeaderRowSaid :=
  OpenClaim.holds_of_cond 5 Tryd.f5 rfl rfl rfl rfl rfl rfl rfl ⟨rfl, rfl, rfl, rfl, rfl⟩ rfl rfl rfl rfl rfl (by kernel_rfl) Tryd.func5 (by kernel_rfl)
    (of_decide_eq_true (by kernel_rfl)) (by unfold Func.isWrapper; first | (rw [if_pos (by decide +kernel)]; kernel_rfl) | (rw [if_neg (by decide +kernel)]; exact ⟨rfl, rfl⟩))
    (fun os started H enc _ F => by rw [OpenClaim.pre_eq_preRow]; exact lifted os started H enc F)

theorem plain (f : FuncId) (fn : Func) (hf : Tryd.pinned.checked.prog.funcNamed "seisin/seisinlaw10.HeaderRow" = some f) (hfn : Tryd.pinned.checked.prog.funcs[f]? = some fn) :
    true = Tryd.pinned.checked.prog.looks [] ∧ ∀ (j : Nat) t, fn.params[j]? = some t → Tryd.pinned.checked.prog.wantsStandIn t = false := by
  obtain rfl : f = 5 := Option.some.inj ((show Tryd.prog.funcNamed "seisin/seisinlaw10.HeaderRow" = some 5 by kernel_rfl).symm.trans hf) |>.symm
  obtain rfl : fn = Tryd.f5 := (Option.some.inj (Tryd.func5.symm.trans hfn)).symm
  refine ⟨by kernel_rfl, fun j t ht => ?_⟩
  rw [Tryd.params5] at ht
  have hm : t ∈ [31, 3] := by simpa using Array.mem_of_getElem? ht
  have hall : ([31, 3].all fun u => !Tryd.prog.wantsStandIn u) = true := by kernel_rfl
  exact (show Tryd.prog.wantsStandIn t = false by simpa using List.all_eq_true.1 hall t hm)

theorem proved : Rows.HeaderRowCardSaid :=
  Claim7.holds_tied_plain_at .later [] _ _ _ _ said (fun _ h => by cases h) (by kernel_rfl) (fun _ h => by cases h) headerRow_row_tie rfl ⟨rfl, rfl⟩ (by kernel_rfl) rfl plain (by kernel_rfl)
#print axioms proved
end Go.Proofs.YtphmefhnffoafaaDoor.lawHeaderRow

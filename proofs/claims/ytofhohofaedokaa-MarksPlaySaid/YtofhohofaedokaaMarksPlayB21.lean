/- The given statement MarksPlaySaid, out of the walk marksPlay_walk: for every input the law returns true, and each argument reads as it did. No condition. -/
import Derived.Test.YtofhohofaedokaaMarksPlayB20
import Derived.Deep.CutRange
import Derived.Test.YtofhohofaedokaaRows
import Derived.ProofKit
import Derived.OpenShut
import Derived.ShutString
import Derived.ChangeOld
import Derived.Below
set_option linter.unusedSimpArgs false
/- The walk of seisinlaw20.MarksPlay. -/
namespace Go.Proofs.Ytofhohofaedokaa
open Go.RowKit
set_option linter.unusedVariables false
set_option maxRecDepth 100000 in
set_option maxHeartbeats 16000000 in
theorem marksPlay_walk (A : Option Addr) (n c : Nat) (l0 : List ActM) (w : World) (h : ActsM w A n l0) (hn : n ≤ 9223372036854775807) :
    Calls Try.prog 3 #[.slice A n c] w fun e w' => e = .returned (.bool true) ∧ Below w.heap.size w w' := by
  have HA := Lib.hid h
  clear h
  by_cases h60 : 40 < n
  · go_enter Try.func3, Try.ntmps3
    have h61 : (40 : Int) < (n : Int) := by omega
    go_wp2_with fail
    refine (awake20_any _).mono ?_
    rintro e w9 ⟨rfl, hb9⟩
    go_wp2_with fail
    go_ret
    exact ⟨rfl, hb9⟩
  have h61 : ¬ ((40 : Int) < (n : Int)) := by omega
  go_enter Try.func3, Try.ntmps3
  go_wp2_with fail
  refine (mnew_any _).mono ?_
  rintro e w1 ⟨g, b, rfl, hc, hg, hb, hbw⟩
  have HI0 := Lib.hid (show PlayM w w1 (.pointer (some ⟨g, 0, none⟩)) (.slice none 0 0) from ⟨g, b, [], [], [], [], none, 0, 0, rfl, rfl, hc, RelM.nil _, ⟨Sl.nil, by simp, rfl⟩, ⟨hg, hb⟩, hbw⟩)
  clear hc hg hb hbw
  go_wp2_with fail
  go_loopw [3, 4, 5] (fun s3 s4 iv wr => ∃ k : Nat, k ≤ n ∧ iv = .int .i64 k ∧ Hid (PlayM w wr s3 s4)) (fun _ _ iv _ => n - (intOf iv).toNat)
  case atStart => exact ⟨0, by omega, rfl, HI0⟩
  case round =>
    obtain ⟨k, hk, rfl, hI⟩ := hrel
    clear HI0
    rename World => w_
    by_cases hlt : k < n
    · obtain ⟨g, b, L, l, XL, X, A4, m, c4, rfl, rfl, hc, hr, hx, hgb, hbw⟩ := hI.out
      have HC := Lib.hid hc; have HR := Lib.hid hr; have HX := Lib.hid hx; have HGB := Lib.hid hgb; have HB := Lib.hid hbw
      have hm128 : m ≤ 128 := by rw [← hx.2.2]; exact hr.lens.2.2
      clear hI hc hr hx hgb hbw
      obtain ⟨ab, aoff, a, rfl, hak, hcell, hok⟩ := HA.out.at_ hlt
      have HAC := Lib.hid (show Cl 173 (actM a) from ⟨actM_len hok, actM_one a⟩)
      have HMA := Lib.hid (show ∀ j u, (actM a)[j]? = some u → w_.cell? ⟨ab, aoff + k * 173 + j, none⟩ = some u from fun j u hu => bcell HB.out (hcell j u hu))
      have HDO := Lib.hid (show (actM a)[0]? = some (.int .i64 a.dof) from rfl)
      have HD1 := Lib.hid (show (actM a)[1]? = some (.int .i64 a.part) from rfl)
      have HD2 := Lib.hid (show (actM a)[2]? = some (.int .i64 a.num) from rfl)
      have HMI := Lib.hid (fun j u (hu : (a.id.map B)[j]? = some u) => actM_id hok hu)
      have HMV := Lib.hid (fun j u (hu : (markV a.m)[j]? = some u) => actM_mark hok hu)
      have HD72 := Lib.hid (show (actM a)[35 + 37]? = some (.slice a.m.pA a.m.pn a.m.pc) from actM_mark hok (markW_path hok.2.2.2.1))
      have HIC := Lib.hid (show Cl 32 (a.id.map B) from ⟨by rw [List.length_map, hok.2.2.1], all_bytes _⟩)
      have HKO := Lib.hid (show MKOK (a.part, a.id) from ⟨hok.1, hok.2.2.1⟩)
      have HEP := Lib.hid (show I64 a.num from hok.2.1)
      have HPA := Lib.hid (show ∀ w', Grow w w' → PathAt w' a.m a.ds from fun w' hb => hok.2.2.2.2.grow hb)
      have HMW := Lib.hid hok.2.2.2.1
      obtain ⟨pt, hpt⟩ : ∃ q, q = a.part := ⟨_, rfl⟩
      obtain ⟨id, hid⟩ : ∃ q, q = a.id := ⟨_, rfl⟩
      obtain ⟨mk, hmk⟩ : ∃ q, q = a.m := ⟨_, rfl⟩
      obtain ⟨ds, hds⟩ : ∃ q, q = a.ds := ⟨_, rfl⟩
      obtain ⟨d, hd⟩ : ∃ q, q = a.dof := ⟨_, rfl⟩
      obtain ⟨nm, hnm⟩ : ∃ q, q = a.num := ⟨_, rfl⟩
      obtain ⟨av, hav⟩ : ∃ q, q = actM a := ⟨_, rfl⟩
      rw [← hpt] at HD1 HKO
      rw [← hid] at HMI HIC HKO
      rw [← hmk] at HMV HD72 HPA HMW
      rw [← hds] at HPA
      rw [← hd] at HDO
      rw [← hnm] at HD2 HEP
      rw [← hav] at HAC HMA HDO HD1 HD2 HMI HMV HD72
      obtain ⟨pA, hpA⟩ : ∃ q, q = mk.pA := ⟨_, rfl⟩
      obtain ⟨pn, hpn⟩ : ∃ q, q = mk.pn := ⟨_, rfl⟩
      obtain ⟨pc, hpc⟩ : ∃ q, q = mk.pc := ⟨_, rfl⟩
      rw [← hpA, ← hpn, ← hpc] at HD72
      have HPN := Lib.hid hpn
      clear hak hcell hok hpt hid hmk hds hd hnm hav hpA hpn hpc
      go_wp2_with (first | (with_reducible refine wpl_loadm (o := ⟨some 31, _, _, _, _, _⟩) rfl rfl row_actm HMA.out rfl HAC.out.len ?_) | (with_reducible refine wpl_alloc (o := ⟨some 6, _, _, _, _, _⟩) rfl rfl zero_actm ?_))
      intro w1_ hb1_ hbw1_ hsz1_
      have HB1_ := Lib.hid (at_mk hb1_ len_actm)
      have HBW1_ := Lib.hid hbw1_
      have HZ1_ := Lib.hid hsz1_
      clear hb1_ hbw1_ hsz1_
      go_wp2_with (first | (with_reducible refine wpl_storeb (o := ⟨none, .store _ _ _, _, _, _, _⟩) rfl rfl row_actm HB1_.out.blk rfl rfl HB1_.out.len HAC.out.len HAC.out.one ?_))
      intro w2_ hb2_ hg2_ hsz2_
      have hb_ := var_grow HBW1_.out HZ1_.out hg2_
      have HX_ := Lib.hid (at_mk hb2_ HAC.out.len)
      clear hb2_ hg2_ hsz2_ HB1_ HBW1_ HZ1_
      have HB_ := Lib.hid (HB.out.grow' hb_)
      clear HB
      have HB := HB_
      clear HB_
      have HC_ := Lib.hid (HC.out.grow hb_)
      clear HC
      have HC := HC_
      clear HC_
      have HX_ := Lib.hid (HX.out.grow hb_)
      clear HX
      have HX := HX_
      clear HX_
      have HR_ := Lib.hid (HR.out.grow hb_)
      clear HR
      have HR := HR_
      clear HR_
      generalize hg_ : w_.heap.size = gA at HX_ ⊢
      clear hg_
      have HD := HX_
      clear hb_ HX_
      clear w1_
      try clear w_
      rename World => w_
      clear HMA
      have c72 := HD.out.blk.at_ HD72.out
      by_cases h40 : 40 < pn
      · have h41 : (40 : Int) < (pn : Int) := by omega
        go_wp2_with fail
        refine (awake20_any _).mono ?_
        rintro e w9 ⟨rfl, hb9⟩
        have HB9 := Lib.hid (HB.out.grow' hb9)
        clear hb9
        go_wp2_with fail
        go_ret
        exact ⟨rfl, HB9.out⟩
      have h41 : ((40 : Int) < (pn : Int)) = False := eq_false (by omega)
      have HMO := Lib.hid (show mk.ok from HMW.out.ok (by rw [← HPN.out]; omega))
      have HVC := Lib.hid (mark_cl HMO.out)
      have HAT := Lib.hid (show AtOKM ((pt, id), mk) from ⟨HKO.out, HMO.out⟩)
      have HBT := Lib.hid (show Try.prog.built 44 [(0, .int .i64 pt), (1, .agg (id.map B).toArray), (2, .agg (markV mk).toArray)] = some (encAtM ((pt, id), mk)).toArray from built_at (p := (pt, id)) HKO.out.2 HMO.out)
      have HRP := Lib.hid (fun w' (h' : RowM w' A4 m l) => show Calls Try.prog 6 #[.slice A4 m c4, .agg (encAtM ((pt, id), mk)).toArray] w' fun e w2 => PutR20 w' (putM l (pt, id) mk) (putL l ((pt, id), mk)) e w2 from rput20_any (c := c4) ((pt, id), mk) w' h' HAT.out (by omega))
      have HPU := Lib.hid (fun w' (h' : MarksAt w' g b L) (hp : PathAt w' mk ds) => show Calls Try.prog 7 #[.pointer (some ⟨g, 0, none⟩), .int .i64 pt, .agg (id.map B).toArray, .agg (markV mk).toArray] w' fun e w2 => e = .returned (.int .i64 (putM L (pt, id) mk)) ∧ Touched [b] w' w2 ∧ (putM L (pt, id) mk = 0 → ∃ A c, MarksAt w2 g b (L ++ [((pt, id), mk.at A c)]) ∧ PathAt w2 (mk.at A c) ds) ∧ (putM L (pt, id) mk ≠ 0 → MarksAt w2 g b L) from mput_any g b L (pt, id) mk w' ds h' HKO.out HMO.out hp)
      have HCD := Lib.hid (HR.out.code (pt, id) mk)
      obtain ⟨es, hes⟩ : ∃ q, q = encAtM ((pt, id), mk) := ⟨_, rfl⟩
      rw [← hes] at HBT HRP
      obtain ⟨vs, hvs⟩ : ∃ q, q = markV mk := ⟨_, rfl⟩
      rw [← hvs] at HVC HBT HPU HMV
      obtain ⟨is_, his⟩ : ∃ q, q = id.map B := ⟨_, rfl⟩
      rw [← his] at HIC HMI HBT HPU
      have HIS := Lib.hid his
      clear hes hvs his
      have HP3 := Lib.hid (show ∀ w', At w' gA 40 173 av → ∀ j u, is_[j]? = some u → w'.cell? ⟨gA, 3 + j, none⟩ = some u from fun w' h j u hu => h.blk.at_ (HMI.out j u hu))
      have HV35 := Lib.hid (show ∀ w', At w' gA 40 173 av → ∀ j u, vs[j]? = some u → w'.cell? ⟨gA, 35 + j, none⟩ = some u from fun w' h j u hu => h.blk.at_ (HMV.out j u hu))
      clear HMI HMV
      have c0 := HD.out.blk.at_ HDO.out
      go_upto_block 2 with fail
      clear c0 c72
      go_cut [3, 4, 7, 8, 9, 10] from 41 to 93 (fun s3 s4 s7 s8 s9 s10 wr => Hid (PlayM w wr s3 s4) ∧ Hid (At wr gA 40 173 av))
      case first =>
        by_cases hd0 : d = 0
        · subst hd0
          have HM1 := Lib.hid (HP3.out w_ HD.out); have HM2 := Lib.hid (HV35.out w_ HD.out)
          have c1 := HD.out.blk.at_ HD1.out
          go_wp2_with (first | (with_reducible refine wpl_loadm (o := ⟨some 48, _, _, _, _, _⟩) rfl rfl row_id HM1.out rfl HIC.out.len ?_) | (with_reducible refine wpl_loadm (o := ⟨some 50, _, _, _, _, _⟩) rfl rfl row_mark HM2.out rfl HVC.out.len ?_) | (refine wpl_build (o := ⟨some 51, _, _, _, _, _⟩) rfl rfl HBT.out ?_))
          refine (HRP.out w_ HX.out).mono ?_
          rintro e w2_ ⟨A9, m9, c9, rfl, hx9, hb_⟩
          have HX9 := Lib.hid hx9
          replace HC := Lib.hid (HC.out.grow hb_); replace HD := Lib.hid (HD.out.grow hb_); replace HR := Lib.hid (HR.out.grow hb_); replace HB := Lib.hid (HB.out.grow' hb_)
          clear hx9 hb_ HM1 HM2 c1
          try clear w_
          rename World => w_
          have HM1 := Lib.hid (HP3.out w_ HD.out); have HM2 := Lib.hid (HV35.out w_ HD.out)
          have c1 := HD.out.blk.at_ HD1.out
          have HPM := Lib.hid (HPA.out w_ HB.out)
          have HPU2 := Lib.hid (HPU.out w_ HC.out HPM.out)
          rw [HCD.out] at HPU2
          obtain ⟨rc, hrc⟩ : ∃ q, q = putM l (pt, id) mk := ⟨_, rfl⟩
          have HRC := Lib.hid hrc
          rw [← hrc] at HPU2 ⊢
          clear hrc
          have z1 : (rc != rc) = false := by simp
          go_wp2_with (first | (with_reducible refine wpl_loadm (o := ⟨some 60, _, _, _, _, _⟩) rfl rfl row_id HM1.out rfl HIC.out.len ?_) | (with_reducible refine wpl_loadm (o := ⟨some 62, _, _, _, _, _⟩) rfl rfl row_mark HM2.out rfl HVC.out.len ?_))
          refine Calls.mono (show Calls Try.prog 7 _ w_ _ from HPU2.out) ?_
          rintro e w2_ ⟨rfl, ht, h1, h2⟩
          have HEND := Lib.hid (show PlayM w w2_ (.pointer (some ⟨g, 0, none⟩)) (.slice A9 m9 c9) by
            obtain ⟨L', XL', X', q1, q2⟩ := putM_after (HR.out.touched HC.out ht) (HPM.out.touched HC.out ht) (by rw [HCD.out, ← HRC.out]; exact h1) (by rw [HCD.out, ← HRC.out]; exact h2)
            exact ⟨g, b, L', _, XL', X', A9, m9, c9, rfl, rfl, q1, q2, HX9.out.touched HC.out ht, HGB.out, ht_belowM HB.out ht HGB.out.2⟩)
          have HDE := Lib.hid (HD.out.touchM HC.out ht)
          clear ht h1 h2 HM1 HM2 c1
          go_wp2_with fail
          go_meet
          case rel => exact ⟨HEND, HDE⟩
        have hd0f := eq_false hd0
        by_cases hd2 : d = 2
        · subst hd2
          have c2 := HD.out.blk.at_ HD2.out
          go_wp2_with fail
          refine (rprune20_any (c := c4) nm w_ HX.out (by omega) HEP.out).mono ?_
          rintro e w2_ ⟨A9, m9, c9, rfl, hx9, hb_⟩
          have HX9 := Lib.hid hx9
          replace HC := Lib.hid (HC.out.grow hb_); replace HD := Lib.hid (HD.out.grow hb_); replace HR := Lib.hid (HR.out.grow hb_); replace HX := Lib.hid (HX.out.grow hb_); replace HB := Lib.hid (HB.out.grow' hb_)
          clear hx9 hb_ c2
          try clear w_
          rename World => w_
          have c2 := HD.out.blk.at_ HD2.out
          have HPR := Lib.hid (prune_any g b L nm w_ HC.out (by have := HR.out.lens; omega) HEP.out)
          go_wp2_with fail
          refine HPR.out.mono ?_
          rintro e w2_ ⟨cc, rfl, hcc, hc2, ht⟩
          have hcm : (cc : Int) = (m : Int) - (m9 : Int) := by
            have h1 := HR.out.lens; have h2 := (HR.out.kept nm).lens; have h3 := HX.out.2.2; have h4 := HX9.out.2.2
            omega
          have hm9 : m9 ≤ m := by omega
          have HEND := Lib.hid (show PlayM w w2_ (.pointer (some ⟨g, 0, none⟩)) (.slice A9 m9 c9) from ⟨g, b, _, _, _, _, A9, m9, c9, rfl, rfl, hc2, (HR.out.touched HC.out ht).kept nm, HX9.out.touched HC.out ht, HGB.out, ht_belowM HB.out ht HGB.out.2⟩)
          have HDE := Lib.hid (HD.out.touchM HC.out ht)
          have q1 : IntKind.i64.wrap ((m : Int) - (m9 : Int)) = (m : Int) - (m9 : Int) := IntWalk.i64_in _ (by omega)
          have z1 : ((cc : Int) != (m : Int) - (m9 : Int)) = false := by simp [hcm]
          clear ht hc2 hcc hcm c2 HPR
          go_wp2_with fail
          go_meet
          case rel => exact ⟨HEND, HDE⟩
        have hd2f := eq_false hd2
        by_cases hd3 : d = 3
        · subst hd3
          go_wp2_with fail
          refine (mcopy_any g b L w_ HC.out).mono ?_
          rintro e w2_ ⟨g2, b2, rfl, hc2, hg2, hb2, hb_⟩
          have HC2 := Lib.hid hc2
          have HNE := Lib.hid (show g2 ≠ b ∧ b2 ≠ b by have h1 := HC.out.ltg; have h2 := HC.out.ltb; omega)
          have HGB2 := Lib.hid (show w.heap.size ≤ g2 ∧ w.heap.size ≤ b2 by have h1 := HB.out.size; omega)
          replace HC := Lib.hid (HC.out.grow hb_); replace HX := Lib.hid (HX.out.grow hb_); replace HD := Lib.hid (HD.out.grow hb_); replace HR := Lib.hid (HR.out.grow hb_); replace HB := Lib.hid (HB.out.grow' hb_)
          clear hc2 hg2 hb2 hb_
          try clear w_
          rename World => w_
          have HPR := Lib.hid (prune_any g b L 1099511627776 w_ HC.out (by have := HR.out.lens; omega) (by simp [I64]))
          go_wp2_with fail
          refine HPR.out.mono ?_
          rintro e w2_ ⟨cc, rfl, _, hc3, ht⟩
          have HC3 := Lib.hid hc3
          replace HC2 := Lib.hid (HC2.out.touched ht HNE.out.1 HNE.out.2)
          replace HX := Lib.hid (HX.out.touched HC.out ht)
          replace HD := Lib.hid (HD.out.touchM HC.out ht)
          replace HR := Lib.hid (HR.out.touched HC.out ht)
          replace HB := Lib.hid (ht_belowM HB.out ht HGB.out.2)
          obtain ⟨L3, hL3⟩ : ∃ q, q = keptM 1099511627776 L := ⟨_, rfl⟩
          rw [← hL3] at HC3
          clear ht hc3 HC HPR hL3
          try clear w_
          rename World => w_
          have HB9 := Lib.hid bt99
          obtain ⟨i9, hi9⟩ : ∃ q, q = id99.map B := ⟨_, rfl⟩
          rw [← hi9] at HB9
          have HI9 := Lib.hid hi9
          clear hi9
          go_wp2_with (first | (refine wpl_build (o := ⟨some 91, _, _, _, _, _⟩) rfl rfl HB9.out ?_))
          refine (somex_any 7 w_ (by simp [I64])).mono ?_
          rintro e w2_ ⟨rfl, hb_⟩
          replace HC3 := Lib.hid (HC3.out.grow hb_); replace HC2 := Lib.hid (HC2.out.grow hb_); replace HX := Lib.hid (HX.out.grow hb_); replace HD := Lib.hid (HD.out.grow hb_); replace HR := Lib.hid (HR.out.grow hb_); replace HB := Lib.hid (HB.out.grow' hb_)
          clear hb_
          try clear w_
          rename World => w_
          have HP9 := Lib.hid (mput_any g b L3 (0, id99) (someM 7) w_ [] HC3.out mk99 some7_ok (path_some0 w_ 7))
          rw [← HI9.out] at HP9
          go_wp2_with fail
          refine HP9.out.mono ?_
          rintro e w2_ ⟨rfl, ht, _, _⟩
          replace HC2 := Lib.hid (HC2.out.touched ht HNE.out.1 HNE.out.2)
          replace HX := Lib.hid (HX.out.touched HC3.out ht)
          replace HD := Lib.hid (HD.out.touchM HC3.out ht)
          replace HR := Lib.hid (HR.out.touched HC3.out ht)
          replace HB := Lib.hid (ht_belowM HB.out ht HGB.out.2)
          clear ht HP9
          generalize putM L3 (0, id99) (someM 7) = r9
          generalize markA (someM 7) = v9
          have HEND := Lib.hid (show PlayM w w2_ (.pointer (some ⟨g2, 0, none⟩)) (.slice A4 m c4) from ⟨g2, b2, L, l, XL, X, A4, m, c4, rfl, rfl, HC2.out, HR.out, HX.out, HGB2.out, HB.out⟩)
          go_wp2_with fail
          go_meet
          case rel => exact ⟨HEND, HD⟩
        have hd3f := eq_false hd3
        have HEND := Lib.hid (show PlayM w w_ (.pointer (some ⟨g, 0, none⟩)) (.slice A4 m c4) from ⟨g, b, L, l, XL, X, A4, m, c4, rfl, rfl, HC.out, HR.out, HX.out, HGB.out, HB.out⟩)
        go_wp2_with fail
        go_meet
        case rel => exact ⟨HEND, HD⟩
      case rest =>
        clear HC HX HD HR HB HGB HRP HPU HCD HBT HAT HVC HV35 hm128
        obtain ⟨hplay, hdd⟩ := hcut
        obtain ⟨g, b, L, l, XL, X, A4, m, c4, rfl, rfl, hc, hr, hx, hgb, hbw⟩ := hplay.out
        have HC := Lib.hid hc; have HR := Lib.hid hr; have HX := Lib.hid hx; have HGB := Lib.hid hgb; have HB := Lib.hid hbw
        have HD := hdd
        have hm128 : m ≤ 128 := by rw [← hx.2.2]; exact hr.lens.2.2
        obtain ⟨his1, d1, d2, hd1, hd2, habs⟩ := hr.get (pt, id)
        have HO1 := Lib.hid (getD_okM (p := (pt, id)) (fun e he => (hc.ok.1 e he).2))
        have HO2 := Lib.hid (getD_okM (p := (pt, id)) (fun e he => (hx.2.1 e he).2))
        have HRG := Lib.hid (fun w' (h' : RowM w' A4 m l) => show Calls Try.prog 12 #[.slice A4 m c4, .int .i64 pt, .agg (id.map B).toArray] w' fun e w2 => e = .returned (.tuple #[.agg (markV ((lookM l (pt, id)).getD noMrk)).toArray, .bool (lookM l (pt, id)).isSome]) ∧ Below w'.heap.size w' w2 from rget20_any (c := c4) (pt, id) w' h' HKO.out (by omega))
        have HGT := Lib.hid (fun w' (h' : MarksAt w' g b L) (hg : Grow wc w') => show Calls Try.prog 13 #[.pointer (some ⟨g, 0, none⟩), .int .i64 pt, .agg (id.map B).toArray] w' fun e w2 => ∃ A c, e = .returned (.tuple #[.agg (markV (((lookM L (pt, id)).getD noMrk).at A c)).toArray, .bool (lookM L (pt, id)).isSome]) ∧ PathAt w2 (((lookM L (pt, id)).getD noMrk).at A c) d1 ∧ Below w'.heap.size w' w2 from mget_any g b L (pt, id) w' d1 h' HKO.out (hd1.grow hg))
        rw [← HIS.out] at HRG HGT
        have HSM := Lib.hid (fun A c w' (hg : Grow wc w') (h' : PathAt w' (((lookM L (pt, id)).getD noMrk).at A c) d1) => show Calls Try.prog 14 #[.agg (markV (((lookM L (pt, id)).getD noMrk).at A c)).toArray, .agg (markV ((lookM l (pt, id)).getD noMrk)).toArray] w' fun e w2 => e = .returned (.bool true) ∧ Below w'.heap.size w' w2 from rsame20_any (m1 := ((lookM L (pt, id)).getD noMrk).at A c) (m2 := (lookM l (pt, id)).getD noMrk) (d1 := d1) (d2 := d2) (by rw [decide_eq_true_iff]; exact habs) w' (Mrk.at_ok HO1.out A c) HO2.out h' (hd2.grow hg))
        have HQC := Lib.hid (fun A c => mark_cl (Mrk.at_ok HO1.out A c))
        have HWC := Lib.hid (mark_cl HO2.out)
        rw [his1] at HGT
        obtain ⟨th, hth⟩ : ∃ q, q = (lookM l (pt, id)).isSome := ⟨_, rfl⟩
        rw [← hth] at HRG HGT
        obtain ⟨m1, hm1⟩ : ∃ q, q = (lookM L (pt, id)).getD noMrk := ⟨_, rfl⟩
        rw [← hm1] at HGT HSM HQC
        obtain ⟨cs, hcs⟩ : ∃ q, q = markV ((lookM l (pt, id)).getD noMrk) := ⟨_, rfl⟩
        rw [← hcs] at HRG HSM HWC
        clear hplay hdd hc hr hx hgb hbw his1 hd1 hd2 habs hth hm1 hcs HO1 HO2
        obtain ⟨wq, hwq⟩ : ∃ q, q = wc := ⟨_, rfl⟩
        have HW := Lib.hid (show Gw wq wc by rw [hwq]; exact Gw.refl _)
        rw [← hwq] at HGT HSM
        clear hwq
        rename World => w_
        have HM1 := Lib.hid (HP3.out _ HD.out)
        have c1 := HD.out.blk.at_ HD1.out
        go_wp2_with (first | (with_reducible refine wpl_loadm (o := ⟨some 99, _, _, _, _, _⟩) rfl rfl row_id HM1.out rfl HIC.out.len ?_))
        refine (HRG.out _ HX.out).mono ?_
        rintro e w_ ⟨rfl, hb_⟩
        have HB_ := Lib.hid (HB.out.grow' hb_)
        clear HB
        have HB := HB_
        clear HB_
        have HC_ := Lib.hid (HC.out.grow hb_)
        clear HC
        have HC := HC_
        clear HC_
        have HX_ := Lib.hid (HX.out.grow hb_)
        clear HX
        have HX := HX_
        clear HX_
        have HR_ := Lib.hid (HR.out.grow hb_)
        clear HR
        have HR := HR_
        clear HR_
        have HD_ := Lib.hid (HD.out.grow hb_)
        clear HD
        have HD := HD_
        clear HD_
        have HW_ := Lib.hid (HW.out.grow hb_)
        clear HW
        have HW := HW_
        clear HW_
        clear hb_
        clear HM1 c1 HRG
        go_wp2_with (first | (with_reducible refine wpl_alloc (o := ⟨some 11, _, _, _, _, _⟩) rfl rfl zero_mark ?_))
        intro w1_ hb1_ hbw1_ hsz1_
        have HB1_ := Lib.hid (at_mk hb1_ len_mark)
        have HBW1_ := Lib.hid hbw1_
        have HZ1_ := Lib.hid hsz1_
        clear hb1_ hbw1_ hsz1_
        go_wp2_with (first | (with_reducible refine wpl_storeb (o := ⟨none, .store _ _ _, _, _, _, _⟩) rfl rfl row_mark HB1_.out.blk rfl rfl HB1_.out.len HWC.out.len HWC.out.one ?_))
        intro w2_ hb2_ hg2_ hsz2_
        have hb_ := var_grow HBW1_.out HZ1_.out hg2_
        have HX_ := Lib.hid (at_mk hb2_ HWC.out.len)
        clear hb2_ hg2_ hsz2_ HB1_ HBW1_ HZ1_
        have HB_ := Lib.hid (HB.out.grow' hb_)
        clear HB
        have HB := HB_
        clear HB_
        have HC_ := Lib.hid (HC.out.grow hb_)
        clear HC
        have HC := HC_
        clear HC_
        have HX_ := Lib.hid (HX.out.grow hb_)
        clear HX
        have HX := HX_
        clear HX_
        have HR_ := Lib.hid (HR.out.grow hb_)
        clear HR
        have HR := HR_
        clear HR_
        have HD_ := Lib.hid (HD.out.grow hb_)
        clear HD
        have HD := HD_
        clear HD_
        have HW_ := Lib.hid (HW.out.grow hb_)
        clear HW
        have HW := HW_
        clear HW_
        generalize hg_ : w_.heap.size = gW at HX_ ⊢
        clear hg_
        have HV := HX_
        clear hb_ HX_
        clear w1_
        try clear w_
        rename World => w_
        have HM1 := Lib.hid (HP3.out _ HD.out)
        have c1 := HD.out.blk.at_ HD1.out
        go_wp2_with (first | (with_reducible refine wpl_loadm (o := ⟨some 108, _, _, _, _, _⟩) rfl rfl row_id HM1.out rfl HIC.out.len ?_))
        refine (HGT.out _ HC.out HW.out).mono ?_
        rintro e w2_ ⟨A2, c2, rfl, hp2, hb_⟩
        have HP2 := Lib.hid hp2
        have HQ2 := Lib.hid (HQC.out A2 c2)
        have HS2 := Lib.hid (HSM.out A2 c2)
        obtain ⟨gv, hgv⟩ : ∃ q, q = markV (m1.at A2 c2) := ⟨_, rfl⟩
        rw [← hgv] at HQ2 HS2 ⊢
        clear hgv hp2 HM1 c1
        have hb_ := hb_
        clear hb_
        have HB_ := Lib.hid (HB.out.grow' hb_)
        clear HB
        have HB := HB_
        clear HB_
        have HC_ := Lib.hid (HC.out.grow hb_)
        clear HC
        have HC := HC_
        clear HC_
        have HX_ := Lib.hid (HX.out.grow hb_)
        clear HX
        have HX := HX_
        clear HX_
        have HR_ := Lib.hid (HR.out.grow hb_)
        clear HR
        have HR := HR_
        clear HR_
        have HD_ := Lib.hid (HD.out.grow hb_)
        clear HD
        have HD := HD_
        clear HD_
        have HW_ := Lib.hid (HW.out.grow hb_)
        clear HW
        have HW := HW_
        clear HW_
        have HV_ := Lib.hid (HV.out.grow hb_)
        clear HV
        have HV := HV_
        clear HV_
        clear hb_
        try clear w_
        rename World => w_
        go_wp2_with (first | (with_reducible refine wpl_alloc (o := ⟨some 13, _, _, _, _, _⟩) rfl rfl zero_mark ?_))
        intro w1_ hb1_ hbw1_ hsz1_
        have HB1_ := Lib.hid (at_mk hb1_ len_mark)
        have HBW1_ := Lib.hid hbw1_
        have HZ1_ := Lib.hid hsz1_
        clear hb1_ hbw1_ hsz1_
        go_wp2_with (first | (with_reducible refine wpl_storeb (o := ⟨none, .store _ _ _, _, _, _, _⟩) rfl rfl row_mark HB1_.out.blk rfl rfl HB1_.out.len HQ2.out.len HQ2.out.one ?_))
        intro w2_ hb2_ hg2_ hsz2_
        have hb_ := var_grow HBW1_.out HZ1_.out hg2_
        have HX_ := Lib.hid (at_mk hb2_ HQ2.out.len)
        clear hb2_ hg2_ hsz2_ HB1_ HBW1_ HZ1_
        have HB_ := Lib.hid (HB.out.grow' hb_)
        clear HB
        have HB := HB_
        clear HB_
        have HC_ := Lib.hid (HC.out.grow hb_)
        clear HC
        have HC := HC_
        clear HC_
        have HX_ := Lib.hid (HX.out.grow hb_)
        clear HX
        have HX := HX_
        clear HX_
        have HR_ := Lib.hid (HR.out.grow hb_)
        clear HR
        have HR := HR_
        clear HR_
        have HW_ := Lib.hid (HW.out.grow hb_)
        clear HW
        have HW := HW_
        clear HW_
        have HV_ := Lib.hid (HV.out.grow hb_)
        clear HV
        have HV := HV_
        clear HV_
        have HP2_ := Lib.hid (HP2.out.grow hb_)
        clear HP2
        have HP2 := HP2_
        clear HP2_
        generalize hg_ : w_.heap.size = gY at HX_ ⊢
        clear hg_
        have HY := HX_
        clear hb_ HX_
        clear w1_
        try clear w_
        rename World => w_
        have z1 : (th != th) = false := by simp
        have N1 := Lib.hid (show ∀ j u, gv[j]? = some u → w_.cell? ⟨gY, 0 + j, none⟩ = some u from fun j u hu => by rw [Nat.zero_add]; exact HY.out.blk.at_ hu)
        have N2 := Lib.hid (show ∀ j u, cs[j]? = some u → w_.cell? ⟨gW, 0 + j, none⟩ = some u from fun j u hu => by rw [Nat.zero_add]; exact HV.out.blk.at_ hu)
        go_wp2_with (first | (with_reducible refine wpl_loadmw (o := ⟨some 116, _, _, _, _, _⟩) (by first | rfl | (go_simp; done) | fail) rfl row_mark N1.out rfl HQ2.out.len ?_) | (with_reducible refine wpl_loadmw (o := ⟨some 117, _, _, _, _, _⟩) (by first | rfl | (go_simp; done) | fail) rfl row_mark N2.out rfl HWC.out.len ?_))
        refine (HS2.out _ HW.out HP2.out).mono ?_
        clear N1 N2
        rintro e w_ ⟨rfl, hb_⟩
        have HB_ := Lib.hid (HB.out.grow' hb_)
        clear HB
        have HB := HB_
        clear HB_
        have HC_ := Lib.hid (HC.out.grow hb_)
        clear HC
        have HC := HC_
        clear HC_
        have HX_ := Lib.hid (HX.out.grow hb_)
        clear HX
        have HX := HX_
        clear HX_
        have HR_ := Lib.hid (HR.out.grow hb_)
        clear HR
        have HR := HR_
        clear HR_
        clear hb_
        have HIS2 := Lib.hid (isM_any (c := c4) g b L l XL X w_ HC.out HR.out HX.out)
        go_wp2_with fail
        refine HIS2.out.mono ?_
        rintro e w_ ⟨rfl, hb_⟩
        have HB_ := Lib.hid (HB.out.grow' hb_)
        clear HB
        have HB := HB_
        clear HB_
        have HC_ := Lib.hid (HC.out.grow hb_)
        clear HC
        have HC := HC_
        clear HC_
        have HX_ := Lib.hid (HX.out.grow hb_)
        clear HX
        have HX := HX_
        clear HX_
        have HR_ := Lib.hid (HR.out.grow hb_)
        clear HR
        have HR := HR_
        clear HR_
        clear hb_
        have HEND := Lib.hid (show PlayM w w_ (.pointer (some ⟨g, 0, none⟩)) (.slice A4 m c4) from ⟨g, b, L, l, XL, X, A4, m, c4, rfl, rfl, HC.out, HR.out, HX.out, HGB.out, HB.out⟩)
        go_wp2_with fail
        go_roundw
        case rel => exact ⟨k + 1, by omega, by go_num, HEND⟩
        case measure => simp [intOf]; omega
    · obtain rfl : k = n := by omega
      go_wp2_with fail
      refine (awake20_any _).mono ?_
      rintro e w9 ⟨rfl, hb9⟩
      have HB9 := Lib.hid (show Below w.heap.size w w9 by
        obtain ⟨_, _, _, _, _, _, _, _, _, _, _, _, _, _, _, hb⟩ := hI.out
        exact hb.grow' hb9)
      clear hb9
      go_wp2_with fail
      go_ret
      exact ⟨rfl, HB9.out⟩
end Go.Proofs.Ytofhohofaedokaa

/- The given statement MarksPlaySaid, out of the walk marksPlay_walk: for every input the law returns true, and each argument reads as it did. No condition. -/
namespace Go.Proofs.Ytofhohofaedokaa.lawMarksPlay
open Go.ChangeShapes Go.WideShapes Go.ChangeAt Go.RowKit
open Go.ChangeMaps (open_string shut_string)
set_option linter.unusedVariables false

theorem own : ownKnob Try.prog.godebug = none := by kernel_rfl
theorem laidOut : laidOutB Try.prog = true := by kernel_rfl

set_option maxRecDepth 100000 in
theorem lifted (os : Os) (started : os.Started) (H : Type) (enc : TypeId × Value → H) :
    ReturnsInHanded {} Try.checked os 3 .any (Rows.marksPlaySpec.pre6 enc Try.prog Try.f3 Rows.marksPlayRow.domain false) (Rows.marksPlaySpec.post enc Try.prog Try.f3 false true false false) := by
  refine returnsInHanded_of_change (C := Try.checked) own started (by kernel_rfl) Try.func3
    (ChangeSpec.witness6 (enc := enc) (C := Try.checked) false ⟨#[], #[.slice none 0 0], []⟩ 8 (by kernel_rfl) (by kernel_rfl) (by kernel_rfl) (by kernel_rfl)) ?_
  intro W base args ds gs before hval0 hW hcnd _
  have hval : ∀ (j : Nat) t v, Try.f3.params[j]? = some t → args[j]? = some v → Value.okWide Try.prog W .any base t v := hval0
  have hW' := hW
  obtain ⟨p, q, hA0, hV, rfl, hfz, hnd⟩ := hW
  have hA : DataW.TrodAll enc Try.prog W 0 (fun _ => true) true Try.f3.params.toList args.toList ds p := hA0
  rw [Try.params3] at hA hval
  obtain ⟨v0, vs0, d0, ds0, p0, q0, hargs, rfl, rfl, h0, r0⟩ := trodAll_cons hA
  obtain ⟨rfl, rfl, rfl⟩ := trodAll_nil r0
  obtain rfl : args = #[v0] := by cases args; simp_all
  obtain ⟨rfl, rfl⟩ := trodVars_none hV
  have k0 := h0
  have lt0 : ∀ x ∈ p0, x.block < W.heap.size := by obtain ⟨m, hm⟩ := k0; exact DataW.trod_lt m _ _ _ hm
  obtain ⟨x0_0, x0_1, x0_2, x0_3, rfl, f0_0, f0_1⟩ := open_actm (hval 0 22 v0 rfl rfl) h0
  clear hA0 hval0
  refine (marksPlay_walk x0_0 x0_1 x0_2 x0_3 W f0_0 f0_1).mono fun e W' ⟨he, bel⟩ => ?_
  subst he
  exact ⟨_, rfl, _, _, _, [], _, [], hW', trodAll_mk1 (shut_bool Try.underlying4 _), (trodAll_cons_mk (Below.trod laidOut (by kernel_rfl) (of_decide_eq_true (by kernel_rfl)) k0 bel lt0) trodAll_mk0), rfl, bel.frame _, fun h => by cases h⟩

theorem proved : Rows.MarksPlaySaid :=
  OpenClaim.holds_of_wide 3 Try.f3 rfl rfl rfl rfl rfl rfl rfl ⟨rfl, rfl, rfl, rfl, rfl⟩ rfl rfl rfl rfl rfl (by kernel_rfl) Try.func3 (by kernel_rfl)
    (of_decide_eq_true (by kernel_rfl)) (by unfold Func.isWrapper; first | (rw [if_pos (by decide +kernel)]; kernel_rfl) | (rw [if_neg (by decide +kernel)]; exact ⟨rfl, rfl⟩))
    (fun os started H enc _ => lifted os started H enc)
#print axioms proved
end Go.Proofs.Ytofhohofaedokaa.lawMarksPlay

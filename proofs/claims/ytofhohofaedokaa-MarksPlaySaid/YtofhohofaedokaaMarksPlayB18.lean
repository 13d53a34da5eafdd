/- The contract of the document's Put of a certificate; its row is its own. Turned out of XCertI. -/
import Derived.Test.YtofhohofaedokaaMarksPlayB17
import Derived.Deep.CutBlock
import Derived.Test.YtofhohofaedokaaMarksPlayB16
import Derived.Test.YtofhohofaedokaaMarksPlayB8
import Derived.Test.YtofhohofaedokaaMarksPlayB7
import Derived.Test.YtofhohofaedokaaMarksPlayB10
import Derived.Test.YtofhohofaedokaaMarksPlayB15
set_option linter.unusedSimpArgs false
/- The contract of the document's Put of a certificate; its row is its own. Turned out of XCertI. -/
namespace Go.Proofs.Ytofhohofaedokaa
open Go.RowKit Go.Shelf
set_option linter.unusedVariables false
set_option maxRecDepth 100000 in
set_option maxHeartbeats 4000000 in
theorem rcputo_any {A2 : Option Addr} {n2 c2 : Nat} {x : Cer} (w : World) (hx : x.ok) (hn : n2 ≤ 1000) (hi : Ids w A2 n2 c2 x.path) :
    Calls Try.prog 48 #[.agg (certV (.slice A2 n2 c2) x).toArray] w fun e w' => ∃ A' c', e = .returned (.slice A' (putCB x).length c') ∧ OwnAt w' w.heap.size A' (putCB x).length c' ((putCB x).map B) ∧ (putCB x).length ≤ c' ∧ Below w.heap.size w w' := by
  have HI := Lib.hid hi
  have HB := Lib.hid (Below.refl w.heap.size w)
  have HE := Lib.hid (fun w => reright_any x.e w hx.1); have HH := Lib.hid (fun w => rhright_any x.h w hx.2.2.1)
  have HPE := Lib.hid (fun w h => reput_any x.e w hx.1 h); have HPH := Lib.hid (fun w h => rhput_any x.h w hx.2.2.1 h)
  have LEB := Lib.hid (eformB_le hx.1); have LHB := Lib.hid (hformB_le hx.2.2.1)
  have HD := Lib.hid (cert_cl (v := .slice A2 n2 c2) rfl hx)
  have LE := Lib.hid (entV_length hx.1); have LH := Lib.hid (hdrV_length hx.2.2.1)
  have DT := Lib.hid (dig_map hx.2.2.2)
  have IA := Lib.hid (cert_ats (v := .slice A2 n2 c2) hx)
  have ME := Lib.hid (fun w g t hb => midCE (c := x) (v := .slice A2 n2 c2) (w := w) (g := g) (t := t) hb)
  have MH := Lib.hid (fun w g t hb => midCH (c := x) (v := .slice A2 n2 c2) (w := w) (g := g) (t := t) hx hb)
  have MT := Lib.hid (fun w g t hb => midCT (c := x) (v := .slice A2 n2 c2) (w := w) (g := g) (t := t) hx hb)
  have HNL := Lib.hid hi.2.1
  have HFL := Lib.hid (show ∀ k, k ≤ n2 → ((x.path.take k).flatten).length = k * 32 from fun k hk => by
    have h := flat_32 (x.path.take k) (fun d hd => hx.2.1 d (List.mem_of_mem_take hd))
    rw [h, List.length_take, hi.2.1, Nat.min_eq_left hk])
  obtain ⟨re, hre⟩ : ∃ v, v = rightE x.e := ⟨_, rfl⟩
  obtain ⟨rh, hrh⟩ : ∃ v, v = rightH x.h := ⟨_, rfl⟩
  have HF1 := Lib.hid (show re = true → eformB x.e = putEB x.e from fun h => by rw [hre] at h; unfold eformB; rw [if_pos h])
  have HF2 := Lib.hid (show re = false → eformB x.e = [] from fun h => by rw [hre] at h; unfold eformB; rw [if_neg (by simp [h])])
  have HF3 := Lib.hid (show rh = true → hformB x.h = putHB x.h from fun h => by rw [hrh] at h; unfold hformB; rw [if_pos h])
  have HF4 := Lib.hid (show rh = false → hformB x.h = [] from fun h => by rw [hrh] at h; unfold hformB; rw [if_neg (by simp [h])])
  rw [← hre] at HE HPE; rw [← hrh] at HH HPH
  obtain ⟨eb, heb⟩ : ∃ v, v = eformB x.e := ⟨_, rfl⟩
  obtain ⟨hb, hhb⟩ : ∃ v, v = hformB x.h := ⟨_, rfl⟩
  obtain ⟨ps, hps⟩ : ∃ k, k = x.path := ⟨_, rfl⟩
  obtain ⟨tg, htg⟩ : ∃ k, k = x.tag := ⟨_, rfl⟩
  have HPUT := Lib.hid (show putCB x = numB eb.length ++ eb ++ numB ps.length ++ ps.flatten ++ numB hb.length ++ hb ++ tg by rw [heb, hhb, hps, htg]; rfl)
  obtain ⟨out, hout⟩ : ∃ v, v = putCB x := ⟨_, rfl⟩
  rw [← hout] at HPUT ⊢
  rw [← heb] at LEB HF1 HF2
  rw [← hhb] at LHB HF3 HF4
  rw [← hps] at HI HNL HFL
  rw [← htg] at DT MT
  obtain ⟨ne, hne⟩ : ∃ v, v = eb.length := ⟨_, rfl⟩
  obtain ⟨nh, hnh⟩ : ∃ v, v = hb.length := ⟨_, rfl⟩
  have HNE := Lib.hid hne; have HNH := Lib.hid hnh
  rw [← hne] at LEB HPUT
  rw [← hnh] at LHB HPUT
  rw [HNL.out] at HPUT
  obtain ⟨xv, hxv⟩ : ∃ v, v = certV (.slice A2 n2 c2) x := ⟨_, rfl⟩
  obtain ⟨ev, hev⟩ : ∃ v, v = entV x.e := ⟨_, rfl⟩
  obtain ⟨hv, hhv⟩ : ∃ v, v = hdrV x.h := ⟨_, rfl⟩
  obtain ⟨tv, htv⟩ : ∃ v, v = tg.map B := ⟨_, rfl⟩
  rw [← hxv] at HD IA ME MH MT ⊢
  rw [← hev] at HE HPE LE ME
  rw [← hhv] at HH HPH LH MH
  rw [← htv] at DT MT
  have lne := LEB.out; have lnh := LHB.out
  obtain ⟨me, hme⟩ : ∃ v, v = (numB ne).length := ⟨_, rfl⟩
  obtain ⟨mh, hmh⟩ : ∃ v, v = (numB nh).length := ⟨_, rfl⟩
  obtain ⟨mn, hmn⟩ : ∃ v, v = (numB n2).length := ⟨_, rfl⟩
  have le9 : me ≤ 9 := by rw [hme]; exact numB_le (by omega)
  have lh9 : mh ≤ 9 := by rw [hmh]; exact numB_le (by omega)
  have ln9 : mn ≤ 9 := by rw [hmn]; exact numB_le (by omega)
  have HME := Lib.hid hme; have HMH := Lib.hid hmh; have HMN := Lib.hid hmn
  have HRE := Lib.hid (fun w => rnum_any ne w (by omega)); have HRH := Lib.hid (fun w => rnum_any nh w (by omega)); have HRN := Lib.hid (fun w => rnum_any n2 w (by omega))
  rw [← hme] at HRE; rw [← hmh] at HRH; rw [← hmn] at HRN
  have HA1 := Lib.hid (all_bytes eb); have HA2 := Lib.hid (all_bytes hb); have HA3 := Lib.hid (all_bytes (numB nh)); have HA4 := Lib.hid (all_bytes (numB n2)); have HA5 := Lib.hid (all_bytes tg)
  have HTG := Lib.hid DT.out
  clear hi hx hre hrh heb hhb hps htg hout hne hnh hxv hev hhv htv hme hmh hmn
  go_enter Try.func48, Try.ntmps48
  go_wp2_with (first | (with_reducible refine wpl_box (o := ⟨some 1, _, _, _, _, _⟩) rfl rfl rfl ?_))
  intro w2_ hb2_ hb_ hsz2_
  have HX_ := Lib.hid (at_mk hb2_ HD.out.len)
  clear hb2_ hsz2_
  have HB_ := Lib.hid (HB.out.grow' hb_)
  clear HB
  have HB := HB_
  clear HB_
  have HI_ := Lib.hid (HI.out.grow hb_)
  clear HI
  have HI := HI_
  clear HI_
  have HX := HX_
  clear hb_ HX_
  try clear w_
  rename World => w_
  have FME := Lib.hid (ME.out _ _ _ HX.out.blk)
  go_wp2_with (first | (with_reducible refine wpl_loadm (o := ⟨some 8, _, _, _, _, _⟩) rfl rfl row_entry FME.out rfl LE.out ?_))
  refine (HE.out _).mono ?_
  rintro e w2_ ⟨rfl, hb_⟩
  clear FME HE
  have hb_ := hb_
  clear hb_
  have HB_ := Lib.hid (HB.out.grow' hb_)
  clear HB
  have HB := HB_
  clear HB_
  have HX_ := Lib.hid (HX.out.grow hb_)
  clear HX
  have HX := HX_
  clear HX_
  have HI_ := Lib.hid (HI.out.grow hb_)
  clear HI
  have HI := HI_
  clear HI_
  clear hb_
  try clear w_
  rename World => w_
  go_upto_if 9 with fail
  go_cut [3] from 7 (fun s3 wr => ∃ A3 c3, s3 = .slice A3 ne c3 ∧ Hid (Sl wr wr.heap.size 1 A3 ne (eb.map B) ∧ At wr w.heap.size 36 137 xv ∧ Ids wr A2 n2 c2 ps ∧ Below w.heap.size w wr))
  case first =>
    cases re with
    | false =>
      have h0 := HF2.out (by first | trivial | rfl)
      have h1 := HNE.out
      rw [h0] at h1
      have HZ0 := Lib.hid (show Sl w_ w_.heap.size 1 none ne (eb.map B) by rw [h0, h1]; exact Sl.nil)
      have h1 : ne = 0 := h1
      have HN0 := Lib.hid h1
      clear h0 h1
      go_wp2_with fail
      go_meet
      case rel => exact ⟨none, 0, by rw [HN0.out], Lib.hid ⟨HZ0.out, HX.out, HI.out, HB.out⟩⟩
    | true =>
      have FME := Lib.hid (ME.out _ _ _ HX.out.blk)
      go_wp2_with (first | (with_reducible refine wpl_loadm (o := ⟨some 11, _, _, _, _, _⟩) rfl rfl row_entry FME.out rfl LE.out ?_))
      refine (HPE.out _ (by first | trivial | rfl)).mono ?_
      rintro e w2_ ⟨A3, c3, rfl, hs3, hc3, hb_⟩
      have h0 := HF1.out (by first | trivial | rfl)
      have HLE := Lib.hid (show (putEB x.e).length = ne by rw [HNE.out, h0])
      rw [HLE.out] at hs3 ⊢
      have HS3 := Lib.hid (show Sl w2_ w2_.heap.size 1 A3 ne (eb.map B) by rw [h0]; exact hs3)
      clear hs3 hc3 FME h0
      have hb_ := hb_
      clear hb_
      have HB_ := Lib.hid (HB.out.grow' hb_)
      clear HB
      have HB := HB_
      clear HB_
      have HX_ := Lib.hid (HX.out.grow hb_)
      clear HX
      have HX := HX_
      clear HX_
      have HI_ := Lib.hid (HI.out.grow hb_)
      clear HI
      have HI := HI_
      clear HI_
      clear hb_
      try clear w_
      rename World => w_
      go_wp2_with fail
      go_meet
      case rel => exact ⟨A3, c3, rfl, Lib.hid ⟨HS3.out, HX.out, HI.out, HB.out⟩⟩
  case rest =>
    obtain ⟨A3, c3, rfl, hI⟩ := hcut
    clear HX HI HB
    have HS3 := Lib.hid hI.out.1; have HX := Lib.hid hI.out.2.1; have HI := Lib.hid hI.out.2.2.1; have HB := Lib.hid hI.out.2.2.2
    clear hI
    try clear w_
    rename World => w_
    have FMH := Lib.hid (MH.out _ _ _ HX.out.blk)
    go_wp2_with (first | (with_reducible refine wpl_loadm (o := ⟨some 14, _, _, _, _, _⟩) rfl rfl row_header FMH.out rfl LH.out ?_))
    refine (HH.out _).mono ?_
    rintro e w2_ ⟨rfl, hb_⟩
    clear FMH HH
    have hb_ := hb_
    clear hb_
    have HB_ := Lib.hid (HB.out.grow' hb_)
    clear HB
    have HB := HB_
    clear HB_
    have HX_ := Lib.hid (HX.out.grow hb_)
    clear HX
    have HX := HX_
    clear HX_
    have HI_ := Lib.hid (HI.out.grow hb_)
    clear HI
    have HI := HI_
    clear HI_
    have HS3_ := Lib.hid (HS3.out.grow hb_)
    clear HS3
    have HS3 := HS3_
    clear HS3_
    clear hb_
    try clear w_
    rename World => w_
    go_upto_if 15 with fail
    go_cut [4] from 7 (fun s4 wr => ∃ A4 c4, s4 = .slice A4 nh c4 ∧ Hid (Sl wr wr.heap.size 1 A4 nh (hb.map B) ∧ Sl wr wr.heap.size 1 A3 ne (eb.map B) ∧ At wr w.heap.size 36 137 xv ∧ Ids wr A2 n2 c2 ps ∧ Below w.heap.size w wr))
    case first =>
      cases rh with
      | false =>
        have h0 := HF4.out (by first | trivial | rfl)
        have h1 := HNH.out
        rw [h0] at h1
        have HZ0 := Lib.hid (show Sl w_ w_.heap.size 1 none nh (hb.map B) by rw [h0, h1]; exact Sl.nil)
        have h1 : nh = 0 := h1
        have HN0 := Lib.hid h1
        clear h0 h1
        go_wp2_with fail
        go_meet
        case rel => exact ⟨none, 0, by rw [HN0.out], Lib.hid ⟨HZ0.out, HS3.out, HX.out, HI.out, HB.out⟩⟩
      | true =>
        have FMH := Lib.hid (MH.out _ _ _ HX.out.blk)
        go_wp2_with (first | (with_reducible refine wpl_loadm (o := ⟨some 17, _, _, _, _, _⟩) rfl rfl row_header FMH.out rfl LH.out ?_))
        refine (HPH.out _ (by first | trivial | rfl)).mono ?_
        rintro e w2_ ⟨A4, c4, rfl, hs4, hc4, hb_⟩
        have h0 := HF3.out (by first | trivial | rfl)
        have HLE := Lib.hid (show (putHB x.h).length = nh by rw [HNH.out, h0])
        rw [HLE.out] at hs4 ⊢
        have HS4 := Lib.hid (show Sl w2_ w2_.heap.size 1 A4 nh (hb.map B) by rw [h0]; exact hs4)
        clear hs4 hc4 FMH h0
        have hb_ := hb_
        clear hb_
        have HB_ := Lib.hid (HB.out.grow' hb_)
        clear HB
        have HB := HB_
        clear HB_
        have HX_ := Lib.hid (HX.out.grow hb_)
        clear HX
        have HX := HX_
        clear HX_
        have HI_ := Lib.hid (HI.out.grow hb_)
        clear HI
        have HI := HI_
        clear HI_
        have HS3_ := Lib.hid (HS3.out.grow hb_)
        clear HS3
        have HS3 := HS3_
        clear HS3_
        clear hb_
        try clear w_
        rename World => w_
        go_wp2_with fail
        go_meet
        case rel => exact ⟨A4, c4, rfl, Lib.hid ⟨HS4.out, HS3.out, HX.out, HI.out, HB.out⟩⟩
    case rest =>
      obtain ⟨A4, c4, rfl, hI⟩ := hcut
      clear HX HI HB HS3
      have HS4 := Lib.hid hI.out.1; have HS3 := Lib.hid hI.out.2.1; have HX := Lib.hid hI.out.2.2.1; have HI := Lib.hid hI.out.2.2.2.1; have HB := Lib.hid hI.out.2.2.2.2
      clear hI
      try clear w_
      rename World => w6
      obtain ⟨Z, hZ⟩ : ∃ q, q = w6.heap.size := ⟨_, rfl⟩
      have HZ := Lib.hid hZ
      clear hZ
      have q1 := conv_u64' (n := ne) (by omega)
      go_wp2_with fail
      refine (HRE.out _).mono ?_
      rintro e w_ ⟨A5, c5, rfl, ho_, hc_, hb_⟩
      have HO := Lib.hid (show OwnAt w_ Z A5 me c5 ((numB ne).map B) by rw [HZ.out]; exact ho_)
      have HG := Lib.hid (show Grow w6 w_ from hb_)
      clear ho_ hc_ hb_ q1
      have HSL := Lib.hid (HS3.out.grow HG.out)
      have HZB := Lib.hid (show Z ≤ w_.heap.size by rw [HZ.out]; exact HG.out.size)
      go_wp2_with (at_builtin; refine wpl_apps rfl rfl el_u8 HO.out rfl HSL.out rfl HA1.out (by omega) (by omega) HZB.out ?_)
      intro A6 c6 w3_ ho_ hg_ hA_
      have hst := acc_step HG.out HZ.out HO.out ho_ hg_
      obtain ⟨k1, hk1⟩ : ∃ k, k = me + ne := ⟨_, rfl⟩
      obtain ⟨a1, ha1⟩ : ∃ a, a = numB ne ++ eb := ⟨_, rfl⟩
      have hk1b : k1 ≤ 100 := by omega
      rw [← hk1, ← ha1] at hst
      rw [← hk1]
      have HK1 := Lib.hid ha1
      have HO_ := Lib.hid hst.1; have HG_ := Lib.hid hst.2
      clear ho_ hg_ hA_ hst hk1 ha1 HO HG HSL HZB
      have HO := HO_; have HG := HG_
      clear HO_ HG_
      try clear w_
      rename World => w_
      have c37 := (HX.out.grow HG.out).blk.at_ IA.out.2.2.2.1
      have q1 := conv_u64' (n := n2) (by omega)
      go_wp2_with fail
      refine (HRN.out _).mono ?_
      rintro e w2_ ⟨A7, c7, rfl, ho_, hc_, hb_⟩
      have HSL := Lib.hid (Sl.of_own ho_)
      have HO_ := Lib.hid (show OwnAt w2_ Z A6 k1 c6 (a1.map B) from HO.out.grow hb_)
      have HG_ := Lib.hid (HG.out.grow' hb_)
      clear ho_ hc_ hb_ q1 c37 HO HG
      have HO := HO_; have HG := HG_
      clear HO_ HG_
      try clear w_
      rename World => w_
      have HZB := Lib.hid (show Z ≤ w_.heap.size by rw [HZ.out]; exact HG.out.size)
      go_wp2_with (at_builtin; refine wpl_apps rfl rfl el_u8 HO.out rfl HSL.out rfl HA4.out (by omega) (by omega) HZB.out ?_)
      intro A8 c8 w3_ ho_ hg_ hA_
      have hst := acc_step HG.out HZ.out HO.out ho_ hg_
      obtain ⟨k2, hk2⟩ : ∃ k, k = k1 + mn := ⟨_, rfl⟩
      obtain ⟨a2, ha2⟩ : ∃ a, a = a1 ++ numB n2 := ⟨_, rfl⟩
      have hk2b : k2 ≤ 110 := by omega
      rw [← hk2, ← ha2] at hst
      rw [← hk2]
      have HK2 := Lib.hid ha2
      have HO_ := Lib.hid hst.1; have HG_ := Lib.hid hst.2
      clear ho_ hg_ hA_ hst hk2 ha2 HO HG HSL HZB
      have HO := HO_; have HG := HG_
      clear HO_ HG_
      try clear w_
      rename World => w_
      go_wp2_with fail
      go_loopw [5, 6] (fun s5 iv wr => ∃ k : Nat, ∃ A' c', k ≤ n2 ∧ iv = .int .i64 k ∧ s5 = .slice A' (k2 + k * 32) c' ∧ Hid (OwnAt wr Z A' (k2 + k * 32) c' ((a2 ++ (ps.take k).flatten).map B)) ∧ Hid (Grow w6 wr)) (fun _ iv _ => n2 - (intOf iv).toNat)
      case atStart => exact ⟨0, A8, c8, by omega, rfl, by simp, Lib.hid (by simpa using HO.out), HG⟩
      case round =>
        obtain ⟨k, A9, c9, hk, rfl, rfl, hO, hG⟩ := hrel
        clear HO HG
        have HO := Lib.hid hO.out; have HG := Lib.hid hG.out
        clear hO hG
        rename World => w_
        have c37 := (HX.out.grow HG.out).blk.at_ IA.out.2.2.2.1
        by_cases hlt : k < n2
        · obtain ⟨b, off, d, rfl, hd, hd32, hbz, hcell⟩ := (HI.out.grow HG.out).key hlt
          have HSN := Lib.hid (flat_take hd)
          have HC := Lib.hid hcell
          have HDG := Lib.hid (dig_map hd32)
          have HAD := Lib.hid (all_bytes d)
          obtain ⟨dv, hdv⟩ : ∃ v, v = d.map B := ⟨_, rfl⟩
          have HDV := Lib.hid hdv
          rw [← hdv] at HC HDG
          obtain ⟨xs, hxs⟩ : ∃ v, v = a2 ++ (ps.take k).flatten := ⟨_, rfl⟩
          have HXS := Lib.hid hxs
          rw [← hxs] at HO
          obtain ⟨kk, hkk⟩ : ∃ v, v = k2 + k * 32 := ⟨_, rfl⟩
          have hkb : kk ≤ 33000 := by omega
          have HKK := Lib.hid hkk
          rw [← hkk] at HO ⊢
          clear hd hd32 hbz hcell hdv hxs hkk
          go_wp2_with (first | (with_reducible refine wpl_loadm (o := ⟨some 44, _, _, _, _, _⟩) rfl rfl row_id HC.out rfl HDG.out.len ?_))
          refine (tbytes_any HDG.out _).mono ?_
          rintro e w2_ ⟨A7, c7, rfl, hs_, hc_, hb_⟩
          have HSL := Lib.hid hs_
          have HO_ := Lib.hid (show OwnAt w2_ Z A9 kk c9 (xs.map B) from HO.out.grow hb_)
          have HG_ := Lib.hid (HG.out.grow' hb_)
          clear hs_ hc_ hb_ c37 HO HG HC
          have HO := HO_; have HG := HG_
          clear HO_ HG_
          have HZB := Lib.hid (show Z ≤ w2_.heap.size by rw [HZ.out]; exact HG.out.size)
          go_wp2_with (at_builtin; refine wpl_apps rfl rfl el_u8 HO.out rfl HSL.out rfl HAD.out (by omega) (by omega) HZB.out ?_)
          intro A10 c10 w3_ ho_ hg_ hA_
          have hst := acc_step HG.out HZ.out HO.out ho_ hg_
          have HO_ := Lib.hid (show OwnAt w3_ Z A10 (k2 + (k + 1) * 32) c10 ((a2 ++ (ps.take (k + 1)).flatten).map B) by
            rw [HSN.out, ← List.append_assoc, ← HXS.out, show k2 + (k + 1) * 32 = kk + 32 by have := HKK.out; omega]; exact hst.1)
          have HG_ := Lib.hid hst.2
          have HNN := Lib.hid (show kk + 32 = k2 + (k + 1) * 32 by have := HKK.out; omega)
          clear ho_ hg_ hA_ hst HO HG HSL HZB
          rw [HNN.out]
          go_wp2_with fail
          go_roundw
          case rel => exact ⟨k + 1, A10, c10, by omega, by go_num, rfl, HO_, HG_⟩
          case measure => simp [intOf]; omega
        · obtain rfl : k = n2 := by omega
          have hfl := HFL.out k (Nat.le_refl _)
          rw [List.take_of_length_le (by rw [HNL.out]; exact Nat.le_refl _)] at hfl
          obtain ⟨a3, ha3⟩ : ∃ v, v = a2 ++ ps.flatten := ⟨_, rfl⟩
          obtain ⟨k3, hk3⟩ : ∃ v, v = k2 + k * 32 := ⟨_, rfl⟩
          have hk3b : k3 ≤ 33000 := by omega
          have HK3 := Lib.hid ha3
          have HO_ := Lib.hid (show OwnAt w_ Z A9 k3 c9 (a3.map B) by have h := HO.out; rw [List.take_of_length_le (by rw [HNL.out]; exact Nat.le_refl _), ← ha3, ← hk3] at h; exact h)
          rw [← hk3]
          clear ha3 hk3 hfl HO
          have HO := HO_
          clear HO_
          have q1 := conv_u64' (n := nh) (by omega)
          go_wp2_with fail
          refine (HRH.out _).mono ?_
          rintro e w2_ ⟨A7, c7, rfl, ho_, hc_, hb_⟩
          have HSL := Lib.hid (Sl.of_own ho_)
          have HO_ := Lib.hid (show OwnAt w2_ Z A9 k3 c9 (a3.map B) from HO.out.grow hb_)
          have HG_ := Lib.hid (HG.out.grow' hb_)
          clear ho_ hc_ hb_ q1 c37 HO HG
          have HO := HO_; have HG := HG_
          clear HO_ HG_
          try clear w_
          rename World => w_
          have HZB := Lib.hid (show Z ≤ w_.heap.size by rw [HZ.out]; exact HG.out.size)
          go_wp2_with (at_builtin; refine wpl_apps rfl rfl el_u8 HO.out rfl HSL.out rfl HA3.out (by omega) (by omega) HZB.out ?_)
          intro A10 c10 w3_ ho_ hg_ hA_
          have hst := acc_step HG.out HZ.out HO.out ho_ hg_
          obtain ⟨k4, hk4⟩ : ∃ k, k = k3 + mh := ⟨_, rfl⟩
          obtain ⟨a4, ha4⟩ : ∃ a, a = a3 ++ numB nh := ⟨_, rfl⟩
          have hk4b : k4 ≤ 34000 := by omega
          rw [← hk4, ← ha4] at hst
          rw [← hk4]
          have HK4 := Lib.hid ha4
          have HO_ := Lib.hid hst.1; have HG_ := Lib.hid hst.2
          clear ho_ hg_ hA_ hst hk4 ha4 HO HG HSL HZB
          have HO := HO_; have HG := HG_
          clear HO_ HG_
          try clear w_
          rename World => w_
          have HSL := Lib.hid (HS4.out.grow HG.out)
          have HZB := Lib.hid (show Z ≤ w_.heap.size by rw [HZ.out]; exact HG.out.size)
          go_wp2_with (at_builtin; refine wpl_apps rfl rfl el_u8 HO.out rfl HSL.out rfl HA2.out (by omega) (by omega) HZB.out ?_)
          intro A11 c11 w3_ ho_ hg_ hA_
          have hst := acc_step HG.out HZ.out HO.out ho_ hg_
          obtain ⟨k5, hk5⟩ : ∃ k, k = k4 + nh := ⟨_, rfl⟩
          obtain ⟨a5, ha5⟩ : ∃ a, a = a4 ++ hb := ⟨_, rfl⟩
          have hk5b : k5 ≤ 35000 := by omega
          rw [← hk5, ← ha5] at hst
          rw [← hk5]
          have HK5 := Lib.hid ha5
          have HO_ := Lib.hid hst.1; have HG_ := Lib.hid hst.2
          clear ho_ hg_ hA_ hst hk5 ha5 HO HG HSL HZB
          have HO := HO_; have HG := HG_
          clear HO_ HG_
          try clear w_
          rename World => w_
          have FMT := Lib.hid (MT.out _ _ _ (HX.out.grow HG.out).blk)
          go_wp2_with (first | (with_reducible refine wpl_loadm (o := ⟨some 58, _, _, _, _, _⟩) rfl rfl row_aid FMT.out rfl DT.out.len ?_))
          refine (tbytes_any DT.out _).mono ?_
          rintro e w2_ ⟨A12, c12, rfl, hs_, hc_, hb_⟩
          have HSL := Lib.hid hs_
          have HO_ := Lib.hid (show OwnAt w2_ Z A11 k5 c11 (a5.map B) from HO.out.grow hb_)
          have HG_ := Lib.hid (HG.out.grow' hb_)
          clear hs_ hc_ hb_ FMT HO HG
          have HO := HO_; have HG := HG_
          clear HO_ HG_
          try clear w_
          rename World => w_
          have HZB := Lib.hid (show Z ≤ w_.heap.size by rw [HZ.out]; exact HG.out.size)
          go_wp2_with (at_builtin; refine wpl_apps rfl rfl el_u8 HO.out rfl HSL.out rfl HA5.out (by omega) (by omega) HZB.out ?_)
          intro A13 c13 w3_ ho_ hg_ hA_
          have hst := acc_step HG.out HZ.out HO.out ho_ hg_
          have HEQ := Lib.hid (show a5 ++ tg = out by rw [HPUT.out, HK5.out, HK4.out, HK3.out, HK2.out, HK1.out])
          rw [HEQ.out] at hst
          have HX6 := Lib.hid (own_base hst.1 (show w.heap.size ≤ Z by rw [HZ.out]; exact HB.out.size))
          have HC6 := Lib.hid (own_cap1 hst.1)
          have HL6 := Lib.hid (show k5 + 32 = out.length by have := (Sl.of_own hst.1).len; simpa using this.symm)
          have HB6 := Lib.hid (HB.out.grow' hst.2)
          clear ho_ hg_ hA_ hst HO HG HSL HZB
          go_wp2_with fail
          go_ret
          refine ⟨A13, c13, by rw [← HL6.out]; rfl, ?_, by rw [← HL6.out]; exact HC6.out, HB6.out⟩
          rw [← HL6.out]; exact HX6.out
end Go.Proofs.Ytofhohofaedokaa

/- The document's marks: Bytes. Printed by mkmsb.py. -/
namespace Go.Proofs.Ytofhohofaedokaa
open Go.RowKit
set_option linter.unusedVariables false
theorem putCB_leM {x : Cer} (hx : x.ok) (hp : x.path.length ≤ 32) : (putCB x).length ≤ 2000 := by
  have l1 := eformB_le hx.1; have l2 := hformB_le hx.2.2.1; have l3 := hx.2.2.2
  have n1 := numB_le (n := (eformB x.e).length) (by omega); have n2 := numB_le (n := x.path.length) (by omega); have n3 := numB_le (n := (hformB x.h).length) (by omega)
  have fl := flat_32 x.path hx.2.1
  unfold putCB
  simp only [List.length_append]
  omega
theorem apart_new {w w2 : World} {Z n c m c2 : Nat} {A O : Option Addr} {xs ys : List Value} (h1 : OwnAt w Z A n c xs) (h2 : OwnAt w2 w.heap.size O m c2 ys) : Apart A O := by
  intro g ha ho
  have l1 := own_from h2 g ho
  have l2 := (h1.lt g (by cases A <;> simp_all [Value.ownBlock])).2
  omega
/-- A mark's bytes in a form, behind its key. -/
def putMk (x : MKey × AMk) : List UInt8 := numB x.1.1.toNat ++ x.1.2 ++ numB x.2.2.toNat ++ numB (putCB x.2.1).length ++ putCB x.2.1
def bytesM (X : List (MKey × AMk)) : List UInt8 := numB X.length ++ X.flatMap putMk
/-- Marks in memory and what they are. -/
def PR (w : World) (l : MarksL) (X : List (MKey × AMk)) : Prop := X.length = l.length ∧ ∀ (k : Nat) e x, l[k]? = some e → X[k]? = some x → e.1 = x.1 ∧ ∃ ds, PathAt w e.2 ds ∧ x.2 = absM e.2 ds
theorem PR.grow {w w' : World} {l : MarksL} {X : List (MKey × AMk)} (h : PR w l X) (k : Grow w w') : PR w' l X := ⟨h.1, fun i e x h1 h2 => by
  obtain ⟨h3, ds, h4, h5⟩ := h.2 i e x h1 h2
  exact ⟨h3, ds, h4.grow k, h5⟩⟩
/-- Marks that Put lets in. -/
def InOKM (e : MKey × Mrk) : Prop := (e.1.1 = 0 ∨ e.1.1 = 1) ∧ rightM e.2 = true
theorem right_parts {m : Mrk} (h : rightM m = true) : m.pn ≤ 32 ∧ 0 ≤ m.expiry ∧ m.expiry ≤ 1099511627776 := by
  unfold rightM at h
  simp only [Bool.and_eq_true, decide_eq_true_eq, inB_iff] at h
  exact ⟨h.1.2, h.2.1, h.2.2⟩
set_option maxRecDepth 100000 in
set_option maxHeartbeats 16000000 in
theorem rbytes20_any {A : Option Addr} {n c : Nat} {l : MarksL} {X : List (MKey × AMk)} (w : World) (h : RowM w A n l) (hn : n ≤ 128) (hx : ∀ e ∈ l, InOKM e) (hp : PR w l X) :
    Calls Try.prog 29 #[.slice A n c] w fun e w' => ∃ A' c', e = .returned (.slice A' (bytesM X).length c') ∧ Sl w' w'.heap.size 1 A' (bytesM X).length ((bytesM X).map B) ∧ (bytesM X).length ≤ c' ∧ (bytesM X).length ≤ 300000 ∧ Grow w w' := by
  have HI6 := Lib.hid h; have HXL := Lib.hid hx; have HPR := Lib.hid hp
  have HIL2 := Lib.hid h.2.2
  have HXN := Lib.hid (show X.length = n by rw [hp.1, h.2.2])
  have HPT := Lib.hid (show bytesM X = numB n ++ X.flatMap putMk by unfold bytesM; rw [hp.1, h.2.2])
  obtain ⟨out, hout⟩ : ∃ q, q = bytesM X := ⟨_, rfl⟩
  rw [← hout] at HPT ⊢
  obtain ⟨w_, hw⟩ : ∃ x, x = w := ⟨_, rfl⟩
  suffices H : Calls Try.prog 29 #[.slice A n c] w_ fun e w' => ∃ A' c', e = .returned (.slice A' out.length c') ∧ Sl w' w'.heap.size 1 A' out.length (out.map B) ∧ out.length ≤ c' ∧ out.length ≤ 300000 ∧ Grow w w' by rw [hw] at H; exact H
  have HG := Lib.hid (show Grow w w_ by rw [hw]; exact Grow.refl _)
  obtain ⟨Z, hZ⟩ : ∃ q, q = w.heap.size := ⟨_, rfl⟩
  have HZ := Lib.hid hZ
  clear hw h hx hp hout hZ
  obtain ⟨mn, hmn⟩ : ∃ q, q = (numB n).length := ⟨_, rfl⟩
  have lmn : mn ≤ 9 := by rw [hmn]; exact numB_le (by omega)
  have HRN := Lib.hid (fun w => rnum_any n w (by omega))
  rw [← hmn] at HRN
  clear hmn
  go_enter Try.func29, Try.ntmps29
  have q1 := conv_u64' (n := n) (by omega)
  go_wp2_with fail
  refine (HRN.out _).mono ?_
  rintro e w2_ ⟨A7, c7, rfl, ho_, hc_, hb_⟩
  have HW := Lib.hid (show OwnAt w2_ Z A7 mn c7 ((numB n).map B) from own_base ho_ (by rw [HZ.out]; exact HG.out.size))
  replace HG := Lib.hid (HG.out.grow' hb_)
  clear ho_ hc_ hb_ q1
  try clear w_
  rename World => w_
  have HK1 := Lib.hid (show numB n = numB n ++ (X.take 0).flatMap putMk by simp)
  go_wp2_with fail
  go_loopw [3, 4] (fun s3 iv wr => ∃ k : Nat, ∃ A3 m c3 acc, k ≤ n ∧ iv = .int .i64 k ∧ s3 = .slice A3 m c3 ∧ m ≤ 9 + k * 2100 ∧ Hid (OwnAt wr Z A3 m c3 (acc.map B) ∧ acc = numB n ++ (X.take k).flatMap putMk ∧ Grow w wr)) (fun _ iv _ => n - (intOf iv).toNat)
  case atStart => exact ⟨0, A7, mn, c7, numB n, by omega, rfl, rfl, by omega, Lib.hid ⟨HW.out, HK1.out, HG.out⟩⟩
  case round =>
    obtain ⟨k, A3, m, c3, acc, hk, rfl, rfl, hm, hI⟩ := hrel
    clear HW HG HK1
    have HW := Lib.hid hI.out.1; have HAC := Lib.hid hI.out.2.1; have HG := Lib.hid hI.out.2.2
    clear hI
    rename World => w_
    by_cases hlt : k < n
    · obtain ⟨b, off, p, rfl, hbl, hp, hok, hc⟩ := HI6.out.at_ hlt
      obtain ⟨x, hx⟩ : ∃ x, X[k]? = some x := ⟨_, List.getElem?_eq_getElem (by have := HXN.out; omega)⟩
      have HSN := Lib.hid (fm_snocR putMk hx)
      obtain ⟨hkey, ds, hpa, habs⟩ := HPR.out.2 k p x hp hx
      obtain ⟨hpart, hright⟩ := HXL.out p (List.mem_of_getElem? hp)
      obtain ⟨r1, r2, r3⟩ := right_parts hright
      obtain ⟨ix, hix1, hixl, hix2⟩ := natI (z := p.1.1) (m := 1) (by omega) (by omega)
      obtain ⟨ex, hex1, hexl, hex2⟩ := natI (z := p.2.expiry) (m := 1099511627776) r2 (by omega)
      have hcok : (cerM p.2 ds).ok := cerM_ok hok.2 hpa.2.2.1
      have hpl : (cerM p.2 ds).path.length = p.2.pn := hpa.2.1
      have HRC := Lib.hid (fun (w' : World) (hb : Grow w w') => rcputo_any w' hcok (by omega) (hpa.grow hb))
      obtain ⟨cb, hcb⟩ : ∃ q, q = putCB (cerM p.2 ds) := ⟨_, rfl⟩
      have hcl : cb.length ≤ 2000 := by rw [hcb]; exact putCB_leM hcok (by omega)
      rw [← hcb] at HRC
      obtain ⟨tx, htx⟩ : ∃ q, q = p.1.2 := ⟨_, rfl⟩
      have HPI := Lib.hid (show putMk x = numB ix ++ tx ++ numB ex ++ numB cb.length ++ cb by unfold putMk; rw [← hkey, habs, hix2, ← htx]; unfold absM; rw [hex2, ← hcb])
      have HDT := Lib.hid (show Dig (tx.map B) tx from ⟨rfl, by rw [htx]; exact hok.1.2⟩)
      have HMC := Lib.hid (fun w' (hb : Grow w w') => show ∀ j u, (encAtM p)[j]? = some u → w'.cell? ⟨b, off + k * 171 + j, none⟩ = some u from fun j u hu => (hb.cell (p := ⟨b, off + k * 171 + j, none⟩) hbl).trans (hc j u hu))
      have HE0 := Lib.hid (show (encAtM p)[0]? = some (.int .i64 (ix : Int)) by rw [encAtM_part, hix1])
      have HE170 := Lib.hid (show (encAtM p)[170]? = some (.int .i64 (ex : Int)) by rw [encAtM_exp hok, hex1])
      have HET := Lib.hid (show ∀ j u, (tx.map B)[j]? = some u → (encAtM p)[1 + j]? = some u from fun j u hu => encAtM_id hok (by rw [← htx]; exact hu))
      have HEC := Lib.hid (show ∀ j u, (certV (.slice p.2.pA p.2.pn p.2.pc) (cerM p.2 ds))[j]? = some u → (encAtM p)[33 + j]? = some u from fun j u hu => encAtM_mark hok (by have := mark_cert hu; rwa [Nat.zero_add] at this))
      have LCV := Lib.hid (certV_len (v := .slice p.2.pA p.2.pn p.2.pc) hcok)
      obtain ⟨cv, hcv⟩ : ∃ q, q = certV (.slice p.2.pA p.2.pn p.2.pc) (cerM p.2 ds) := ⟨_, rfl⟩
      have HRC2 := Lib.hid (show ∀ (w' : World) (hb : Grow w w'), Calls Try.prog 48 #[.agg cv.toArray] w' fun e w2 => ∃ A' c', e = .returned (.slice A' cb.length c') ∧ OwnAt w2 w'.heap.size A' cb.length c' (cb.map B) ∧ cb.length ≤ c' ∧ Below w'.heap.size w' w2 from fun w' hb => by rw [hcv]; exact HRC.out w' hb)
      rw [← hcv] at HEC LCV
      obtain ⟨pv, hpv⟩ : ∃ q, q = encAtM p := ⟨_, rfl⟩
      rw [← hpv] at HMC HE0 HE170 HET HEC
      obtain ⟨tb, htb⟩ : ∃ q, q = tx.map B := ⟨_, rfl⟩
      rw [← htb] at HDT HET
      obtain ⟨mi, hmi⟩ : ∃ q, q = (numB ix).length := ⟨_, rfl⟩
      have lmi : mi ≤ 9 := by rw [hmi]; exact numB_le (by omega)
      obtain ⟨me, hme⟩ : ∃ q, q = (numB ex).length := ⟨_, rfl⟩
      have lme : me ≤ 9 := by rw [hme]; exact numB_le (by omega)
      obtain ⟨ml, hml⟩ : ∃ q, q = (numB cb.length).length := ⟨_, rfl⟩
      have lml : ml ≤ 9 := by rw [hml]; exact numB_le (by omega)
      have HRI := Lib.hid (fun w => rnum_any ix w (by omega)); have HRE := Lib.hid (fun w => rnum_any ex w (by omega)); have HRL := Lib.hid (fun w => rnum_any cb.length w (by omega))
      rw [← hmi] at HRI; rw [← hme] at HRE; rw [← hml] at HRL
      obtain ⟨cl, hcl'⟩ : ∃ q, q = cb.length := ⟨_, rfl⟩
      rw [← hcl'] at HRC2 HRL hcl
      have HCL := Lib.hid hcl'
      have qc := conv_u64' (n := cl) (by omega)
      have HQC := Lib.hid qc
      clear hmi hme hml hp hx hc hok hkey hpa habs hpart hright r1 r2 r3 hix1 hix2 hex1 hex2 hcok hpl hcb htx hcv hpv htb hbl HRC hcl' qc
      have hmb : m ≤ 268809 := by omega
      have HMT := Lib.hid (show ∀ j u, cv[j]? = some u → w_.cell? ⟨b, off + k * 171 + 33 + j, none⟩ = some u from fun j u hu => by have h1 := HMC.out w_ HG.out (33 + j) u (HEC.out j u hu); rw [← Nat.add_assoc] at h1; exact h1)
      go_wp2_with (first | (with_reducible refine wpl_loadm (o := ⟨some 21, _, _, _, _, _⟩) rfl rfl row_cert HMT.out rfl LCV.out ?_))
      clear HMT
      go_wp2_with fail
      refine (HRC2.out _ HG.out).mono ?_
      rintro e w2_ ⟨A5, c5, rfl, ho_, hc_, hb_⟩
      have HAP := Lib.hid (apart_new HW.out ho_)
      obtain ⟨Z5, hZ5⟩ : ∃ q, q = w_.heap.size := ⟨_, rfl⟩
      rw [← hZ5] at ho_
      have HSC := Lib.hid ho_
      clear ho_ hc_ hZ5
      replace HG := Lib.hid (HG.out.grow' hb_)
      replace HW := Lib.hid (HW.out.grow hb_)
      clear hb_
      try clear w_
      rename World => w_
      have c1 : w_.cell? ⟨b, off + k * 171, none⟩ = some (.int .i64 (ix : Int)) := by have h1 := HMC.out w_ HG.out _ _ HE0.out; exact h1
      have q1 := conv_u64' (n := ix) (by omega)
      go_wp2_with fail
      refine (HRI.out _).mono ?_
      rintro e w2_ ⟨A7, c7, rfl, ho_, hc_, hb_⟩
      have HSL := Lib.hid (Sl.of_own ho_)
      clear ho_ hc_
      replace HG := Lib.hid (HG.out.grow' hb_)
      replace HW := Lib.hid (HW.out.grow hb_)
      replace HSC := Lib.hid (HSC.out.grow hb_)
      clear hb_
      try clear w_
      rename World => w_
      clear c1 q1
      have HZB := Lib.hid (show Z ≤ w_.heap.size by rw [HZ.out]; exact HG.out.size)
      have HALL := Lib.hid (all_bytes (numB ix))
      go_wp2_with (at_builtin; refine wpl_apps rfl rfl el_u8 HW.out rfl HSL.out rfl HALL.out (by omega) (by omega) HZB.out ?_)
      intro A8 c8 w3_ ho_ hg_ hA_
      have hst := accR HG.out HZ.out HW.out ho_ hg_
      have HAP_ := Lib.hid (apart_app HAP.out HSC.out (app_new0 hA_))
      replace HSC := Lib.hid (show OwnAt w3_ Z5 A5 cl c5 (cb.map B) from own_apart HSC.out hg_ HAP.out)
      clear HAP
      have HAP := Lib.hid HAP_.out
      clear HAP_
      obtain ⟨m1, hm1⟩ : ∃ q, q = m + mi := ⟨_, rfl⟩
      obtain ⟨a1, ha1⟩ : ∃ q, q = acc ++ numB ix := ⟨_, rfl⟩
      have hb1 : m1 ≤ m + 9 := by omega
      rw [← hm1, ← ha1] at hst
      rw [← hm1]
      have HK1 := Lib.hid ha1
      clear ho_ hg_ hA_ HW HG HSL HZB HALL
      have HW := Lib.hid hst.1; have HG := Lib.hid hst.2
      clear hst hm1 ha1
      try clear w_
      rename World => w_
      have HMT := Lib.hid (show ∀ j u, tb[j]? = some u → w_.cell? ⟨b, off + k * 171 + 1 + j, none⟩ = some u from fun j u hu => by have h1 := HMC.out w_ HG.out (1 + j) u (HET.out j u hu); rw [← Nat.add_assoc] at h1; exact h1)
      go_wp2_with (first | (with_reducible refine wpl_loadm (o := ⟨some 37, _, _, _, _, _⟩) rfl rfl row_id HMT.out rfl HDT.out.len ?_))
      clear HMT
      go_wp2_with fail
      refine (tbytes_any HDT.out _).mono ?_
      rintro e w2_ ⟨A7, c7, rfl, ho_, hc_, hb_⟩
      have HSL := Lib.hid (ho_)
      clear ho_ hc_
      replace HG := Lib.hid (HG.out.grow' hb_)
      replace HW := Lib.hid (HW.out.grow hb_)
      replace HSC := Lib.hid (HSC.out.grow hb_)
      clear hb_
      try clear w_
      rename World => w_
      have HZB := Lib.hid (show Z ≤ w_.heap.size by rw [HZ.out]; exact HG.out.size)
      have HALL := Lib.hid (all_bytes (tx))
      go_wp2_with (at_builtin; refine wpl_apps rfl rfl el_u8 HW.out rfl HSL.out rfl HALL.out (by omega) (by omega) HZB.out ?_)
      intro A8 c8 w3_ ho_ hg_ hA_
      have hst := accR HG.out HZ.out HW.out ho_ hg_
      have HAP_ := Lib.hid (apart_app HAP.out HSC.out (app_new0 hA_))
      replace HSC := Lib.hid (show OwnAt w3_ Z5 A5 cl c5 (cb.map B) from own_apart HSC.out hg_ HAP.out)
      clear HAP
      have HAP := Lib.hid HAP_.out
      clear HAP_
      obtain ⟨m2, hm2⟩ : ∃ q, q = m1 + 32 := ⟨_, rfl⟩
      obtain ⟨a2, ha2⟩ : ∃ q, q = a1 ++ tx := ⟨_, rfl⟩
      have hb2 : m2 ≤ m + 41 := by omega
      rw [← hm2, ← ha2] at hst
      rw [← hm2]
      have HK2 := Lib.hid ha2
      clear ho_ hg_ hA_ HW HG HSL HZB HALL
      have HW := Lib.hid hst.1; have HG := Lib.hid hst.2
      clear hst hm2 ha2
      try clear w_
      rename World => w_
      have c1 := HMC.out w_ HG.out _ _ HE170.out
      have q1 := conv_u64' (n := ex) (by omega)
      go_wp2_with fail
      refine (HRE.out _).mono ?_
      rintro e w2_ ⟨A7, c7, rfl, ho_, hc_, hb_⟩
      have HSL := Lib.hid (Sl.of_own ho_)
      clear ho_ hc_
      replace HG := Lib.hid (HG.out.grow' hb_)
      replace HW := Lib.hid (HW.out.grow hb_)
      replace HSC := Lib.hid (HSC.out.grow hb_)
      clear hb_
      try clear w_
      rename World => w_
      clear c1 q1
      have HZB := Lib.hid (show Z ≤ w_.heap.size by rw [HZ.out]; exact HG.out.size)
      have HALL := Lib.hid (all_bytes (numB ex))
      go_wp2_with (at_builtin; refine wpl_apps rfl rfl el_u8 HW.out rfl HSL.out rfl HALL.out (by omega) (by omega) HZB.out ?_)
      intro A8 c8 w3_ ho_ hg_ hA_
      have hst := accR HG.out HZ.out HW.out ho_ hg_
      have HAP_ := Lib.hid (apart_app HAP.out HSC.out (app_new0 hA_))
      replace HSC := Lib.hid (show OwnAt w3_ Z5 A5 cl c5 (cb.map B) from own_apart HSC.out hg_ HAP.out)
      clear HAP
      have HAP := Lib.hid HAP_.out
      clear HAP_
      obtain ⟨m3, hm3⟩ : ∃ q, q = m2 + me := ⟨_, rfl⟩
      obtain ⟨a3, ha3⟩ : ∃ q, q = a2 ++ numB ex := ⟨_, rfl⟩
      have hb3 : m3 ≤ m + 50 := by omega
      rw [← hm3, ← ha3] at hst
      rw [← hm3]
      have HK3 := Lib.hid ha3
      clear ho_ hg_ hA_ HW HG HSL HZB HALL
      have HW := Lib.hid hst.1; have HG := Lib.hid hst.2
      clear hst hm3 ha3
      try clear w_
      rename World => w_
      have q1 := HQC.out
      go_wp2_with fail
      refine (HRL.out _).mono ?_
      rintro e w2_ ⟨A7, c7, rfl, ho_, hc_, hb_⟩
      have HSL := Lib.hid (Sl.of_own ho_)
      clear ho_ hc_
      replace HG := Lib.hid (HG.out.grow' hb_)
      replace HW := Lib.hid (HW.out.grow hb_)
      replace HSC := Lib.hid (HSC.out.grow hb_)
      clear hb_
      try clear w_
      rename World => w_
      clear q1
      have HZB := Lib.hid (show Z ≤ w_.heap.size by rw [HZ.out]; exact HG.out.size)
      have HALL := Lib.hid (all_bytes (numB cl))
      go_wp2_with (at_builtin; refine wpl_apps rfl rfl el_u8 HW.out rfl HSL.out rfl HALL.out (by omega) (by omega) HZB.out ?_)
      intro A8 c8 w3_ ho_ hg_ hA_
      have hst := accR HG.out HZ.out HW.out ho_ hg_
      have HAP_ := Lib.hid (apart_app HAP.out HSC.out (app_new0 hA_))
      replace HSC := Lib.hid (show OwnAt w3_ Z5 A5 cl c5 (cb.map B) from own_apart HSC.out hg_ HAP.out)
      clear HAP
      have HAP := Lib.hid HAP_.out
      clear HAP_
      obtain ⟨m4, hm4⟩ : ∃ q, q = m3 + ml := ⟨_, rfl⟩
      obtain ⟨a4, ha4⟩ : ∃ q, q = a3 ++ numB cl := ⟨_, rfl⟩
      have hb4 : m4 ≤ m + 59 := by omega
      rw [← hm4, ← ha4] at hst
      rw [← hm4]
      have HK4 := Lib.hid ha4
      clear ho_ hg_ hA_ HW HG HSL HZB HALL
      have HW := Lib.hid hst.1; have HG := Lib.hid hst.2
      clear hst hm4 ha4
      try clear w_
      rename World => w_
      have HSL := Lib.hid (Sl.of_own HSC.out)
      have HZB := Lib.hid (show Z ≤ w_.heap.size by rw [HZ.out]; exact HG.out.size)
      have HALL := Lib.hid (all_bytes (cb))
      go_wp2_with (at_builtin; refine wpl_apps rfl rfl el_u8 HW.out rfl HSL.out rfl HALL.out (by omega) (by omega) HZB.out ?_)
      intro A8 c8 w3_ ho_ hg_ hA_
      have hst := accR HG.out HZ.out HW.out ho_ hg_
      clear HAP HSC
      obtain ⟨m5, hm5⟩ : ∃ q, q = m4 + cl := ⟨_, rfl⟩
      obtain ⟨a5, ha5⟩ : ∃ q, q = a4 ++ cb := ⟨_, rfl⟩
      have hb5 : m5 ≤ m + 2059 := by omega
      rw [← hm5, ← ha5] at hst
      rw [← hm5]
      have HK5 := Lib.hid ha5
      clear ho_ hg_ hA_ HW HG HSL HZB HALL
      have HW := Lib.hid hst.1; have HG := Lib.hid hst.2
      clear hst hm5 ha5
      try clear w_
      rename World => w_
      have q1 : IntKind.i64.wrap ((k : Int) + 1) = (k : Int) + 1 := IntWalk.i64_in _ (by omega)
      have HAC5 := Lib.hid (show a5 = numB n ++ (X.take (k + 1)).flatMap putMk by rw [HK5.out, HK4.out, HK3.out, HK2.out, HK1.out, HAC.out, HSN.out, HPI.out, HCL.out]; simp only [List.append_assoc])
      go_wp2_with fail
      go_roundw
      all_goals clear q1
      case rel => exact ⟨k + 1, A8, m5, c8, a5, by omega, by go_num, rfl, by omega, Lib.hid ⟨HW.out, HAC5.out, HG.out⟩⟩
      case measure => simp [intOf]; omega
    · obtain rfl : k = n := by omega
      have HOUT := Lib.hid (show acc = out by rw [HAC.out, HPT.out, List.take_of_length_le (by rw [HXN.out]; exact Nat.le_refl _)])
      have HLN := Lib.hid (show m = out.length by rw [← HOUT.out]; have := HW.out.1; simpa using this.symm)
      go_wp2_with fail
      go_ret
      have hw := HW.out
      rw [HOUT.out] at hw
      rw [HLN.out] at hw hm ⊢
      exact ⟨A3, c3, rfl, Sl.of_own hw, own_cap1 hw, by omega, HG.out⟩
end Go.Proofs.Ytofhohofaedokaa

/- The document's marks in plain words, and what the program's map has to do with them. -/
namespace Go.Proofs.Ytofhohofaedokaa
open Go.RowKit Go.Maps Go.Sort Go.Shelf
set_option linter.unusedVariables false
abbrev XMk := List (MKey × AMk)
/-- One mark in memory and what it is. -/
def absR (w : World) (e : MKey × Mrk) (x : MKey × AMk) : Prop := e.1 = x.1 ∧ ∃ ds, PathAt w e.2 ds ∧ x.2 = absM e.2 ds
theorem PR.nil (w : World) : PR w [] [] := ⟨rfl, fun k e x h => by simp at h⟩
theorem PR.cons {w : World} {e : MKey × Mrk} {x : MKey × AMk} {l : MarksL} {X : XMk} (h : absR w e x) (hr : PR w l X) : PR w (e :: l) (x :: X) := by
  refine ⟨by simp [hr.1], fun k => ?_⟩
  cases k with
  | zero => intro e' x' h1 h2; simp at h1 h2; subst h1; subst h2; exact h
  | succ k => intro e' x' h1 h2; exact hr.2 k e' x' (by simpa using h1) (by simpa using h2)
theorem PR.inv {w : World} {e : MKey × Mrk} {l : MarksL} {X : XMk} (h : PR w (e :: l) X) : ∃ x X', X = x :: X' ∧ absR w e x ∧ PR w l X' := by
  cases X with
  | nil => have := h.1; simp at this
  | cons x X' => exact ⟨x, X', rfl, h.2 0 e x rfl rfl, ⟨by have := h.1; simpa using this, fun k e' x' h1 h2 => h.2 (k + 1) e' x' (by simpa using h1) (by simpa using h2)⟩⟩
theorem PR.nil_inv {w : World} {X : XMk} (h : PR w [] X) : X = [] := List.eq_nil_of_length_eq_zero (by simpa using h.1)
theorem PR.mono {w w' : World} : ∀ {l : MarksL} {X : XMk}, PR w l X → (∀ e ∈ l, ∀ ds, PathAt w e.2 ds → PathAt w' e.2 ds) → PR w' l X
  | [], X, h, _ => by rw [h.nil_inv]; exact PR.nil _
  | e :: l, X, h, f => by
    obtain ⟨x, X', rfl, ⟨h1, ds, h2, h3⟩, h4⟩ := h.inv
    exact PR.cons ⟨h1, ds, f e (List.mem_cons_self ..) ds h2, h3⟩ (PR.mono h4 fun e' he' => f e' (List.mem_cons_of_mem _ he'))
theorem PR.snoc {w : World} {e : MKey × Mrk} {x : MKey × AMk} : ∀ {l : MarksL} {X : XMk}, PR w l X → absR w e x → PR w (l ++ [e]) (X ++ [x])
  | [], X, h, hx => by rw [h.nil_inv]; exact PR.cons hx (PR.nil _)
  | a :: l, X, h, hx => by obtain ⟨y, X', rfl, h1, h2⟩ := h.inv; exact PR.cons h1 (PR.snoc h2 hx)
def insX (x : MKey × AMk) : XMk → XMk
  | [] => [x]
  | e :: l => if cmpK2 x.1 e.1 < 0 then x :: e :: l else e :: insX x l
theorem PR.ins {w : World} {e : MKey × Mrk} {x : MKey × AMk} (hx : absR w e x) : ∀ {l : MarksL} {X : XMk}, PR w l X → PR w (insM e l) (insX x X)
  | [], X, h => by rw [h.nil_inv]; exact PR.cons hx (PR.nil _)
  | a :: l, X, h => by
    obtain ⟨y, X', rfl, h1, h2⟩ := h.inv
    unfold insM insX
    rw [hx.1, h1.1]
    by_cases hc : cmpK2 x.1 y.1 < 0
    · rw [if_pos hc, if_pos hc]; exact PR.cons hx (PR.cons h1 h2)
    · rw [if_neg hc, if_neg hc]; exact PR.cons h1 (PR.ins hx h2)
def keptX (ep : Int) (X : XMk) : XMk := X.filter fun x => !oldB x.2.2 ep
theorem PR.kept {w : World} (ep : Int) : ∀ {l : MarksL} {X : XMk}, PR w l X → PR w (keptM ep l) (keptX ep X)
  | [], X, h => by rw [h.nil_inv]; exact PR.nil _
  | a :: l, X, h => by
    obtain ⟨y, X', rfl, h1, h2⟩ := h.inv
    have ih := PR.kept ep h2
    obtain ⟨h3, ds, h4, h5⟩ := h1
    have he : y.2.2 = a.2.expiry := by rw [h5]; rfl
    unfold keptM keptX at *
    by_cases hc : oldB a.2.expiry ep = true
    · rw [List.filter_cons_of_neg (by unfold isOldM; simp [hc]), List.filter_cons_of_neg (by simp [he, hc])]; exact ih
    · rw [List.filter_cons_of_pos (by unfold isOldM; simp [hc]), List.filter_cons_of_pos (by simp [he, hc])]; exact PR.cons ⟨h3, ds, h4, h5⟩ ih
def lookX (X : XMk) (p : MKey) : Option AMk := (X.find? (fun x => x.1 == p)).map (·.2)
theorem PR.look {w : World} (p : MKey) : ∀ {l : MarksL} {X : XMk}, PR w l X → (lookM l p = none ∧ lookX X p = none) ∨ ∃ m ds, lookM l p = some m ∧ PathAt w m ds ∧ lookX X p = some (absM m ds)
  | [], X, h => by rw [h.nil_inv]; exact .inl ⟨rfl, rfl⟩
  | a :: l, X, h => by
    obtain ⟨y, X', rfl, ⟨h1, ds, h2, h3⟩, h4⟩ := h.inv
    by_cases hc : y.1 = p
    · refine .inr ⟨a.2, ds, ?_, h2, ?_⟩
      · unfold lookM; rw [List.find?_cons_of_pos (by simp [h1, hc])]; rfl
      · unfold lookX; rw [List.find?_cons_of_pos (by simp [hc])]; simp [h3]
    · have e1 : lookM (a :: l) p = lookM l p := by unfold lookM; rw [List.find?_cons_of_neg (by simp [h1, hc])]
      have e2 : lookX (y :: X') p = lookX X' p := by unfold lookX; rw [List.find?_cons_of_neg (by simp [hc])]
      rw [e1, e2]
      exact PR.look p h4
theorem lookX_eq {X : XMk} (hd : (X.map (·.1)).Nodup) {e : MKey × AMk} (he : e ∈ X) : lookX X e.1 = some e.2 := by
  induction X with
  | nil => cases he
  | cons y X ih =>
    rw [List.map_cons, List.nodup_cons] at hd
    rcases List.mem_cons.1 he with rfl | he
    · unfold lookX; rw [List.find?_cons_of_pos (by simp)]; rfl
    · have hne : y.1 ≠ e.1 := fun h => hd.1 (by rw [h]; exact List.mem_map_of_mem he)
      have := ih hd.2 he
      unfold lookX at this ⊢
      rw [List.find?_cons_of_neg (by simpa using hne)]
      exact this
theorem lookX_not {X : XMk} {p : MKey} (h : ∀ e ∈ X, e.1 ≠ p) : lookX X p = none := by
  unfold lookX
  rw [List.find?_eq_none.2 (fun x hx => by simpa using h x hx)]; rfl
theorem lookX_perm {X Y : XMk} (h : X.Perm Y) (hd : (Y.map (·.1)).Nodup) (p : MKey) : lookX X p = lookX Y p := by
  have hdX : (X.map (·.1)).Nodup := (h.map (·.1)).nodup_iff.2 hd
  by_cases hp : ∃ e ∈ Y, e.1 = p
  · obtain ⟨e, he, rfl⟩ := hp
    rw [lookX_eq hd he, lookX_eq hdX (h.mem_iff.2 he)]
  · rw [lookX_not (fun x hx hxp => hp ⟨x, hx, hxp⟩), lookX_not (fun x hx hxp => hp ⟨x, h.mem_iff.1 hx, hxp⟩)]
theorem insX_perm (x : MKey × AMk) : ∀ X : XMk, (insX x X).Perm (x :: X)
  | [] => .refl _
  | e :: r => by
    unfold insX
    by_cases h : cmpK2 x.1 e.1 < 0
    · rw [if_pos h]
    · rw [if_neg h]; exact ((insX_perm x r).cons e).trans (List.Perm.swap _ _ _)
def SortX (X : XMk) : Prop := X.Pairwise (fun a b => cmpK2 a.1 b.1 < 0)
theorem cmpK2_lt_trans {p q r : MKey} (h1 : cmpK2 p q < 0) (h2 : cmpK2 q r < 0) : cmpK2 p r < 0 := by
  have a1 := cmpK2_trans p q r (by omega) (by omega)
  have a2 := cmpK2_zero p r
  by_cases h : cmpK2 p r = 0
  · obtain rfl := a2.1 h
    have := cmpK2_neg p q
    omega
  · omega
theorem insX_sort {x : MKey × AMk} : ∀ {X : XMk}, SortX X → (∀ e ∈ X, e.1 ≠ x.1) → SortX (insX x X)
  | [], _, _ => by unfold SortX insX; simp
  | e :: r, h, hn => by
    unfold SortX at h
    rw [List.pairwise_cons] at h
    unfold insX
    by_cases hp : cmpK2 x.1 e.1 < 0
    · rw [if_pos hp]
      unfold SortX
      rw [List.pairwise_cons, List.pairwise_cons]
      refine ⟨fun y hy => ?_, h⟩
      rcases List.mem_cons.1 hy with rfl | hy
      · exact hp
      · exact cmpK2_lt_trans hp (h.1 y hy)
    · rw [if_neg hp]
      unfold SortX
      rw [List.pairwise_cons]
      refine ⟨fun y hy => ?_, insX_sort h.2 (fun y hy => hn y (List.mem_cons_of_mem _ hy))⟩
      rcases List.mem_cons.1 ((insX_perm x r).mem_iff.1 hy) with rfl | hy
      · have h1 := cmpK2_neg y.1 e.1
        have h2 := cmpK2_zero y.1 e.1
        have h3 : cmpK2 y.1 e.1 ≠ 0 := fun h0 => hn e (List.mem_cons_self ..) (h2.1 h0).symm
        omega
      · exact h.1 y hy
theorem sortX_nodup {X : XMk} (h : SortX X) : (X.map (·.1)).Nodup := by
  unfold List.Nodup
  rw [List.pairwise_map]
  exact h.imp fun {a b} hab he => by have := (cmpK2_zero a.1 b.1).2 he; omega
/-- A mark that Put lets in. -/
def InOKX (x : MKey × AMk) : Prop := (x.1.1 = 0 ∨ x.1.1 = 1) ∧ (rightE x.2.1.e && rightH x.2.1.h && decide (x.2.1.path.length ≤ 32) && inB x.2.2 0 1099511627776) = true
theorem absR.ok {w : World} {e : MKey × Mrk} {x : MKey × AMk} (h : absR w e x) : InOKM e ↔ InOKX x := by
  obtain ⟨h1, ds, h2, h3⟩ := h
  unfold InOKM InOKX rightM
  rw [h1, h3]
  show _ ↔ _ ∧ (rightE e.2.e && rightH e.2.h && decide (ds.length ≤ 32) && inB e.2.expiry 0 1099511627776) = true
  rw [show ds.length = e.2.pn from h2.2.1]
theorem PR.okM {w : World} : ∀ {l : MarksL} {X : XMk}, PR w l X → (∀ x ∈ X, InOKX x) → ∀ e ∈ l, InOKM e
  | [], _, _, _ => fun e he => by cases he
  | a :: l, X, h, hx => by
    obtain ⟨y, X', rfl, h1, h2⟩ := h.inv
    intro e he
    rcases List.mem_cons.1 he with rfl | he
    · exact h1.ok.2 (hx y (List.mem_cons_self ..))
    · exact PR.okM h2 (fun x hx' => hx x (List.mem_cons_of_mem _ hx')) e he
theorem PR.keys {w : World} : ∀ {l : MarksL} {X : XMk}, PR w l X → l.map (·.1) = X.map (·.1)
  | [], X, h => by rw [h.nil_inv]; rfl
  | a :: l, X, h => by
    obtain ⟨y, X', rfl, h1, h2⟩ := h.inv
    rw [List.map_cons, List.map_cons, h1.1, PR.keys h2]
/-- The program's marks L and the document's l, both by what they are. -/
structure RelM (w : World) (L l : MarksL) (XL X : XMk) : Prop where
  pl : PR w L XL
  px : PR w l X
  perm : X.Perm XL
  sort : SortX X
  len : X.length ≤ 128
  ok : ∀ x ∈ X, InOKX x
theorem RelM.nil (w : World) : RelM w [] [] [] [] := ⟨PR.nil w, PR.nil w, .refl _, List.Pairwise.nil, by simp, by simp⟩
theorem RelM.ndL {w : World} {L l : MarksL} {XL X : XMk} (h : RelM w L l XL X) : (XL.map (·.1)).Nodup := (h.perm.map (·.1)).nodup_iff.1 (sortX_nodup h.sort)
theorem RelM.lens {w : World} {L l : MarksL} {XL X : XMk} (h : RelM w L l XL X) : L.length = l.length ∧ l.length = X.length ∧ l.length ≤ 128 := by
  have h1 := h.pl.1; have h2 := h.px.1; have h3 := h.perm.length_eq; have h4 := h.len
  omega
theorem path_none (w : World) : PathAt w noMrk [] := ⟨⟨rfl, fun h => absurd h (by simp [noMrk])⟩, rfl, by simp, Nat.le_refl _⟩
/-- What Get finds on both sides is the same. -/
theorem RelM.get {w : World} {L l : MarksL} {XL X : XMk} (h : RelM w L l XL X) (p : MKey) : (lookM L p).isSome = (lookM l p).isSome ∧
    ∃ d1 d2, PathAt w ((lookM L p).getD noMrk) d1 ∧ PathAt w ((lookM l p).getD noMrk) d2 ∧ absM ((lookM L p).getD noMrk) d1 = absM ((lookM l p).getD noMrk) d2 := by
  have e := lookX_perm h.perm h.ndL p
  rcases h.pl.look p with ⟨a1, a2⟩ | ⟨m, ds, a1, a2, a3⟩ <;> rcases h.px.look p with ⟨b1, b2⟩ | ⟨m', ds', b1, b2, b3⟩
  · rw [a1, b1]; exact ⟨rfl, [], [], path_none w, path_none w, rfl⟩
  · rw [a2, b3] at e; cases e
  · rw [a3, b2] at e; cases e
  · rw [a3, b3] at e
    injection e with e
    rw [a1, b1]
    exact ⟨rfl, ds, ds', a2, b2, e.symm⟩
theorem RelM.code {w : World} {L l : MarksL} {XL X : XMk} (h : RelM w L l XL X) (p : MKey) (m : Mrk) : putM L p m = putM l p m := by
  unfold putM
  rw [(h.get p).1, h.lens.1]
theorem RelM.mono {w w' : World} {L l : MarksL} {XL X : XMk} (h : RelM w L l XL X) (f : ∀ m ds, PathAt w m ds → PathAt w' m ds) : RelM w' L l XL X :=
  ⟨h.pl.mono fun e _ ds => f e.2 ds, h.px.mono fun e _ ds => f e.2 ds, h.perm, h.sort, h.len, h.ok⟩
theorem RelM.put {w : World} {L l : MarksL} {XL X : XMk} (h : RelM w L l XL X) {p : MKey} {m : Mrk} {A : Option Addr} {c : Nat} {ds : List (List UInt8)} (h1 : PathAt w m ds) (h2 : PathAt w (m.at A c) ds) (h0 : putM L p m = 0) :
    RelM w (L ++ [(p, m.at A c)]) (insM (p, m) l) (XL ++ [(p, absM m ds)]) (insX (p, absM m ds) X) := by
  unfold putM at h0
  split at h0
  · omega
  · rename_i hpt
    split at h0
    · omega
    · rename_i hr
      split at h0
      · omega
      · rename_i hl
        split at h0
        · omega
        · rename_i h128
          have hno : ∀ e ∈ X, e.1 ≠ p := fun e he hep => by
            have hk : e.1 ∈ L.map (·.1) := by rw [h.pl.keys]; exact List.mem_map_of_mem (h.perm.mem_iff.1 he)
            obtain ⟨e', he', hee⟩ := List.mem_map.1 hk
            exact lookM_none (by simpa using hl) e' he' (hee.trans hep)
          have hx : absR w (p, m) (p, absM m ds) := ⟨rfl, ds, h1, rfl⟩
          have hp := (insX_perm (p, absM m ds) X).trans ((h.perm.cons (p, absM m ds)).trans (List.perm_append_comm (l₁ := [(p, absM m ds)]) (l₂ := XL)))
          refine ⟨h.pl.snoc ⟨rfl, ds, h2, rfl⟩, h.px.ins hx, hp, insX_sort h.sort hno, ?_, fun x hx' => ?_⟩
          · rw [(insX_perm _ X).length_eq, List.length_cons]; have := h.lens; omega
          · rcases List.mem_cons.1 ((insX_perm _ X).mem_iff.1 hx') with rfl | hx'
            · exact hx.ok.1 ⟨by show p.1 = 0 ∨ p.1 = 1; omega, by simpa using hr⟩
            · exact h.ok x hx'
theorem RelM.kept {w : World} {L l : MarksL} {XL X : XMk} (h : RelM w L l XL X) (ep : Int) : RelM w (keptM ep L) (keptM ep l) (keptX ep XL) (keptX ep X) :=
  ⟨h.pl.kept ep, h.px.kept ep, h.perm.filter _, List.Pairwise.filter _ h.sort, Nat.le_trans (List.length_filter_le _ _) h.len, fun x hx => h.ok x (List.mem_filter.1 hx).1⟩
theorem RelM.all {w : World} {L l : MarksL} {XL X : XMk} (h : RelM w L l XL X) {ks ss : List KeyS} (hp : (ks.map (·.1)).Perm (L.map (·.1))) (hs : ks = sortK ss) : ks.map (·.1) = X.map (·.1) := by
  have tr : ∀ x y z : KeyS, (!(ltOf cfKey) y x) = true → (!(ltOf cfKey) z y) = true → (!(ltOf cfKey) z x) = true := fun x y z h1 h2 => by
    simp only [Bool.not_eq_true'] at *
    exact swo_key.ntrans z y x h2 h1
  have tto : ∀ x y : KeyS, ((!(ltOf cfKey) y x) || (!(ltOf cfKey) x y)) = true := fun x y => by
    by_cases hc : ltOf cfKey y x = true
    · have : ltOf cfKey x y = false := by
        cases hh : ltOf cfKey x y with
        | false => rfl
        | true => have := swo_key.trans y x y hc hh; rw [swo_key.irrefl] at this; cases this
      simp [hc, this]
    · simp [Bool.not_eq_true _ ▸ hc]
  have hk : (ks.map (·.1)).Pairwise (fun a b => cmpK2 a b ≤ 0) := by
    rw [List.pairwise_map, hs]
    refine (List.pairwise_mergeSort tr tto ss).imp fun {a b} hab => ?_
    simp only [Bool.not_eq_true'] at hab
    rw [nlt_key] at hab
    exact hab
  have hX : (X.map (·.1)).Pairwise (fun a b => cmpK2 a b ≤ 0) := by
    rw [List.pairwise_map]
    exact h.sort.imp fun {a b} hab => by omega
  refine List.Perm.eq_of_pairwise (le := fun a b => cmpK2 a b ≤ 0) (fun a b _ _ h1 h2 => ?_) hk hX (hp.trans (by rw [h.pl.keys]; exact (h.perm.map _).symm))
  have h3 := cmpK2_neg a b
  exact (cmpK2_zero a b).1 (by omega)
end Go.Proofs.Ytofhohofaedokaa

/- Which blocks a pen leaves alone: those below it, and two ranges of later ones. No program in sight. -/
namespace Go.Proofs.Ytofhohofaedokaa
open Go.RowKit
def KR (gp z1 z2 : Nat) : Nat → Prop := fun j => j < gp ∨ (z1 ≤ j ∧ j < z2)
def KS (gp z1 z2 z3 z4 : Nat) : Nat → Prop := fun j => KR gp z1 z2 j ∨ (z3 ≤ j ∧ j < z4)
/-- Memory has grown since w0. -/
def Gw (w0 w : World) : Prop := Grow w0 w
theorem Gw.grow {w0 w w' : World} (h : Gw w0 w) (k : Grow w w') : Gw w0 w' := below_chain h k
theorem Gw.refl (w : World) : Gw w w := Below.refl _ _
end Go.Proofs.Ytofhohofaedokaa

/- The contract of the document's Put of a certificate; its row is its own. Turned out of XCertI. -/
import Derived.Test.YtobmldegjajocaaCommandFormsT35
import Derived.Deep.CutBlock
set_option linter.unusedSimpArgs false
/- The contract of the document's Put of a certificate; its row is its own. Turned out of XCertI. -/
namespace Go.Proofs.Ytobmldegjajocaa
open Go.RowKit Go.Shelf
set_option linter.unusedVariables false
set_option maxRecDepth 100000 in
set_option maxHeartbeats 4000000 in
theorem rcputo_any {A2 : Option Addr} {n2 c2 : Nat} {x : Cer} (w : World) (hx : x.ok) (hn : n2 ≤ 1000) (hi : Ids w A2 n2 c2 x.path) :
    Calls Try.prog 35 #[.agg (certV (.slice A2 n2 c2) x).toArray] w fun e w' => ∃ A' c', e = .returned (.slice A' (putCB x).length c') ∧ OwnAt w' w.heap.size A' (putCB x).length c' ((putCB x).map B) ∧ (putCB x).length ≤ c' ∧ Below w.heap.size w w' := by
  have HI := Lib.hid hi
  have HB := Lib.hid (Below.refl w.heap.size w)
  have HE := Lib.hid (fun w => reright_any x.e w hx.1); have HH := Lib.hid (fun w => rhright_any x.h w hx.2.2.1)
  have HPE := Lib.hid (fun w h => reput_any x.e w hx.1 h); have HPH := Lib.hid (fun w h => rhput_any x.h w hx.2.2.1 h)
  have LEB := Lib.hid (eformB_le hx.1); have LHB := Lib.hid (hformB_le hx.2.2.1)
  have HD := Lib.hid (cert_cl (v := .slice A2 n2 c2) rfl hx)
  have LE := Lib.hid (entV_length hx.1); have LH := Lib.hid (hdrV_length hx.2.2.1)
  have DT := Lib.hid (dig_map hx.2.2.2)
  have IA := Lib.hid (cert_ats (v := .slice A2 n2 c2) hx)
  have ME := Lib.hid (fun w g t hb => midCE (c := x) (v := .slice A2 n2 c2) (w := w) (g := g) (t := t) hb)
  have MH := Lib.hid (fun w g t hb => midCH (c := x) (v := .slice A2 n2 c2) (w := w) (g := g) (t := t) hx hb)
  have MT := Lib.hid (fun w g t hb => midCT (c := x) (v := .slice A2 n2 c2) (w := w) (g := g) (t := t) hx hb)
  have HNL := Lib.hid hi.2.1
  have HFL := Lib.hid (show ∀ k, k ≤ n2 → ((x.path.take k).flatten).length = k * 32 from fun k hk => by
    have h := flat_32 (x.path.take k) (fun d hd => hx.2.1 d (List.mem_of_mem_take hd))
    rw [h, List.length_take, hi.2.1, Nat.min_eq_left hk])
  obtain ⟨re, hre⟩ : ∃ v, v = rightE x.e := ⟨_, rfl⟩
  obtain ⟨rh, hrh⟩ : ∃ v, v = rightH x.h := ⟨_, rfl⟩
  have HF1 := Lib.hid (show re = true → eformB x.e = putEB x.e from fun h => by rw [hre] at h; unfold eformB; rw [if_pos h])
  have HF2 := Lib.hid (show re = false → eformB x.e = [] from fun h => by rw [hre] at h; unfold eformB; rw [if_neg (by simp [h])])
  have HF3 := Lib.hid (show rh = true → hformB x.h = putHB x.h from fun h => by rw [hrh] at h; unfold hformB; rw [if_pos h])
  have HF4 := Lib.hid (show rh = false → hformB x.h = [] from fun h => by rw [hrh] at h; unfold hformB; rw [if_neg (by simp [h])])
  rw [← hre] at HE HPE; rw [← hrh] at HH HPH
  obtain ⟨eb, heb⟩ : ∃ v, v = eformB x.e := ⟨_, rfl⟩
  obtain ⟨hb, hhb⟩ : ∃ v, v = hformB x.h := ⟨_, rfl⟩
  obtain ⟨ps, hps⟩ : ∃ k, k = x.path := ⟨_, rfl⟩
  obtain ⟨tg, htg⟩ : ∃ k, k = x.tag := ⟨_, rfl⟩
  have HPUT := Lib.hid (show putCB x = numB eb.length ++ eb ++ numB ps.length ++ ps.flatten ++ numB hb.length ++ hb ++ tg by rw [heb, hhb, hps, htg]; rfl)
  obtain ⟨out, hout⟩ : ∃ v, v = putCB x := ⟨_, rfl⟩
  rw [← hout] at HPUT ⊢
  rw [← heb] at LEB HF1 HF2
  rw [← hhb] at LHB HF3 HF4
  rw [← hps] at HI HNL HFL
  rw [← htg] at DT MT
  obtain ⟨ne, hne⟩ : ∃ v, v = eb.length := ⟨_, rfl⟩
  obtain ⟨nh, hnh⟩ : ∃ v, v = hb.length := ⟨_, rfl⟩
  have HNE := Lib.hid hne; have HNH := Lib.hid hnh
  rw [← hne] at LEB HPUT
  rw [← hnh] at LHB HPUT
  rw [HNL.out] at HPUT
  obtain ⟨xv, hxv⟩ : ∃ v, v = certV (.slice A2 n2 c2) x := ⟨_, rfl⟩
  obtain ⟨ev, hev⟩ : ∃ v, v = entV x.e := ⟨_, rfl⟩
  obtain ⟨hv, hhv⟩ : ∃ v, v = hdrV x.h := ⟨_, rfl⟩
  obtain ⟨tv, htv⟩ : ∃ v, v = tg.map B := ⟨_, rfl⟩
  rw [← hxv] at HD IA ME MH MT ⊢
  rw [← hev] at HE HPE LE ME
  rw [← hhv] at HH HPH LH MH
  rw [← htv] at DT MT
  have lne := LEB.out; have lnh := LHB.out
  obtain ⟨me, hme⟩ : ∃ v, v = (numB ne).length := ⟨_, rfl⟩
  obtain ⟨mh, hmh⟩ : ∃ v, v = (numB nh).length := ⟨_, rfl⟩
  obtain ⟨mn, hmn⟩ : ∃ v, v = (numB n2).length := ⟨_, rfl⟩
  have le9 : me ≤ 9 := by rw [hme]; exact numB_le (by omega)
  have lh9 : mh ≤ 9 := by rw [hmh]; exact numB_le (by omega)
  have ln9 : mn ≤ 9 := by rw [hmn]; exact numB_le (by omega)
  have HME := Lib.hid hme; have HMH := Lib.hid hmh; have HMN := Lib.hid hmn
  have HRE := Lib.hid (fun w => rnum_any ne w (by omega)); have HRH := Lib.hid (fun w => rnum_any nh w (by omega)); have HRN := Lib.hid (fun w => rnum_any n2 w (by omega))
  rw [← hme] at HRE; rw [← hmh] at HRH; rw [← hmn] at HRN
  have HA1 := Lib.hid (all_bytes eb); have HA2 := Lib.hid (all_bytes hb); have HA3 := Lib.hid (all_bytes (numB nh)); have HA4 := Lib.hid (all_bytes (numB n2)); have HA5 := Lib.hid (all_bytes tg)
  have HTG := Lib.hid DT.out
  clear hi hx hre hrh heb hhb hps htg hout hne hnh hxv hev hhv htv hme hmh hmn
  go_enter Try.func35, Try.ntmps35
  go_wp2_with (first | (with_reducible refine wpl_box (o := ⟨some 1, _, _, _, _, _⟩) rfl rfl rfl ?_))
  intro w2_ hb2_ hb_ hsz2_
  have HX_ := Lib.hid (at_mk hb2_ HD.out.len)
  clear hb2_ hsz2_
  have HB_ := Lib.hid (HB.out.grow' hb_)
  clear HB
  have HB := HB_
  clear HB_
  have HI_ := Lib.hid (HI.out.grow hb_)
  clear HI
  have HI := HI_
  clear HI_
  have HX := HX_
  clear hb_ HX_
  try clear w_
  rename World => w_
  have FME := Lib.hid (ME.out _ _ _ HX.out.blk)
  go_wp2_with (first | (with_reducible refine wpl_loadm (o := ⟨some 8, _, _, _, _, _⟩) rfl rfl row_entry FME.out rfl LE.out ?_))
  refine (HE.out _).mono ?_
  rintro e w2_ ⟨rfl, hb_⟩
  clear FME HE
  have hb_ := hb_
  clear hb_
  have HB_ := Lib.hid (HB.out.grow' hb_)
  clear HB
  have HB := HB_
  clear HB_
  have HX_ := Lib.hid (HX.out.grow hb_)
  clear HX
  have HX := HX_
  clear HX_
  have HI_ := Lib.hid (HI.out.grow hb_)
  clear HI
  have HI := HI_
  clear HI_
  clear hb_
  try clear w_
  rename World => w_
  go_upto_if 9 with fail
  go_cut [3] from 7 (fun s3 wr => ∃ A3 c3, s3 = .slice A3 ne c3 ∧ Hid (Sl wr wr.heap.size 1 A3 ne (eb.map B) ∧ At wr w.heap.size 59 137 xv ∧ Ids wr A2 n2 c2 ps ∧ Below w.heap.size w wr))
  case first =>
    cases re with
    | false =>
      have h0 := HF2.out (by first | trivial | rfl)
      have h1 := HNE.out
      rw [h0] at h1
      have HZ0 := Lib.hid (show Sl w_ w_.heap.size 1 none ne (eb.map B) by rw [h0, h1]; exact Sl.nil)
      have h1 : ne = 0 := h1
      have HN0 := Lib.hid h1
      clear h0 h1
      go_wp2_with fail
      go_meet
      case rel => exact ⟨none, 0, by rw [HN0.out], Lib.hid ⟨HZ0.out, HX.out, HI.out, HB.out⟩⟩
    | true =>
      have FME := Lib.hid (ME.out _ _ _ HX.out.blk)
      go_wp2_with (first | (with_reducible refine wpl_loadm (o := ⟨some 11, _, _, _, _, _⟩) rfl rfl row_entry FME.out rfl LE.out ?_))
      refine (HPE.out _ (by first | trivial | rfl)).mono ?_
      rintro e w2_ ⟨A3, c3, rfl, hs3, hc3, hb_⟩
      have h0 := HF1.out (by first | trivial | rfl)
      have HLE := Lib.hid (show (putEB x.e).length = ne by rw [HNE.out, h0])
      rw [HLE.out] at hs3 ⊢
      have HS3 := Lib.hid (show Sl w2_ w2_.heap.size 1 A3 ne (eb.map B) by rw [h0]; exact hs3)
      clear hs3 hc3 FME h0
      have hb_ := hb_
      clear hb_
      have HB_ := Lib.hid (HB.out.grow' hb_)
      clear HB
      have HB := HB_
      clear HB_
      have HX_ := Lib.hid (HX.out.grow hb_)
      clear HX
      have HX := HX_
      clear HX_
      have HI_ := Lib.hid (HI.out.grow hb_)
      clear HI
      have HI := HI_
      clear HI_
      clear hb_
      try clear w_
      rename World => w_
      go_wp2_with fail
      go_meet
      case rel => exact ⟨A3, c3, rfl, Lib.hid ⟨HS3.out, HX.out, HI.out, HB.out⟩⟩
  case rest =>
    obtain ⟨A3, c3, rfl, hI⟩ := hcut
    clear HX HI HB
    have HS3 := Lib.hid hI.out.1; have HX := Lib.hid hI.out.2.1; have HI := Lib.hid hI.out.2.2.1; have HB := Lib.hid hI.out.2.2.2
    clear hI
    try clear w_
    rename World => w_
    have FMH := Lib.hid (MH.out _ _ _ HX.out.blk)
    go_wp2_with (first | (with_reducible refine wpl_loadm (o := ⟨some 14, _, _, _, _, _⟩) rfl rfl row_header FMH.out rfl LH.out ?_))
    refine (HH.out _).mono ?_
    rintro e w2_ ⟨rfl, hb_⟩
    clear FMH HH
    have hb_ := hb_
    clear hb_
    have HB_ := Lib.hid (HB.out.grow' hb_)
    clear HB
    have HB := HB_
    clear HB_
    have HX_ := Lib.hid (HX.out.grow hb_)
    clear HX
    have HX := HX_
    clear HX_
    have HI_ := Lib.hid (HI.out.grow hb_)
    clear HI
    have HI := HI_
    clear HI_
    have HS3_ := Lib.hid (HS3.out.grow hb_)
    clear HS3
    have HS3 := HS3_
    clear HS3_
    clear hb_
    try clear w_
    rename World => w_
    go_upto_if 15 with fail
    go_cut [4] from 7 (fun s4 wr => ∃ A4 c4, s4 = .slice A4 nh c4 ∧ Hid (Sl wr wr.heap.size 1 A4 nh (hb.map B) ∧ Sl wr wr.heap.size 1 A3 ne (eb.map B) ∧ At wr w.heap.size 59 137 xv ∧ Ids wr A2 n2 c2 ps ∧ Below w.heap.size w wr))
    case first =>
      cases rh with
      | false =>
        have h0 := HF4.out (by first | trivial | rfl)
        have h1 := HNH.out
        rw [h0] at h1
        have HZ0 := Lib.hid (show Sl w_ w_.heap.size 1 none nh (hb.map B) by rw [h0, h1]; exact Sl.nil)
        have h1 : nh = 0 := h1
        have HN0 := Lib.hid h1
        clear h0 h1
        go_wp2_with fail
        go_meet
        case rel => exact ⟨none, 0, by rw [HN0.out], Lib.hid ⟨HZ0.out, HS3.out, HX.out, HI.out, HB.out⟩⟩
      | true =>
        have FMH := Lib.hid (MH.out _ _ _ HX.out.blk)
        go_wp2_with (first | (with_reducible refine wpl_loadm (o := ⟨some 17, _, _, _, _, _⟩) rfl rfl row_header FMH.out rfl LH.out ?_))
        refine (HPH.out _ (by first | trivial | rfl)).mono ?_
        rintro e w2_ ⟨A4, c4, rfl, hs4, hc4, hb_⟩
        have h0 := HF3.out (by first | trivial | rfl)
        have HLE := Lib.hid (show (putHB x.h).length = nh by rw [HNH.out, h0])
        rw [HLE.out] at hs4 ⊢
        have HS4 := Lib.hid (show Sl w2_ w2_.heap.size 1 A4 nh (hb.map B) by rw [h0]; exact hs4)
        clear hs4 hc4 FMH h0
        have hb_ := hb_
        clear hb_
        have HB_ := Lib.hid (HB.out.grow' hb_)
        clear HB
        have HB := HB_
        clear HB_
        have HX_ := Lib.hid (HX.out.grow hb_)
        clear HX
        have HX := HX_
        clear HX_
        have HI_ := Lib.hid (HI.out.grow hb_)
        clear HI
        have HI := HI_
        clear HI_
        have HS3_ := Lib.hid (HS3.out.grow hb_)
        clear HS3
        have HS3 := HS3_
        clear HS3_
        clear hb_
        try clear w_
        rename World => w_
        go_wp2_with fail
        go_meet
        case rel => exact ⟨A4, c4, rfl, Lib.hid ⟨HS4.out, HS3.out, HX.out, HI.out, HB.out⟩⟩
    case rest =>
      obtain ⟨A4, c4, rfl, hI⟩ := hcut
      clear HX HI HB HS3
      have HS4 := Lib.hid hI.out.1; have HS3 := Lib.hid hI.out.2.1; have HX := Lib.hid hI.out.2.2.1; have HI := Lib.hid hI.out.2.2.2.1; have HB := Lib.hid hI.out.2.2.2.2
      clear hI
      try clear w_
      rename World => w6
      obtain ⟨Z, hZ⟩ : ∃ q, q = w6.heap.size := ⟨_, rfl⟩
      have HZ := Lib.hid hZ
      clear hZ
      have q1 := conv_u64' (n := ne) (by omega)
      go_wp2_with fail
      refine (HRE.out _).mono ?_
      rintro e w_ ⟨A5, c5, rfl, ho_, hc_, hb_⟩
      have HO := Lib.hid (show OwnAt w_ Z A5 me c5 ((numB ne).map B) by rw [HZ.out]; exact ho_)
      have HG := Lib.hid (show Grow w6 w_ from hb_)
      clear ho_ hc_ hb_ q1
      have HSL := Lib.hid (HS3.out.grow HG.out)
      have HZB := Lib.hid (show Z ≤ w_.heap.size by rw [HZ.out]; exact HG.out.size)
      go_wp2_with (at_builtin; refine wpl_apps rfl rfl el_u8 HO.out rfl HSL.out rfl HA1.out (by omega) (by omega) HZB.out ?_)
      intro A6 c6 w3_ ho_ hg_ hA_
      have hst := acc_step HG.out HZ.out HO.out ho_ hg_
      obtain ⟨k1, hk1⟩ : ∃ k, k = me + ne := ⟨_, rfl⟩
      obtain ⟨a1, ha1⟩ : ∃ a, a = numB ne ++ eb := ⟨_, rfl⟩
      have hk1b : k1 ≤ 100 := by omega
      rw [← hk1, ← ha1] at hst
      rw [← hk1]
      have HK1 := Lib.hid ha1
      have HO_ := Lib.hid hst.1; have HG_ := Lib.hid hst.2
      clear ho_ hg_ hA_ hst hk1 ha1 HO HG HSL HZB
      have HO := HO_; have HG := HG_
      clear HO_ HG_
      try clear w_
      rename World => w_
      have c37 := (HX.out.grow HG.out).blk.at_ IA.out.2.2.2.1
      have q1 := conv_u64' (n := n2) (by omega)
      go_wp2_with fail
      refine (HRN.out _).mono ?_
      rintro e w2_ ⟨A7, c7, rfl, ho_, hc_, hb_⟩
      have HSL := Lib.hid (Sl.of_own ho_)
      have HO_ := Lib.hid (show OwnAt w2_ Z A6 k1 c6 (a1.map B) from HO.out.grow hb_)
      have HG_ := Lib.hid (HG.out.grow' hb_)
      clear ho_ hc_ hb_ q1 c37 HO HG
      have HO := HO_; have HG := HG_
      clear HO_ HG_
      try clear w_
      rename World => w_
      have HZB := Lib.hid (show Z ≤ w_.heap.size by rw [HZ.out]; exact HG.out.size)
      go_wp2_with (at_builtin; refine wpl_apps rfl rfl el_u8 HO.out rfl HSL.out rfl HA4.out (by omega) (by omega) HZB.out ?_)
      intro A8 c8 w3_ ho_ hg_ hA_
      have hst := acc_step HG.out HZ.out HO.out ho_ hg_
      obtain ⟨k2, hk2⟩ : ∃ k, k = k1 + mn := ⟨_, rfl⟩
      obtain ⟨a2, ha2⟩ : ∃ a, a = a1 ++ numB n2 := ⟨_, rfl⟩
      have hk2b : k2 ≤ 110 := by omega
      rw [← hk2, ← ha2] at hst
      rw [← hk2]
      have HK2 := Lib.hid ha2
      have HO_ := Lib.hid hst.1; have HG_ := Lib.hid hst.2
      clear ho_ hg_ hA_ hst hk2 ha2 HO HG HSL HZB
      have HO := HO_; have HG := HG_
      clear HO_ HG_
      try clear w_
      rename World => w_
      go_wp2_with fail
      go_loopw [5, 6] (fun s5 iv wr => ∃ k : Nat, ∃ A' c', k ≤ n2 ∧ iv = .int .i64 k ∧ s5 = .slice A' (k2 + k * 32) c' ∧ Hid (OwnAt wr Z A' (k2 + k * 32) c' ((a2 ++ (ps.take k).flatten).map B)) ∧ Hid (Grow w6 wr)) (fun _ iv _ => n2 - (intOf iv).toNat)
      case atStart => exact ⟨0, A8, c8, by omega, rfl, by simp, Lib.hid (by simpa using HO.out), HG⟩
      case round =>
        obtain ⟨k, A9, c9, hk, rfl, rfl, hO, hG⟩ := hrel
        clear HO HG
        have HO := Lib.hid hO.out; have HG := Lib.hid hG.out
        clear hO hG
        rename World => w_
        have c37 := (HX.out.grow HG.out).blk.at_ IA.out.2.2.2.1
        by_cases hlt : k < n2
        · obtain ⟨b, off, d, rfl, hd, hd32, hbz, hcell⟩ := (HI.out.grow HG.out).key hlt
          have HSN := Lib.hid (flat_take hd)
          have HC := Lib.hid hcell
          have HDG := Lib.hid (dig_map hd32)
          have HAD := Lib.hid (all_bytes d)
          obtain ⟨dv, hdv⟩ : ∃ v, v = d.map B := ⟨_, rfl⟩
          have HDV := Lib.hid hdv
          rw [← hdv] at HC HDG
          obtain ⟨xs, hxs⟩ : ∃ v, v = a2 ++ (ps.take k).flatten := ⟨_, rfl⟩
          have HXS := Lib.hid hxs
          rw [← hxs] at HO
          obtain ⟨kk, hkk⟩ : ∃ v, v = k2 + k * 32 := ⟨_, rfl⟩
          have hkb : kk ≤ 33000 := by omega
          have HKK := Lib.hid hkk
          rw [← hkk] at HO ⊢
          clear hd hd32 hbz hcell hdv hxs hkk
          go_wp2_with (first | (with_reducible refine wpl_loadm (o := ⟨some 44, _, _, _, _, _⟩) rfl rfl row_id HC.out rfl HDG.out.len ?_))
          refine (tbytes_any HDG.out _).mono ?_
          rintro e w2_ ⟨A7, c7, rfl, hs_, hc_, hb_⟩
          have HSL := Lib.hid hs_
          have HO_ := Lib.hid (show OwnAt w2_ Z A9 kk c9 (xs.map B) from HO.out.grow hb_)
          have HG_ := Lib.hid (HG.out.grow' hb_)
          clear hs_ hc_ hb_ c37 HO HG HC
          have HO := HO_; have HG := HG_
          clear HO_ HG_
          have HZB := Lib.hid (show Z ≤ w2_.heap.size by rw [HZ.out]; exact HG.out.size)
          go_wp2_with (at_builtin; refine wpl_apps rfl rfl el_u8 HO.out rfl HSL.out rfl HAD.out (by omega) (by omega) HZB.out ?_)
          intro A10 c10 w3_ ho_ hg_ hA_
          have hst := acc_step HG.out HZ.out HO.out ho_ hg_
          have HO_ := Lib.hid (show OwnAt w3_ Z A10 (k2 + (k + 1) * 32) c10 ((a2 ++ (ps.take (k + 1)).flatten).map B) by
            rw [HSN.out, ← List.append_assoc, ← HXS.out, show k2 + (k + 1) * 32 = kk + 32 by have := HKK.out; omega]; exact hst.1)
          have HG_ := Lib.hid hst.2
          have HNN := Lib.hid (show kk + 32 = k2 + (k + 1) * 32 by have := HKK.out; omega)
          clear ho_ hg_ hA_ hst HO HG HSL HZB
          rw [HNN.out]
          go_wp2_with fail
          go_roundw
          case rel => exact ⟨k + 1, A10, c10, by omega, by go_num, rfl, HO_, HG_⟩
          case measure => simp [intOf]; omega
        · obtain rfl : k = n2 := by omega
          have hfl := HFL.out k (Nat.le_refl _)
          rw [List.take_of_length_le (by rw [HNL.out]; exact Nat.le_refl _)] at hfl
          obtain ⟨a3, ha3⟩ : ∃ v, v = a2 ++ ps.flatten := ⟨_, rfl⟩
          obtain ⟨k3, hk3⟩ : ∃ v, v = k2 + k * 32 := ⟨_, rfl⟩
          have hk3b : k3 ≤ 33000 := by omega
          have HK3 := Lib.hid ha3
          have HO_ := Lib.hid (show OwnAt w_ Z A9 k3 c9 (a3.map B) by have h := HO.out; rw [List.take_of_length_le (by rw [HNL.out]; exact Nat.le_refl _), ← ha3, ← hk3] at h; exact h)
          rw [← hk3]
          clear ha3 hk3 hfl HO
          have HO := HO_
          clear HO_
          have q1 := conv_u64' (n := nh) (by omega)
          go_wp2_with fail
          refine (HRH.out _).mono ?_
          rintro e w2_ ⟨A7, c7, rfl, ho_, hc_, hb_⟩
          have HSL := Lib.hid (Sl.of_own ho_)
          have HO_ := Lib.hid (show OwnAt w2_ Z A9 k3 c9 (a3.map B) from HO.out.grow hb_)
          have HG_ := Lib.hid (HG.out.grow' hb_)
          clear ho_ hc_ hb_ q1 c37 HO HG
          have HO := HO_; have HG := HG_
          clear HO_ HG_
          try clear w_
          rename World => w_
          have HZB := Lib.hid (show Z ≤ w_.heap.size by rw [HZ.out]; exact HG.out.size)
          go_wp2_with (at_builtin; refine wpl_apps rfl rfl el_u8 HO.out rfl HSL.out rfl HA3.out (by omega) (by omega) HZB.out ?_)
          intro A10 c10 w3_ ho_ hg_ hA_
          have hst := acc_step HG.out HZ.out HO.out ho_ hg_
          obtain ⟨k4, hk4⟩ : ∃ k, k = k3 + mh := ⟨_, rfl⟩
          obtain ⟨a4, ha4⟩ : ∃ a, a = a3 ++ numB nh := ⟨_, rfl⟩
          have hk4b : k4 ≤ 34000 := by omega
          rw [← hk4, ← ha4] at hst
          rw [← hk4]
          have HK4 := Lib.hid ha4
          have HO_ := Lib.hid hst.1; have HG_ := Lib.hid hst.2
          clear ho_ hg_ hA_ hst hk4 ha4 HO HG HSL HZB
          have HO := HO_; have HG := HG_
          clear HO_ HG_
          try clear w_
          rename World => w_
          have HSL := Lib.hid (HS4.out.grow HG.out)
          have HZB := Lib.hid (show Z ≤ w_.heap.size by rw [HZ.out]; exact HG.out.size)
          go_wp2_with (at_builtin; refine wpl_apps rfl rfl el_u8 HO.out rfl HSL.out rfl HA2.out (by omega) (by omega) HZB.out ?_)
          intro A11 c11 w3_ ho_ hg_ hA_
          have hst := acc_step HG.out HZ.out HO.out ho_ hg_
          obtain ⟨k5, hk5⟩ : ∃ k, k = k4 + nh := ⟨_, rfl⟩
          obtain ⟨a5, ha5⟩ : ∃ a, a = a4 ++ hb := ⟨_, rfl⟩
          have hk5b : k5 ≤ 35000 := by omega
          rw [← hk5, ← ha5] at hst
          rw [← hk5]
          have HK5 := Lib.hid ha5
          have HO_ := Lib.hid hst.1; have HG_ := Lib.hid hst.2
          clear ho_ hg_ hA_ hst hk5 ha5 HO HG HSL HZB
          have HO := HO_; have HG := HG_
          clear HO_ HG_
          try clear w_
          rename World => w_
          have FMT := Lib.hid (MT.out _ _ _ (HX.out.grow HG.out).blk)
          go_wp2_with (first | (with_reducible refine wpl_loadm (o := ⟨some 58, _, _, _, _, _⟩) rfl rfl row_aid FMT.out rfl DT.out.len ?_))
          refine (tbytes_any DT.out _).mono ?_
          rintro e w2_ ⟨A12, c12, rfl, hs_, hc_, hb_⟩
          have HSL := Lib.hid hs_
          have HO_ := Lib.hid (show OwnAt w2_ Z A11 k5 c11 (a5.map B) from HO.out.grow hb_)
          have HG_ := Lib.hid (HG.out.grow' hb_)
          clear hs_ hc_ hb_ FMT HO HG
          have HO := HO_; have HG := HG_
          clear HO_ HG_
          try clear w_
          rename World => w_
          have HZB := Lib.hid (show Z ≤ w_.heap.size by rw [HZ.out]; exact HG.out.size)
          go_wp2_with (at_builtin; refine wpl_apps rfl rfl el_u8 HO.out rfl HSL.out rfl HA5.out (by omega) (by omega) HZB.out ?_)
          intro A13 c13 w3_ ho_ hg_ hA_
          have hst := acc_step HG.out HZ.out HO.out ho_ hg_
          have HEQ := Lib.hid (show a5 ++ tg = out by rw [HPUT.out, HK5.out, HK4.out, HK3.out, HK2.out, HK1.out])
          rw [HEQ.out] at hst
          have HX6 := Lib.hid (own_base hst.1 (show w.heap.size ≤ Z by rw [HZ.out]; exact HB.out.size))
          have HC6 := Lib.hid (own_cap1 hst.1)
          have HL6 := Lib.hid (show k5 + 32 = out.length by have := (Sl.of_own hst.1).len; simpa using this.symm)
          have HB6 := Lib.hid (HB.out.grow' hst.2)
          clear ho_ hg_ hA_ hst HO HG HSL HZB
          go_wp2_with fail
          go_ret
          refine ⟨A13, c13, by rw [← HL6.out]; rfl, ?_, by rw [← HL6.out]; exact HC6.out, HB6.out⟩
          rw [← HL6.out]; exact HX6.out
end Go.Proofs.Ytobmldegjajocaa

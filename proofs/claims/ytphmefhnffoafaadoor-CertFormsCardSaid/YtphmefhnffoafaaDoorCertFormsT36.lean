/- The contract of the document's Put of a certificate. -/
import Derived.Test.YtphmefhnffoafaaDoorCertFormsT29
import Derived.Test.YtphmefhnffoafaaDoorCertFormsT14
import Derived.Deep.CutBlock
import Derived.Test.YtphmefhnffoafaaDoorCertFormsT35
set_option linter.unusedSimpArgs false
/- The contract of the document's Put of a certificate. -/
namespace Go.Proofs.YtphmefhnffoafaaDoor
open Go.RowKit Go.Shelf
set_option linter.unusedVariables false
theorem acc_step {w6 w w3 : World} {Z n m c c' : Nat} {A A' : Option Addr} {acc new : List UInt8} (hz : Grow w6 w) (hZ : Z = w6.heap.size) (ho : OwnAt w Z A n c (acc.map B)) (ho_ : w3.ownsRow Z 5 1 (.slice A' (n + m) c') (n + m) (acc.map B ++ new.map B)) (hg : w.grownBy w3 (A.map Addr.block)) :
    OwnAt w3 Z A' (n + m) c' ((acc ++ new).map B) ∧ Grow w6 w3 := by
  refine ⟨by unfold OwnAt; rw [List.map_append]; exact ho_, ?_⟩
  unfold Grow at hz ⊢
  exact below_grown hz hg hz.size (fun g hg' => by have := own_from ho g hg'; omega)
set_option maxRecDepth 100000 in
set_option maxHeartbeats 4000000 in
theorem rcput_any {A2 : Option Addr} {n2 c2 : Nat} {x : Cer} (w : World) (hx : x.ok) (hn : n2 ≤ 1000) (hi : Ids w A2 n2 c2 x.path) :
    Calls Tryd.prog 58 #[.agg (certV (.slice A2 n2 c2) x).toArray] w fun e w' => ∃ A' c', e = .returned (.slice A' (putCB x).length c') ∧ Sl w' w'.heap.size 1 A' (putCB x).length ((putCB x).map B) ∧ (putCB x).length ≤ c' ∧ Below w.heap.size w w' := by
  have HI := Lib.hid hi
  have HB := Lib.hid (Below.refl w.heap.size w)
  have HE := Lib.hid (fun w => reright_any x.e w hx.1); have HH := Lib.hid (fun w => rhright_any x.h w hx.2.2.1)
  have HPE := Lib.hid (fun w h => reput_any x.e w hx.1 h); have HPH := Lib.hid (fun w h => rhput_any x.h w hx.2.2.1 h)
  have LEB := Lib.hid (eformB_le hx.1); have LHB := Lib.hid (hformB_le hx.2.2.1)
  have HD := Lib.hid (cert_cl (v := .slice A2 n2 c2) rfl hx)
  have LE := Lib.hid (entV_length hx.1); have LH := Lib.hid (hdrV_length hx.2.2.1)
  have DT := Lib.hid (dig_map hx.2.2.2)
  have IA := Lib.hid (cert_ats (v := .slice A2 n2 c2) hx)
  have ME := Lib.hid (fun w g t hb => midCE (c := x) (v := .slice A2 n2 c2) (w := w) (g := g) (t := t) hb)
  have MH := Lib.hid (fun w g t hb => midCH (c := x) (v := .slice A2 n2 c2) (w := w) (g := g) (t := t) hx hb)
  have MT := Lib.hid (fun w g t hb => midCT (c := x) (v := .slice A2 n2 c2) (w := w) (g := g) (t := t) hx hb)
  have HNL := Lib.hid hi.2.1
  have HFL := Lib.hid (show ∀ k, k ≤ n2 → ((x.path.take k).flatten).length = k * 32 from fun k hk => by
    have h := flat_32 (x.path.take k) (fun d hd => hx.2.1 d (List.mem_of_mem_take hd))
    rw [h, List.length_take, hi.2.1, Nat.min_eq_left hk])
  obtain ⟨re, hre⟩ : ∃ v, v = rightE x.e := ⟨_, rfl⟩
  obtain ⟨rh, hrh⟩ : ∃ v, v = rightH x.h := ⟨_, rfl⟩
  have HF1 := Lib.hid (show re = true → eformB x.e = putEB x.e from fun h => by rw [hre] at h; unfold eformB; rw [if_pos h])
  have HF2 := Lib.hid (show re = false → eformB x.e = [] from fun h => by rw [hre] at h; unfold eformB; rw [if_neg (by simp [h])])
  have HF3 := Lib.hid (show rh = true → hformB x.h = putHB x.h from fun h => by rw [hrh] at h; unfold hformB; rw [if_pos h])
  have HF4 := Lib.hid (show rh = false → hformB x.h = [] from fun h => by rw [hrh] at h; unfold hformB; rw [if_neg (by simp [h])])
  rw [← hre] at HE HPE; rw [← hrh] at HH HPH
  obtain ⟨eb, heb⟩ : ∃ v, v = eformB x.e := ⟨_, rfl⟩
  obtain ⟨hb, hhb⟩ : ∃ v, v = hformB x.h := ⟨_, rfl⟩
  obtain ⟨ps, hps⟩ : ∃ k, k = x.path := ⟨_, rfl⟩
  obtain ⟨tg, htg⟩ : ∃ k, k = x.tag := ⟨_, rfl⟩
  have HPUT := Lib.hid (show putCB x = numB eb.length ++ eb ++ numB ps.length ++ ps.flatten ++ numB hb.length ++ hb ++ tg by rw [heb, hhb, hps, htg]; rfl)
  obtain ⟨out, hout⟩ : ∃ v, v = putCB x := ⟨_, rfl⟩
  rw [← hout] at HPUT ⊢
  rw [← heb] at LEB HF1 HF2
  rw [← hhb] at LHB HF3 HF4
  rw [← hps] at HI HNL HFL
  rw [← htg] at DT MT
  obtain ⟨ne, hne⟩ : ∃ v, v = eb.length := ⟨_, rfl⟩
  obtain ⟨nh, hnh⟩ : ∃ v, v = hb.length := ⟨_, rfl⟩
  have HNE := Lib.hid hne; have HNH := Lib.hid hnh
  rw [← hne] at LEB HPUT
  rw [← hnh] at LHB HPUT
  rw [HNL.out] at HPUT
  obtain ⟨xv, hxv⟩ : ∃ v, v = certV (.slice A2 n2 c2) x := ⟨_, rfl⟩
  obtain ⟨ev, hev⟩ : ∃ v, v = entV x.e := ⟨_, rfl⟩
  obtain ⟨hv, hhv⟩ : ∃ v, v = hdrV x.h := ⟨_, rfl⟩
  obtain ⟨tv, htv⟩ : ∃ v, v = tg.map B := ⟨_, rfl⟩
  rw [← hxv] at HD IA ME MH MT ⊢
  rw [← hev] at HE HPE LE ME
  rw [← hhv] at HH HPH LH MH
  rw [← htv] at DT MT
  have lne := LEB.out; have lnh := LHB.out
  obtain ⟨me, hme⟩ : ∃ v, v = (numB ne).length := ⟨_, rfl⟩
  obtain ⟨mh, hmh⟩ : ∃ v, v = (numB nh).length := ⟨_, rfl⟩
  obtain ⟨mn, hmn⟩ : ∃ v, v = (numB n2).length := ⟨_, rfl⟩
  have le9 : me ≤ 9 := by rw [hme]; exact numB_le (by omega)
  have lh9 : mh ≤ 9 := by rw [hmh]; exact numB_le (by omega)
  have ln9 : mn ≤ 9 := by rw [hmn]; exact numB_le (by omega)
  have HME := Lib.hid hme; have HMH := Lib.hid hmh; have HMN := Lib.hid hmn
  have HRE := Lib.hid (fun w => rnum_any ne w (by omega)); have HRH := Lib.hid (fun w => rnum_any nh w (by omega)); have HRN := Lib.hid (fun w => rnum_any n2 w (by omega))
  rw [← hme] at HRE; rw [← hmh] at HRH; rw [← hmn] at HRN
  have HA1 := Lib.hid (all_bytes eb); have HA2 := Lib.hid (all_bytes hb); have HA3 := Lib.hid (all_bytes (numB nh)); have HA4 := Lib.hid (all_bytes (numB n2)); have HA5 := Lib.hid (all_bytes tg)
  have HTG := Lib.hid DT.out
  clear hi hx hre hrh heb hhb hps htg hout hne hnh hxv hev hhv htv hme hmh hmn
  go_enter Tryd.func58, Tryd.ntmps58
  go_wp2_with (first | (with_reducible refine wpl_box (o := ⟨some 1, _, _, _, _, _⟩) rfl rfl rfl ?_))
  intro w2_ hb2_ hb_ hsz2_
  have HX_ := Lib.hid (at_mk hb2_ HD.out.len)
  clear hb2_ hsz2_
  have HB_ := Lib.hid (HB.out.grow' hb_)
  clear HB
  have HB := HB_
  clear HB_
  have HI_ := Lib.hid (HI.out.grow hb_)
  clear HI
  have HI := HI_
  clear HI_
  have HX := HX_
  clear hb_ HX_
  try clear w_
  rename World => w_
  have FME := Lib.hid (ME.out _ _ _ HX.out.blk)
  go_wp2_with (first | (with_reducible refine wpl_loadm (o := ⟨some 8, _, _, _, _, _⟩) rfl rfl row_entry FME.out rfl LE.out ?_))
  refine (HE.out _).mono ?_
  rintro e w2_ ⟨rfl, hb_⟩
  clear FME HE
  have hb_ := hb_
  clear hb_
  have HB_ := Lib.hid (HB.out.grow' hb_)
  clear HB
  have HB := HB_
  clear HB_
  have HX_ := Lib.hid (HX.out.grow hb_)
  clear HX
  have HX := HX_
  clear HX_
  have HI_ := Lib.hid (HI.out.grow hb_)
  clear HI
  have HI := HI_
  clear HI_
  clear hb_
  try clear w_
  rename World => w_
  go_upto_if 9 with fail
  go_cut [3] from 7 (fun s3 wr => ∃ A3 c3, s3 = .slice A3 ne c3 ∧ Hid (Sl wr wr.heap.size 1 A3 ne (eb.map B) ∧ At wr w.heap.size 74 137 xv ∧ Ids wr A2 n2 c2 ps ∧ Below w.heap.size w wr))
  case first =>
    cases re with
    | false =>
      have h0 := HF2.out (by first | trivial | rfl)
      have h1 := HNE.out
      rw [h0] at h1
      have HZ0 := Lib.hid (show Sl w_ w_.heap.size 1 none ne (eb.map B) by rw [h0, h1]; exact Sl.nil)
      have h1 : ne = 0 := h1
      have HN0 := Lib.hid h1
      clear h0 h1
      go_wp2_with fail
      go_meet
      case rel => exact ⟨none, 0, by rw [HN0.out], Lib.hid ⟨HZ0.out, HX.out, HI.out, HB.out⟩⟩
    | true =>
      have FME := Lib.hid (ME.out _ _ _ HX.out.blk)
      go_wp2_with (first | (with_reducible refine wpl_loadm (o := ⟨some 11, _, _, _, _, _⟩) rfl rfl row_entry FME.out rfl LE.out ?_))
      refine (HPE.out _ (by first | trivial | rfl)).mono ?_
      rintro e w2_ ⟨A3, c3, rfl, hs3, hc3, hb_⟩
      have h0 := HF1.out (by first | trivial | rfl)
      have HLE := Lib.hid (show (putEB x.e).length = ne by rw [HNE.out, h0])
      rw [HLE.out] at hs3 ⊢
      have HS3 := Lib.hid (show Sl w2_ w2_.heap.size 1 A3 ne (eb.map B) by rw [h0]; exact hs3)
      clear hs3 hc3 FME h0
      have hb_ := hb_
      clear hb_
      have HB_ := Lib.hid (HB.out.grow' hb_)
      clear HB
      have HB := HB_
      clear HB_
      have HX_ := Lib.hid (HX.out.grow hb_)
      clear HX
      have HX := HX_
      clear HX_
      have HI_ := Lib.hid (HI.out.grow hb_)
      clear HI
      have HI := HI_
      clear HI_
      clear hb_
      try clear w_
      rename World => w_
      go_wp2_with fail
      go_meet
      case rel => exact ⟨A3, c3, rfl, Lib.hid ⟨HS3.out, HX.out, HI.out, HB.out⟩⟩
  case rest =>
    obtain ⟨A3, c3, rfl, hI⟩ := hcut
    clear HX HI HB
    have HS3 := Lib.hid hI.out.1; have HX := Lib.hid hI.out.2.1; have HI := Lib.hid hI.out.2.2.1; have HB := Lib.hid hI.out.2.2.2
    clear hI
    try clear w_
    rename World => w_
    have FMH := Lib.hid (MH.out _ _ _ HX.out.blk)
    go_wp2_with (first | (with_reducible refine wpl_loadm (o := ⟨some 14, _, _, _, _, _⟩) rfl rfl row_header FMH.out rfl LH.out ?_))
    refine (HH.out _).mono ?_
    rintro e w2_ ⟨rfl, hb_⟩
    clear FMH HH
    have hb_ := hb_
    clear hb_
    have HB_ := Lib.hid (HB.out.grow' hb_)
    clear HB
    have HB := HB_
    clear HB_
    have HX_ := Lib.hid (HX.out.grow hb_)
    clear HX
    have HX := HX_
    clear HX_
    have HI_ := Lib.hid (HI.out.grow hb_)
    clear HI
    have HI := HI_
    clear HI_
    have HS3_ := Lib.hid (HS3.out.grow hb_)
    clear HS3
    have HS3 := HS3_
    clear HS3_
    clear hb_
    try clear w_
    rename World => w_
    go_upto_if 15 with fail
    go_cut [4] from 7 (fun s4 wr => ∃ A4 c4, s4 = .slice A4 nh c4 ∧ Hid (Sl wr wr.heap.size 1 A4 nh (hb.map B) ∧ Sl wr wr.heap.size 1 A3 ne (eb.map B) ∧ At wr w.heap.size 74 137 xv ∧ Ids wr A2 n2 c2 ps ∧ Below w.heap.size w wr))
    case first =>
      cases rh with
      | false =>
        have h0 := HF4.out (by first | trivial | rfl)
        have h1 := HNH.out
        rw [h0] at h1
        have HZ0 := Lib.hid (show Sl w_ w_.heap.size 1 none nh (hb.map B) by rw [h0, h1]; exact Sl.nil)
        have h1 : nh = 0 := h1
        have HN0 := Lib.hid h1
        clear h0 h1
        go_wp2_with fail
        go_meet
        case rel => exact ⟨none, 0, by rw [HN0.out], Lib.hid ⟨HZ0.out, HS3.out, HX.out, HI.out, HB.out⟩⟩
      | true =>
        have FMH := Lib.hid (MH.out _ _ _ HX.out.blk)
        go_wp2_with (first | (with_reducible refine wpl_loadm (o := ⟨some 17, _, _, _, _, _⟩) rfl rfl row_header FMH.out rfl LH.out ?_))
        refine (HPH.out _ (by first | trivial | rfl)).mono ?_
        rintro e w2_ ⟨A4, c4, rfl, hs4, hc4, hb_⟩
        have h0 := HF3.out (by first | trivial | rfl)
        have HLE := Lib.hid (show (putHB x.h).length = nh by rw [HNH.out, h0])
        rw [HLE.out] at hs4 ⊢
        have HS4 := Lib.hid (show Sl w2_ w2_.heap.size 1 A4 nh (hb.map B) by rw [h0]; exact hs4)
        clear hs4 hc4 FMH h0
        have hb_ := hb_
        clear hb_
        have HB_ := Lib.hid (HB.out.grow' hb_)
        clear HB
        have HB := HB_
        clear HB_
        have HX_ := Lib.hid (HX.out.grow hb_)
        clear HX
        have HX := HX_
        clear HX_
        have HI_ := Lib.hid (HI.out.grow hb_)
        clear HI
        have HI := HI_
        clear HI_
        have HS3_ := Lib.hid (HS3.out.grow hb_)
        clear HS3
        have HS3 := HS3_
        clear HS3_
        clear hb_
        try clear w_
        rename World => w_
        go_wp2_with fail
        go_meet
        case rel => exact ⟨A4, c4, rfl, Lib.hid ⟨HS4.out, HS3.out, HX.out, HI.out, HB.out⟩⟩
    case rest =>
      obtain ⟨A4, c4, rfl, hI⟩ := hcut
      clear HX HI HB HS3
      have HS4 := Lib.hid hI.out.1; have HS3 := Lib.hid hI.out.2.1; have HX := Lib.hid hI.out.2.2.1; have HI := Lib.hid hI.out.2.2.2.1; have HB := Lib.hid hI.out.2.2.2.2
      clear hI
      try clear w_
      rename World => w6
      obtain ⟨Z, hZ⟩ : ∃ q, q = w6.heap.size := ⟨_, rfl⟩
      have HZ := Lib.hid hZ
      clear hZ
      have q1 := conv_u64' (n := ne) (by omega)
      go_wp2_with fail
      refine (HRE.out _).mono ?_
      rintro e w_ ⟨A5, c5, rfl, ho_, hc_, hb_⟩
      have HO := Lib.hid (show OwnAt w_ Z A5 me c5 ((numB ne).map B) by rw [HZ.out]; exact ho_)
      have HG := Lib.hid (show Grow w6 w_ from hb_)
      clear ho_ hc_ hb_ q1
      have HSL := Lib.hid (HS3.out.grow HG.out)
      have HZB := Lib.hid (show Z ≤ w_.heap.size by rw [HZ.out]; exact HG.out.size)
      go_wp2_with (at_builtin; refine wpl_apps rfl rfl el_u8 HO.out rfl HSL.out rfl HA1.out (by omega) (by omega) HZB.out ?_)
      intro A6 c6 w3_ ho_ hg_ hA_
      have hst := acc_step HG.out HZ.out HO.out ho_ hg_
      obtain ⟨k1, hk1⟩ : ∃ k, k = me + ne := ⟨_, rfl⟩
      obtain ⟨a1, ha1⟩ : ∃ a, a = numB ne ++ eb := ⟨_, rfl⟩
      have hk1b : k1 ≤ 100 := by omega
      rw [← hk1, ← ha1] at hst
      rw [← hk1]
      have HK1 := Lib.hid ha1
      have HO_ := Lib.hid hst.1; have HG_ := Lib.hid hst.2
      clear ho_ hg_ hA_ hst hk1 ha1 HO HG HSL HZB
      have HO := HO_; have HG := HG_
      clear HO_ HG_
      try clear w_
      rename World => w_
      have c37 := (HX.out.grow HG.out).blk.at_ IA.out.2.2.2.1
      have q1 := conv_u64' (n := n2) (by omega)
      go_wp2_with fail
      refine (HRN.out _).mono ?_
      rintro e w2_ ⟨A7, c7, rfl, ho_, hc_, hb_⟩
      have HSL := Lib.hid (Sl.of_own ho_)
      have HO_ := Lib.hid (show OwnAt w2_ Z A6 k1 c6 (a1.map B) from HO.out.grow hb_)
      have HG_ := Lib.hid (HG.out.grow' hb_)
      clear ho_ hc_ hb_ q1 c37 HO HG
      have HO := HO_; have HG := HG_
      clear HO_ HG_
      try clear w_
      rename World => w_
      have HZB := Lib.hid (show Z ≤ w_.heap.size by rw [HZ.out]; exact HG.out.size)
      go_wp2_with (at_builtin; refine wpl_apps rfl rfl el_u8 HO.out rfl HSL.out rfl HA4.out (by omega) (by omega) HZB.out ?_)
      intro A8 c8 w3_ ho_ hg_ hA_
      have hst := acc_step HG.out HZ.out HO.out ho_ hg_
      obtain ⟨k2, hk2⟩ : ∃ k, k = k1 + mn := ⟨_, rfl⟩
      obtain ⟨a2, ha2⟩ : ∃ a, a = a1 ++ numB n2 := ⟨_, rfl⟩
      have hk2b : k2 ≤ 110 := by omega
      rw [← hk2, ← ha2] at hst
      rw [← hk2]
      have HK2 := Lib.hid ha2
      have HO_ := Lib.hid hst.1; have HG_ := Lib.hid hst.2
      clear ho_ hg_ hA_ hst hk2 ha2 HO HG HSL HZB
      have HO := HO_; have HG := HG_
      clear HO_ HG_
      try clear w_
      rename World => w_
      go_wp2_with fail
      go_loopw [5, 6] (fun s5 iv wr => ∃ k : Nat, ∃ A' c', k ≤ n2 ∧ iv = .int .i64 k ∧ s5 = .slice A' (k2 + k * 32) c' ∧ Hid (OwnAt wr Z A' (k2 + k * 32) c' ((a2 ++ (ps.take k).flatten).map B)) ∧ Hid (Grow w6 wr)) (fun _ iv _ => n2 - (intOf iv).toNat)
      case atStart => exact ⟨0, A8, c8, by omega, rfl, by simp, Lib.hid (by simpa using HO.out), HG⟩
      case round =>
        obtain ⟨k, A9, c9, hk, rfl, rfl, hO, hG⟩ := hrel
        clear HO HG
        have HO := Lib.hid hO.out; have HG := Lib.hid hG.out
        clear hO hG
        rename World => w_
        have c37 := (HX.out.grow HG.out).blk.at_ IA.out.2.2.2.1
        by_cases hlt : k < n2
        · obtain ⟨b, off, d, rfl, hd, hd32, hbz, hcell⟩ := (HI.out.grow HG.out).key hlt
          have HSN := Lib.hid (flat_take hd)
          have HC := Lib.hid hcell
          have HDG := Lib.hid (dig_map hd32)
          have HAD := Lib.hid (all_bytes d)
          obtain ⟨dv, hdv⟩ : ∃ v, v = d.map B := ⟨_, rfl⟩
          have HDV := Lib.hid hdv
          rw [← hdv] at HC HDG
          obtain ⟨xs, hxs⟩ : ∃ v, v = a2 ++ (ps.take k).flatten := ⟨_, rfl⟩
          have HXS := Lib.hid hxs
          rw [← hxs] at HO
          obtain ⟨kk, hkk⟩ : ∃ v, v = k2 + k * 32 := ⟨_, rfl⟩
          have hkb : kk ≤ 33000 := by omega
          have HKK := Lib.hid hkk
          rw [← hkk] at HO ⊢
          clear hd hd32 hbz hcell hdv hxs hkk
          go_wp2_with (first | (with_reducible refine wpl_loadm (o := ⟨some 44, _, _, _, _, _⟩) rfl rfl row_id HC.out rfl HDG.out.len ?_))
          refine (tbytes_any HDG.out _).mono ?_
          rintro e w2_ ⟨A7, c7, rfl, hs_, hc_, hb_⟩
          have HSL := Lib.hid hs_
          have HO_ := Lib.hid (show OwnAt w2_ Z A9 kk c9 (xs.map B) from HO.out.grow hb_)
          have HG_ := Lib.hid (HG.out.grow' hb_)
          clear hs_ hc_ hb_ c37 HO HG HC
          have HO := HO_; have HG := HG_
          clear HO_ HG_
          have HZB := Lib.hid (show Z ≤ w2_.heap.size by rw [HZ.out]; exact HG.out.size)
          go_wp2_with (at_builtin; refine wpl_apps rfl rfl el_u8 HO.out rfl HSL.out rfl HAD.out (by omega) (by omega) HZB.out ?_)
          intro A10 c10 w3_ ho_ hg_ hA_
          have hst := acc_step HG.out HZ.out HO.out ho_ hg_
          have HO_ := Lib.hid (show OwnAt w3_ Z A10 (k2 + (k + 1) * 32) c10 ((a2 ++ (ps.take (k + 1)).flatten).map B) by
            rw [HSN.out, ← List.append_assoc, ← HXS.out, show k2 + (k + 1) * 32 = kk + 32 by have := HKK.out; omega]; exact hst.1)
          have HG_ := Lib.hid hst.2
          have HNN := Lib.hid (show kk + 32 = k2 + (k + 1) * 32 by have := HKK.out; omega)
          clear ho_ hg_ hA_ hst HO HG HSL HZB
          rw [HNN.out]
          go_wp2_with fail
          go_roundw
          case rel => exact ⟨k + 1, A10, c10, by omega, by go_num, rfl, HO_, HG_⟩
          case measure => simp [intOf]; omega
        · obtain rfl : k = n2 := by omega
          have hfl := HFL.out k (Nat.le_refl _)
          rw [List.take_of_length_le (by rw [HNL.out]; exact Nat.le_refl _)] at hfl
          obtain ⟨a3, ha3⟩ : ∃ v, v = a2 ++ ps.flatten := ⟨_, rfl⟩
          obtain ⟨k3, hk3⟩ : ∃ v, v = k2 + k * 32 := ⟨_, rfl⟩
          have hk3b : k3 ≤ 33000 := by omega
          have HK3 := Lib.hid ha3
          have HO_ := Lib.hid (show OwnAt w_ Z A9 k3 c9 (a3.map B) by have h := HO.out; rw [List.take_of_length_le (by rw [HNL.out]; exact Nat.le_refl _), ← ha3, ← hk3] at h; exact h)
          rw [← hk3]
          clear ha3 hk3 hfl HO
          have HO := HO_
          clear HO_
          have q1 := conv_u64' (n := nh) (by omega)
          go_wp2_with fail
          refine (HRH.out _).mono ?_
          rintro e w2_ ⟨A7, c7, rfl, ho_, hc_, hb_⟩
          have HSL := Lib.hid (Sl.of_own ho_)
          have HO_ := Lib.hid (show OwnAt w2_ Z A9 k3 c9 (a3.map B) from HO.out.grow hb_)
          have HG_ := Lib.hid (HG.out.grow' hb_)
          clear ho_ hc_ hb_ q1 c37 HO HG
          have HO := HO_; have HG := HG_
          clear HO_ HG_
          try clear w_
          rename World => w_
          have HZB := Lib.hid (show Z ≤ w_.heap.size by rw [HZ.out]; exact HG.out.size)
          go_wp2_with (at_builtin; refine wpl_apps rfl rfl el_u8 HO.out rfl HSL.out rfl HA3.out (by omega) (by omega) HZB.out ?_)
          intro A10 c10 w3_ ho_ hg_ hA_
          have hst := acc_step HG.out HZ.out HO.out ho_ hg_
          obtain ⟨k4, hk4⟩ : ∃ k, k = k3 + mh := ⟨_, rfl⟩
          obtain ⟨a4, ha4⟩ : ∃ a, a = a3 ++ numB nh := ⟨_, rfl⟩
          have hk4b : k4 ≤ 34000 := by omega
          rw [← hk4, ← ha4] at hst
          rw [← hk4]
          have HK4 := Lib.hid ha4
          have HO_ := Lib.hid hst.1; have HG_ := Lib.hid hst.2
          clear ho_ hg_ hA_ hst hk4 ha4 HO HG HSL HZB
          have HO := HO_; have HG := HG_
          clear HO_ HG_
          try clear w_
          rename World => w_
          have HSL := Lib.hid (HS4.out.grow HG.out)
          have HZB := Lib.hid (show Z ≤ w_.heap.size by rw [HZ.out]; exact HG.out.size)
          go_wp2_with (at_builtin; refine wpl_apps rfl rfl el_u8 HO.out rfl HSL.out rfl HA2.out (by omega) (by omega) HZB.out ?_)
          intro A11 c11 w3_ ho_ hg_ hA_
          have hst := acc_step HG.out HZ.out HO.out ho_ hg_
          obtain ⟨k5, hk5⟩ : ∃ k, k = k4 + nh := ⟨_, rfl⟩
          obtain ⟨a5, ha5⟩ : ∃ a, a = a4 ++ hb := ⟨_, rfl⟩
          have hk5b : k5 ≤ 35000 := by omega
          rw [← hk5, ← ha5] at hst
          rw [← hk5]
          have HK5 := Lib.hid ha5
          have HO_ := Lib.hid hst.1; have HG_ := Lib.hid hst.2
          clear ho_ hg_ hA_ hst hk5 ha5 HO HG HSL HZB
          have HO := HO_; have HG := HG_
          clear HO_ HG_
          try clear w_
          rename World => w_
          have FMT := Lib.hid (MT.out _ _ _ (HX.out.grow HG.out).blk)
          go_wp2_with (first | (with_reducible refine wpl_loadm (o := ⟨some 58, _, _, _, _, _⟩) rfl rfl row_aid FMT.out rfl DT.out.len ?_))
          refine (tbytes_any DT.out _).mono ?_
          rintro e w2_ ⟨A12, c12, rfl, hs_, hc_, hb_⟩
          have HSL := Lib.hid hs_
          have HO_ := Lib.hid (show OwnAt w2_ Z A11 k5 c11 (a5.map B) from HO.out.grow hb_)
          have HG_ := Lib.hid (HG.out.grow' hb_)
          clear hs_ hc_ hb_ FMT HO HG
          have HO := HO_; have HG := HG_
          clear HO_ HG_
          try clear w_
          rename World => w_
          have HZB := Lib.hid (show Z ≤ w_.heap.size by rw [HZ.out]; exact HG.out.size)
          go_wp2_with (at_builtin; refine wpl_apps rfl rfl el_u8 HO.out rfl HSL.out rfl HA5.out (by omega) (by omega) HZB.out ?_)
          intro A13 c13 w3_ ho_ hg_ hA_
          have hst := acc_step HG.out HZ.out HO.out ho_ hg_
          have HEQ := Lib.hid (show a5 ++ tg = out by rw [HPUT.out, HK5.out, HK4.out, HK3.out, HK2.out, HK1.out])
          rw [HEQ.out] at hst
          have HX6 := Lib.hid (Sl.of_own hst.1)
          have HC6 := Lib.hid (own_cap1 hst.1)
          have HL6 := Lib.hid (show k5 + 32 = out.length by have := HX6.out.len; simpa using this.symm)
          have HB6 := Lib.hid (HB.out.grow' hst.2)
          clear ho_ hg_ hA_ hst HO HG HSL HZB
          go_wp2_with fail
          go_ret
          refine ⟨A13, c13, by rw [← HL6.out]; rfl, ?_, by rw [← HL6.out]; exact HC6.out, HB6.out⟩
          rw [← HL6.out]; exact HX6.out
end Go.Proofs.YtphmefhnffoafaaDoor
/- The walk of CertForms. -/
namespace Go.Proofs.YtphmefhnffoafaaDoor
open Go.RowKit Go.Shelf
set_option linter.unusedVariables false
theorem readC_nz {l : List UInt8} {x : Nat} (h : readC l = .error x) : x ≠ 0 := by
  rcases readC_cases l with ⟨y, _, h0, h1⟩ | ⟨r, _, _, h1⟩
  · rw [h] at h1; injection h1 with h1; rw [h1]; exact h0
  · rcases readW_cases r with ⟨y, _, h0, h2⟩ | ⟨e, y, _, _, h0, h2⟩ | ⟨e, hh, _, _, h2⟩
    · rw [h1, h2] at h; injection h with h; rw [← h]; exact h0
    · rw [h1, h2] at h; injection h with h; rw [← h]; exact h0
    · rw [h1, h2] at h; cases h
theorem readC_zero {l : List UInt8} (h : errOf (readC l) = 0) : readC l = .ok (cerOf (readC l)) := by
  cases hr : readC l with
  | error x => rw [hr] at h; exact absurd h (readC_nz hr)
  | ok c => rfl
theorem putCB_le {x : Cer} (hx : x.ok) (hp : x.path.length ≤ 40) : (putCB x).length ≤ 1000000 := by
  have l1 := eformB_le hx.1; have l2 := hformB_le hx.2.2.1; have l3 := hx.2.2.2
  have n1 := numB_le (n := (eformB x.e).length) (by omega); have n2 := numB_le (n := x.path.length) (by omega); have n3 := numB_le (n := (hformB x.h).length) (by omega)
  have f1 := flat_32 x.path hx.2.1
  unfold putCB
  simp only [List.length_append]
  omega
set_option maxRecDepth 100000 in
set_option maxHeartbeats 8000000 in
theorem certForms_any (A2 : Option Addr) (n2 c2 : Nat) (x : Cer) (A : Option Addr) (n c : Nat) (bs : List UInt8) (w : World) (hx : x.ok) (hi : Ids w A2 n2 c2 x.path) (hs : Sl w w.heap.size 1 A n (bs.map B)) (hc : n ≤ c) (ht : Tabs w) :
    Calls Tryd.prog 14 #[.agg (certV (.slice A2 n2 c2) x).toArray, .slice A n c] w fun e w' => e = .returned (.bool true) ∧ Below w.heap.size w w' := by
  have HS := Lib.hid hs; have HI := Lib.hid hi; have HT := Lib.hid ht; have HC := Lib.hid hc
  have HB := Lib.hid (Below.refl w.heap.size w)
  obtain ⟨b2, hb2⟩ : ∃ b, decide (40 < n2) = b := ⟨_, rfl⟩
  have G2 := Lib.hid (fun w => cgreat_any (A2 := A2) (c2 := c2) hb2 w hx)
  have HN2 := Lib.hid (show b2 = false → n2 ≤ 40 from fun h => by rw [← hb2, decide_eq_false_iff_not] at h; omega)
  have HPP := Lib.hid (show n2 ≤ 40 → (putCB x).length ≤ 1000000 from fun h => putCB_le hx (by rw [hi.2.1]; exact h))
  have HSM := Lib.hid (show n2 ≤ 40 → errOf (readC (putCB x)) = 0 → cerOf (readC (putCB x)) = x from fun h h0 => readC_same hx (by rw [hi.2.1]; omega) (readC_zero h0))
  have HD := Lib.hid (cert_cl (v := .slice A2 n2 c2) rfl hx)
  have P1 := Lib.hid (fun w hn hi => cput_any (A2 := A2) (n2 := n2) (c2 := c2) w hx hn hi)
  have P2 := Lib.hid (fun w hn hi => rcput_any (A2 := A2) (n2 := n2) (c2 := c2) w hx hn hi)
  have R1 := Lib.hid (fun w hs hn => cread_any (A := A) (n := n) (c := c) (l := bs) w hs hn)
  have R2 := Lib.hid (fun w hs hc hn => rcread_any (A := A) (n := n) (c := c) (l := bs) w hs hc hn)
  have R3 := Lib.hid (fun A n c w hs hn => cread_any (A := A) (n := n) (c := c) (l := putCB x) w hs hn)
  have R4 := Lib.hid (fun A n c w hs hc hn => rcread_any (A := A) (n := n) (c := c) (l := putCB x) w hs hc hn)
  have HO1 := Lib.hid (cerOf_ok bs); have HO2 := Lib.hid (cerOf_ok (putCB x))
  have S1 := Lib.hid (fun w A n c A2 n2 c2 hn h1 h2 => rcsame_any (res := true) (A := A) (n := n) (c := c) (A2 := A2) (n2 := n2) (c2 := c2) (x := cerOf (readC bs)) (y := cerOf (readC bs)) (by simp) w (cerOf_ok bs) (cerOf_ok bs) hn h1 h2)
  have S2 := Lib.hid (fun w A n c A2 n2 c2 hn h1 h2 => rcsame_any (res := true) (A := A) (n := n) (c := c) (A2 := A2) (n2 := n2) (c2 := c2) (x := cerOf (readC (putCB x))) (y := cerOf (readC (putCB x))) (by simp) w (cerOf_ok _) (cerOf_ok _) hn h1 h2)
  have S3 := Lib.hid (fun (h0 : cerOf (readC (putCB x)) = x) w A n c hn h1 h2 => rcsame_any (res := true) (A := A) (n := n) (c := c) (A2 := A2) (n2 := n2) (c2 := c2) (x := cerOf (readC (putCB x))) (y := x) (by simp [h0]) w (cerOf_ok _) hx hn h1 h2)
  obtain ⟨xb, hxb⟩ : ∃ q, q = cerOf (readC bs) := ⟨_, rfl⟩
  obtain ⟨eb, heb⟩ : ∃ q, q = errOf (readC bs) := ⟨_, rfl⟩
  obtain ⟨zz, hzz⟩ : ∃ q, q = cerOf (readC (putCB x)) := ⟨_, rfl⟩
  obtain ⟨gg, hgg⟩ : ∃ q, q = errOf (readC (putCB x)) := ⟨_, rfl⟩
  rw [← hxb] at R1 R2 HO1 S1
  rw [← heb] at R1 R2
  rw [← hzz] at R3 R4 HO2 S2 S3 HSM
  rw [← hgg] at R3 R4 HSM
  clear hxb heb hzz hgg
  obtain ⟨pb, hpb⟩ : ∃ q, q = putCB x := ⟨_, rfl⟩
  rw [← hpb] at P1 P2 R3 R4 HPP
  clear hpb
  obtain ⟨xv, hxv⟩ : ∃ v, v = certV (.slice A2 n2 c2) x := ⟨_, rfl⟩
  rw [← hxv] at HD G2 P1 P2 S3 ⊢
  clear hxv hb2 hx hi hs hc ht
  by_cases h1 : n ≤ 600
  · have g1 : decide (600 < (n : Int)) = false := by simp; omega
    have HN1 := Lib.hid (show n ≤ 1000000 by omega)
    go_enter Tryd.func14, Tryd.ntmps14
    go_wp2_with (first | (with_reducible refine wpl_box (o := ⟨some 2, _, _, _, _, _⟩) rfl rfl rfl ?_))
    intro w2_ hb2_ hb_ hsz2_
    have HX_ := Lib.hid (at_mk hb2_ HD.out.len)
    clear hb2_ hsz2_
    have HB_ := Lib.hid (HB.out.grow' hb_)
    clear HB
    have HB := HB_
    clear HB_
    have HS_ := Lib.hid (HS.out.grow hb_)
    clear HS
    have HS := HS_
    clear HS_
    have HI_ := Lib.hid (HI.out.grow hb_)
    clear HI
    have HI := HI_
    clear HI_
    have HT_ := Lib.hid (HT.out.grow hb_)
    clear HT
    have HT := HT_
    clear HT_
    have HX := HX_
    clear hb_ HX_
    try clear w_
    rename World => w_
    go_wp2_with (first | (with_reducible refine wpl_loadb (o := ⟨_, .load _ _, _, _, _, _⟩) rfl rfl row_cert HX.out.blk rfl HX.out.len ?_) | (with_reducible refine wpl_loadw (o := ⟨_, .load _ _, _, _, _, _⟩) (by first | rfl | (go_simp; done) | fail) rfl row_cert HX.out.blk rfl HX.out.len ?_))
    refine (G2.out _).mono ?_
    rintro e w_ ⟨rfl, hb_⟩
    have HB_ := Lib.hid (HB.out.grow' hb_)
    clear HB
    have HB := HB_
    clear HB_
    have HX_ := Lib.hid (HX.out.grow hb_)
    clear HX
    have HX := HX_
    clear HX_
    have HS_ := Lib.hid (HS.out.grow hb_)
    clear HS
    have HS := HS_
    clear HS_
    have HI_ := Lib.hid (HI.out.grow hb_)
    clear HI
    have HI := HI_
    clear HI_
    have HT_ := Lib.hid (HT.out.grow hb_)
    clear HT
    have HT := HT_
    clear HT_
    clear hb_
    cases b2 with
    | true =>
      go_wp2_with fail
      refine (awake11_any _ HT.out).mono ?_
      rintro e w_ ⟨rfl, hb_⟩
      have HB_ := Lib.hid (HB.out.grow' hb_)
      clear HB
      have HB := HB_
      clear HB_
      clear hb_
      go_wp2_with fail
      go_ret
      exact ⟨rfl, HB.out⟩
    | false =>
      have K2 := Lib.hid (HN2.out (by first | trivial | rfl))
      have HPL := Lib.hid (HPP.out K2.out)
      have HSN := Lib.hid (HSM.out K2.out)
      clear HN2 HPP HSM G2
      go_wp2_with fail
      refine (R1.out _ HS.out HN1.out).mono ?_
      rintro e w2_ ⟨A1, n1, c1, rfl, hi1, hn1, hb_⟩
      have HI1 := Lib.hid hi1; have HL1 := Lib.hid (show n1 ≤ 1000000 by omega)
      have HD1 := Lib.hid (cert_cl (v := .slice A1 n1 c1) rfl HO1.out)
      obtain ⟨xv1, hxv1⟩ : ∃ v, v = certV (.slice A1 n1 c1) xb := ⟨_, rfl⟩
      have S1a := Lib.hid (fun w A2 n2 c2 hn h1 h2 => S1.out w A1 n1 c1 A2 n2 c2 hn h1 h2)
      rw [← hxv1] at HD1 S1a ⊢
      clear hi1 hn1 hxv1 S1 R1
      have hb_ := hb_
      clear hb_
      have HB_ := Lib.hid (HB.out.grow' hb_)
      clear HB
      have HB := HB_
      clear HB_
      have HX_ := Lib.hid (HX.out.grow hb_)
      clear HX
      have HX := HX_
      clear HX_
      have HS_ := Lib.hid (HS.out.grow hb_)
      clear HS
      have HS := HS_
      clear HS_
      have HI_ := Lib.hid (HI.out.grow hb_)
      clear HI
      have HI := HI_
      clear HI_
      have HT_ := Lib.hid (HT.out.grow hb_)
      clear HT
      have HT := HT_
      clear HT_
      clear hb_
      try clear w_
      rename World => w_
      go_wp2_with (first | (with_reducible refine wpl_alloc (o := ⟨some 5, _, _, _, _, _⟩) rfl rfl zero_cert ?_))
      intro w1_ hb1_ hbw1_ hsz1_
      have HB1_ := Lib.hid (at_mk hb1_ len_cert)
      have HBW1_ := Lib.hid hbw1_
      have HZ1_ := Lib.hid hsz1_
      clear hb1_ hbw1_ hsz1_
      go_wp2_with (first | (with_reducible refine wpl_storeb (o := ⟨none, .store _ _ _, _, _, _, _⟩) rfl rfl row_cert HB1_.out.blk rfl rfl HB1_.out.len HD1.out.len HD1.out.one ?_))
      intro w2_ hb2_ hg2_ hsz2_
      have hb_ := var_grow HBW1_.out HZ1_.out hg2_
      have HX_ := Lib.hid (at_mk hb2_ HD1.out.len)
      clear hb2_ hg2_ hsz2_ HB1_ HBW1_ HZ1_
      have HB_ := Lib.hid (HB.out.grow' hb_)
      clear HB
      have HB := HB_
      clear HB_
      have HX_ := Lib.hid (HX.out.grow hb_)
      clear HX
      have HX := HX_
      clear HX_
      have HS_ := Lib.hid (HS.out.grow hb_)
      clear HS
      have HS := HS_
      clear HS_
      have HI_ := Lib.hid (HI.out.grow hb_)
      clear HI
      have HI := HI_
      clear HI_
      have HT_ := Lib.hid (HT.out.grow hb_)
      clear HT
      have HT := HT_
      clear HT_
      have HI1_ := Lib.hid (HI1.out.grow hb_)
      clear HI1
      have HI1 := HI1_
      clear HI1_
      generalize hg_ : w_.heap.size = g5 at HX_ ⊢
      clear hg_
      have HY := HX_
      clear hb_ HX_
      clear w1_
      try clear w_
      rename World => w_
      go_wp2_with fail
      refine (R2.out _ HS.out HC.out HN1.out).mono ?_
      rintro e w2_ ⟨A3, n3, c3, rfl, hi1, hn1, hb_⟩
      have HI2 := Lib.hid hi1
      have HD2 := Lib.hid (cert_cl (v := .slice A3 n3 c3) rfl HO1.out)
      obtain ⟨xv2, hxv2⟩ : ∃ v, v = certV (.slice A3 n3 c3) xb := ⟨_, rfl⟩
      have S1b := Lib.hid (fun w hn h1 h2 => S1a.out w A3 n3 c3 hn h1 h2)
      rw [← hxv2] at HD2 S1b ⊢
      clear hi1 hn1 hxv2 S1a R2 HS HO1
      have hb_ := hb_
      clear hb_
      have HB_ := Lib.hid (HB.out.grow' hb_)
      clear HB
      have HB := HB_
      clear HB_
      have HX_ := Lib.hid (HX.out.grow hb_)
      clear HX
      have HX := HX_
      clear HX_
      have HY_ := Lib.hid (HY.out.grow hb_)
      clear HY
      have HY := HY_
      clear HY_
      have HI_ := Lib.hid (HI.out.grow hb_)
      clear HI
      have HI := HI_
      clear HI_
      have HT_ := Lib.hid (HT.out.grow hb_)
      clear HT
      have HT := HT_
      clear HT_
      have HI1_ := Lib.hid (HI1.out.grow hb_)
      clear HI1
      have HI1 := HI1_
      clear HI1_
      clear hb_
      try clear w_
      rename World => w_
      go_wp2_with (first | (with_reducible refine wpl_alloc (o := ⟨some 7, _, _, _, _, _⟩) rfl rfl zero_cert ?_))
      intro w1_ hb1_ hbw1_ hsz1_
      have HB1_ := Lib.hid (at_mk hb1_ len_cert)
      have HBW1_ := Lib.hid hbw1_
      have HZ1_ := Lib.hid hsz1_
      clear hb1_ hbw1_ hsz1_
      go_wp2_with (first | (with_reducible refine wpl_storeb (o := ⟨none, .store _ _ _, _, _, _, _⟩) rfl rfl row_cert HB1_.out.blk rfl rfl HB1_.out.len HD2.out.len HD2.out.one ?_))
      intro w2_ hb2_ hg2_ hsz2_
      have hb_ := var_grow HBW1_.out HZ1_.out hg2_
      have HX_ := Lib.hid (at_mk hb2_ HD2.out.len)
      clear hb2_ hg2_ hsz2_ HB1_ HBW1_ HZ1_
      have HB_ := Lib.hid (HB.out.grow' hb_)
      clear HB
      have HB := HB_
      clear HB_
      have HX_ := Lib.hid (HX.out.grow hb_)
      clear HX
      have HX := HX_
      clear HX_
      have HY_ := Lib.hid (HY.out.grow hb_)
      clear HY
      have HY := HY_
      clear HY_
      have HI_ := Lib.hid (HI.out.grow hb_)
      clear HI
      have HI := HI_
      clear HI_
      have HT_ := Lib.hid (HT.out.grow hb_)
      clear HT
      have HT := HT_
      clear HT_
      have HI1_ := Lib.hid (HI1.out.grow hb_)
      clear HI1
      have HI1 := HI1_
      clear HI1_
      have HI2_ := Lib.hid (HI2.out.grow hb_)
      clear HI2
      have HI2 := HI2_
      clear HI2_
      generalize hg_ : w_.heap.size = g7 at HX_ ⊢
      clear hg_
      have HW := HX_
      clear hb_ HX_
      clear w1_
      try clear w_
      rename World => w_
      go_wp2_with (first | (with_reducible refine wpl_loadb (o := ⟨_, .load _ _, _, _, _, _⟩) rfl rfl row_cert HX.out.blk rfl HX.out.len ?_) | (with_reducible refine wpl_loadw (o := ⟨_, .load _ _, _, _, _, _⟩) (by first | rfl | (go_simp; done) | fail) rfl row_cert HX.out.blk rfl HX.out.len ?_))
      refine (P1.out _ (by have := K2.out; omega) HI.out).mono ?_
      rintro e w2_ ⟨A5, c5, rfl, hs5, hc5, hb_⟩
      have HS5 := Lib.hid hs5; have HC5 := Lib.hid hc5
      clear hs5 hc5
      obtain ⟨pl, hpl⟩ : ∃ q, q = pb.length := ⟨_, rfl⟩
      rw [← hpl] at HS5 HC5 HPL P2 ⊢
      clear hpl
      have hb_ := hb_
      clear hb_
      have HB_ := Lib.hid (HB.out.grow' hb_)
      clear HB
      have HB := HB_
      clear HB_
      have HX_ := Lib.hid (HX.out.grow hb_)
      clear HX
      have HX := HX_
      clear HX_
      have HY_ := Lib.hid (HY.out.grow hb_)
      clear HY
      have HY := HY_
      clear HY_
      have HW_ := Lib.hid (HW.out.grow hb_)
      clear HW
      have HW := HW_
      clear HW_
      have HI_ := Lib.hid (HI.out.grow hb_)
      clear HI
      have HI := HI_
      clear HI_
      have HT_ := Lib.hid (HT.out.grow hb_)
      clear HT
      have HT := HT_
      clear HT_
      have HI1_ := Lib.hid (HI1.out.grow hb_)
      clear HI1
      have HI1 := HI1_
      clear HI1_
      have HI2_ := Lib.hid (HI2.out.grow hb_)
      clear HI2
      have HI2 := HI2_
      clear HI2_
      clear hb_
      try clear w_
      rename World => w_
      go_wp2_with fail
      refine (R3.out _ _ _ _ HS5.out HPL.out).mono ?_
      rintro e w2_ ⟨A6, n6, c6, rfl, hi1, hn1, hb_⟩
      have HI6 := Lib.hid hi1; have HL6 := Lib.hid (show n6 ≤ 1000000 by omega)
      have HD6 := Lib.hid (cert_cl (v := .slice A6 n6 c6) rfl HO2.out)
      obtain ⟨zv, hzv⟩ : ∃ v, v = certV (.slice A6 n6 c6) zz := ⟨_, rfl⟩
      have S2a := Lib.hid (fun w A2 n2 c2 hn h1 h2 => S2.out w A6 n6 c6 A2 n2 c2 hn h1 h2)
      have S3a := Lib.hid (fun h0 w hn h1 h2 => S3.out h0 w A6 n6 c6 hn h1 h2)
      rw [← hzv] at HD6 S2a S3a ⊢
      clear hi1 hn1 hzv S2 S3 R3
      have hb_ := hb_
      clear hb_
      have HB_ := Lib.hid (HB.out.grow' hb_)
      clear HB
      have HB := HB_
      clear HB_
      have HX_ := Lib.hid (HX.out.grow hb_)
      clear HX
      have HX := HX_
      clear HX_
      have HY_ := Lib.hid (HY.out.grow hb_)
      clear HY
      have HY := HY_
      clear HY_
      have HW_ := Lib.hid (HW.out.grow hb_)
      clear HW
      have HW := HW_
      clear HW_
      have HI_ := Lib.hid (HI.out.grow hb_)
      clear HI
      have HI := HI_
      clear HI_
      have HT_ := Lib.hid (HT.out.grow hb_)
      clear HT
      have HT := HT_
      clear HT_
      have HI1_ := Lib.hid (HI1.out.grow hb_)
      clear HI1
      have HI1 := HI1_
      clear HI1_
      have HI2_ := Lib.hid (HI2.out.grow hb_)
      clear HI2
      have HI2 := HI2_
      clear HI2_
      have HS5_ := Lib.hid (HS5.out.grow hb_)
      clear HS5
      have HS5 := HS5_
      clear HS5_
      clear hb_
      try clear w_
      rename World => w_
      go_wp2_with (first | (with_reducible refine wpl_alloc (o := ⟨some 10, _, _, _, _, _⟩) rfl rfl zero_cert ?_))
      intro w1_ hb1_ hbw1_ hsz1_
      have HB1_ := Lib.hid (at_mk hb1_ len_cert)
      have HBW1_ := Lib.hid hbw1_
      have HZ1_ := Lib.hid hsz1_
      clear hb1_ hbw1_ hsz1_
      go_wp2_with (first | (with_reducible refine wpl_storeb (o := ⟨none, .store _ _ _, _, _, _, _⟩) rfl rfl row_cert HB1_.out.blk rfl rfl HB1_.out.len HD6.out.len HD6.out.one ?_))
      intro w2_ hb2_ hg2_ hsz2_
      have hb_ := var_grow HBW1_.out HZ1_.out hg2_
      have HX_ := Lib.hid (at_mk hb2_ HD6.out.len)
      clear hb2_ hg2_ hsz2_ HB1_ HBW1_ HZ1_
      have HB_ := Lib.hid (HB.out.grow' hb_)
      clear HB
      have HB := HB_
      clear HB_
      have HX_ := Lib.hid (HX.out.grow hb_)
      clear HX
      have HX := HX_
      clear HX_
      have HY_ := Lib.hid (HY.out.grow hb_)
      clear HY
      have HY := HY_
      clear HY_
      have HW_ := Lib.hid (HW.out.grow hb_)
      clear HW
      have HW := HW_
      clear HW_
      have HI_ := Lib.hid (HI.out.grow hb_)
      clear HI
      have HI := HI_
      clear HI_
      have HT_ := Lib.hid (HT.out.grow hb_)
      clear HT
      have HT := HT_
      clear HT_
      have HI1_ := Lib.hid (HI1.out.grow hb_)
      clear HI1
      have HI1 := HI1_
      clear HI1_
      have HI2_ := Lib.hid (HI2.out.grow hb_)
      clear HI2
      have HI2 := HI2_
      clear HI2_
      have HS5_ := Lib.hid (HS5.out.grow hb_)
      clear HS5
      have HS5 := HS5_
      clear HS5_
      have HI6_ := Lib.hid (HI6.out.grow hb_)
      clear HI6
      have HI6 := HI6_
      clear HI6_
      generalize hg_ : w_.heap.size = g10 at HX_ ⊢
      clear hg_
      have HZ := HX_
      clear hb_ HX_
      clear w1_
      try clear w_
      rename World => w_
      go_wp2_with (first | (with_reducible refine wpl_loadb (o := ⟨_, .load _ _, _, _, _, _⟩) rfl rfl row_cert HX.out.blk rfl HX.out.len ?_) | (with_reducible refine wpl_loadw (o := ⟨_, .load _ _, _, _, _, _⟩) (by first | rfl | (go_simp; done) | fail) rfl row_cert HX.out.blk rfl HX.out.len ?_))
      refine (P2.out _ (by have := K2.out; omega) HI.out).mono ?_
      rintro e w2_ ⟨A7, c7, rfl, hs7, hc7, hb_⟩
      have HS7 := Lib.hid hs7; have HC7 := Lib.hid hc7
      clear hs7 hc7
      have hb_ := hb_
      clear hb_
      have HB_ := Lib.hid (HB.out.grow' hb_)
      clear HB
      have HB := HB_
      clear HB_
      have HX_ := Lib.hid (HX.out.grow hb_)
      clear HX
      have HX := HX_
      clear HX_
      have HY_ := Lib.hid (HY.out.grow hb_)
      clear HY
      have HY := HY_
      clear HY_
      have HW_ := Lib.hid (HW.out.grow hb_)
      clear HW
      have HW := HW_
      clear HW_
      have HZ_ := Lib.hid (HZ.out.grow hb_)
      clear HZ
      have HZ := HZ_
      clear HZ_
      have HI_ := Lib.hid (HI.out.grow hb_)
      clear HI
      have HI := HI_
      clear HI_
      have HT_ := Lib.hid (HT.out.grow hb_)
      clear HT
      have HT := HT_
      clear HT_
      have HI1_ := Lib.hid (HI1.out.grow hb_)
      clear HI1
      have HI1 := HI1_
      clear HI1_
      have HI2_ := Lib.hid (HI2.out.grow hb_)
      clear HI2
      have HI2 := HI2_
      clear HI2_
      have HS5_ := Lib.hid (HS5.out.grow hb_)
      clear HS5
      have HS5 := HS5_
      clear HS5_
      have HI6_ := Lib.hid (HI6.out.grow hb_)
      clear HI6
      have HI6 := HI6_
      clear HI6_
      clear hb_
      try clear w_
      rename World => w_
      go_wp2_with fail
      refine (R4.out _ _ _ _ HS7.out HC7.out HPL.out).mono ?_
      rintro e w2_ ⟨A8, n8, c8, rfl, hi1, hn1, hb_⟩
      have HI8 := Lib.hid hi1
      have HD8 := Lib.hid (cert_cl (v := .slice A8 n8 c8) rfl HO2.out)
      obtain ⟨uv, huv⟩ : ∃ v, v = certV (.slice A8 n8 c8) zz := ⟨_, rfl⟩
      have S2b := Lib.hid (fun w hn h1 h2 => S2a.out w A8 n8 c8 hn h1 h2)
      rw [← huv] at HD8 S2b ⊢
      clear hi1 hn1 huv S2a R4 HS7 HC7
      have hb_ := hb_
      clear hb_
      have HB_ := Lib.hid (HB.out.grow' hb_)
      clear HB
      have HB := HB_
      clear HB_
      have HX_ := Lib.hid (HX.out.grow hb_)
      clear HX
      have HX := HX_
      clear HX_
      have HY_ := Lib.hid (HY.out.grow hb_)
      clear HY
      have HY := HY_
      clear HY_
      have HW_ := Lib.hid (HW.out.grow hb_)
      clear HW
      have HW := HW_
      clear HW_
      have HZ_ := Lib.hid (HZ.out.grow hb_)
      clear HZ
      have HZ := HZ_
      clear HZ_
      have HI_ := Lib.hid (HI.out.grow hb_)
      clear HI
      have HI := HI_
      clear HI_
      have HT_ := Lib.hid (HT.out.grow hb_)
      clear HT
      have HT := HT_
      clear HT_
      have HI1_ := Lib.hid (HI1.out.grow hb_)
      clear HI1
      have HI1 := HI1_
      clear HI1_
      have HI2_ := Lib.hid (HI2.out.grow hb_)
      clear HI2
      have HI2 := HI2_
      clear HI2_
      have HS5_ := Lib.hid (HS5.out.grow hb_)
      clear HS5
      have HS5 := HS5_
      clear HS5_
      have HI6_ := Lib.hid (HI6.out.grow hb_)
      clear HI6
      have HI6 := HI6_
      clear HI6_
      clear hb_
      try clear w_
      rename World => w_
      go_wp2_with (first | (with_reducible refine wpl_alloc (o := ⟨some 12, _, _, _, _, _⟩) rfl rfl zero_cert ?_))
      intro w1_ hb1_ hbw1_ hsz1_
      have HB1_ := Lib.hid (at_mk hb1_ len_cert)
      have HBW1_ := Lib.hid hbw1_
      have HZ1_ := Lib.hid hsz1_
      clear hb1_ hbw1_ hsz1_
      go_wp2_with (first | (with_reducible refine wpl_storeb (o := ⟨none, .store _ _ _, _, _, _, _⟩) rfl rfl row_cert HB1_.out.blk rfl rfl HB1_.out.len HD8.out.len HD8.out.one ?_))
      intro w2_ hb2_ hg2_ hsz2_
      have hb_ := var_grow HBW1_.out HZ1_.out hg2_
      have HX_ := Lib.hid (at_mk hb2_ HD8.out.len)
      clear hb2_ hg2_ hsz2_ HB1_ HBW1_ HZ1_
      have HB_ := Lib.hid (HB.out.grow' hb_)
      clear HB
      have HB := HB_
      clear HB_
      have HX_ := Lib.hid (HX.out.grow hb_)
      clear HX
      have HX := HX_
      clear HX_
      have HY_ := Lib.hid (HY.out.grow hb_)
      clear HY
      have HY := HY_
      clear HY_
      have HW_ := Lib.hid (HW.out.grow hb_)
      clear HW
      have HW := HW_
      clear HW_
      have HZ_ := Lib.hid (HZ.out.grow hb_)
      clear HZ
      have HZ := HZ_
      clear HZ_
      have HI_ := Lib.hid (HI.out.grow hb_)
      clear HI
      have HI := HI_
      clear HI_
      have HT_ := Lib.hid (HT.out.grow hb_)
      clear HT
      have HT := HT_
      clear HT_
      have HI1_ := Lib.hid (HI1.out.grow hb_)
      clear HI1
      have HI1 := HI1_
      clear HI1_
      have HI2_ := Lib.hid (HI2.out.grow hb_)
      clear HI2
      have HI2 := HI2_
      clear HI2_
      have HS5_ := Lib.hid (HS5.out.grow hb_)
      clear HS5
      have HS5 := HS5_
      clear HS5_
      have HI6_ := Lib.hid (HI6.out.grow hb_)
      clear HI6
      have HI6 := HI6_
      clear HI6_
      have HI8_ := Lib.hid (HI8.out.grow hb_)
      clear HI8
      have HI8 := HI8_
      clear HI8_
      generalize hg_ : w_.heap.size = g12 at HX_ ⊢
      clear hg_
      have HU := HX_
      clear hb_ HX_
      clear w1_
      try clear w_
      rename World => w_
      go_wp2_with (first | (with_reducible refine wpl_loadb (o := ⟨_, .load _ _, _, _, _, _⟩) rfl rfl row_cert HY.out.blk rfl HY.out.len ?_) | (with_reducible refine wpl_loadw (o := ⟨_, .load _ _, _, _, _, _⟩) (by first | rfl | (go_simp; done) | fail) rfl row_cert HY.out.blk rfl HY.out.len ?_) | (with_reducible refine wpl_loadb (o := ⟨_, .load _ _, _, _, _, _⟩) rfl rfl row_cert HW.out.blk rfl HW.out.len ?_) | (with_reducible refine wpl_loadw (o := ⟨_, .load _ _, _, _, _, _⟩) (by first | rfl | (go_simp; done) | fail) rfl row_cert HW.out.blk rfl HW.out.len ?_))
      refine (S1b.out _ HL1.out HI1.out HI2.out).mono ?_
      clear S1b HY HW HI1 HI2
      rintro e w_ ⟨rfl, hb_⟩
      have HB_ := Lib.hid (HB.out.grow' hb_)
      clear HB
      have HB := HB_
      clear HB_
      have HX_ := Lib.hid (HX.out.grow hb_)
      clear HX
      have HX := HX_
      clear HX_
      have HZ_ := Lib.hid (HZ.out.grow hb_)
      clear HZ
      have HZ := HZ_
      clear HZ_
      have HU_ := Lib.hid (HU.out.grow hb_)
      clear HU
      have HU := HU_
      clear HU_
      have HI_ := Lib.hid (HI.out.grow hb_)
      clear HI
      have HI := HI_
      clear HI_
      have HT_ := Lib.hid (HT.out.grow hb_)
      clear HT
      have HT := HT_
      clear HT_
      have HS5_ := Lib.hid (HS5.out.grow hb_)
      clear HS5
      have HS5 := HS5_
      clear HS5_
      have HI6_ := Lib.hid (HI6.out.grow hb_)
      clear HI6
      have HI6 := HI6_
      clear HI6_
      have HI8_ := Lib.hid (HI8.out.grow hb_)
      clear HI8
      have HI8 := HI8_
      clear HI8_
      clear hb_
      go_wp2_with (first | (with_reducible refine wpl_loadb (o := ⟨_, .load _ _, _, _, _, _⟩) rfl rfl row_cert HX.out.blk rfl HX.out.len ?_) | (with_reducible refine wpl_loadw (o := ⟨_, .load _ _, _, _, _, _⟩) (by first | rfl | (go_simp; done) | fail) rfl row_cert HX.out.blk rfl HX.out.len ?_))
      refine (P2.out _ (by have := K2.out; omega) HI.out).mono ?_
      rintro e w2_ ⟨A9, c9, rfl, hs9, hc9, hb_⟩
      have HS9 := Lib.hid hs9
      clear hs9 hc9
      have hb_ := hb_
      clear hb_
      have HB_ := Lib.hid (HB.out.grow' hb_)
      clear HB
      have HB := HB_
      clear HB_
      have HX_ := Lib.hid (HX.out.grow hb_)
      clear HX
      have HX := HX_
      clear HX_
      have HZ_ := Lib.hid (HZ.out.grow hb_)
      clear HZ
      have HZ := HZ_
      clear HZ_
      have HU_ := Lib.hid (HU.out.grow hb_)
      clear HU
      have HU := HU_
      clear HU_
      have HI_ := Lib.hid (HI.out.grow hb_)
      clear HI
      have HI := HI_
      clear HI_
      have HT_ := Lib.hid (HT.out.grow hb_)
      clear HT
      have HT := HT_
      clear HT_
      have HS5_ := Lib.hid (HS5.out.grow hb_)
      clear HS5
      have HS5 := HS5_
      clear HS5_
      have HI6_ := Lib.hid (HI6.out.grow hb_)
      clear HI6
      have HI6 := HI6_
      clear HI6_
      have HI8_ := Lib.hid (HI8.out.grow hb_)
      clear HI8
      have HI8 := HI8_
      clear HI8_
      clear hb_
      try clear w_
      rename World => w_
      go_wp2_with fail
      refine (bytes1_any (res := true) (by simp) _ HS5.out HS9.out HPL.out).mono ?_
      clear HS5 HS9
      rintro e w_ ⟨rfl, hb_⟩
      have HB_ := Lib.hid (HB.out.grow' hb_)
      clear HB
      have HB := HB_
      clear HB_
      have HX_ := Lib.hid (HX.out.grow hb_)
      clear HX
      have HX := HX_
      clear HX_
      have HZ_ := Lib.hid (HZ.out.grow hb_)
      clear HZ
      have HZ := HZ_
      clear HZ_
      have HU_ := Lib.hid (HU.out.grow hb_)
      clear HU
      have HU := HU_
      clear HU_
      have HI_ := Lib.hid (HI.out.grow hb_)
      clear HI
      have HI := HI_
      clear HI_
      have HT_ := Lib.hid (HT.out.grow hb_)
      clear HT
      have HT := HT_
      clear HT_
      have HI6_ := Lib.hid (HI6.out.grow hb_)
      clear HI6
      have HI6 := HI6_
      clear HI6_
      have HI8_ := Lib.hid (HI8.out.grow hb_)
      clear HI8
      have HI8 := HI8_
      clear HI8_
      clear hb_
      go_wp2_with (first | (with_reducible refine wpl_loadb (o := ⟨_, .load _ _, _, _, _, _⟩) rfl rfl row_cert HZ.out.blk rfl HZ.out.len ?_) | (with_reducible refine wpl_loadw (o := ⟨_, .load _ _, _, _, _, _⟩) (by first | rfl | (go_simp; done) | fail) rfl row_cert HZ.out.blk rfl HZ.out.len ?_) | (with_reducible refine wpl_loadb (o := ⟨_, .load _ _, _, _, _, _⟩) rfl rfl row_cert HU.out.blk rfl HU.out.len ?_) | (with_reducible refine wpl_loadw (o := ⟨_, .load _ _, _, _, _, _⟩) (by first | rfl | (go_simp; done) | fail) rfl row_cert HU.out.blk rfl HU.out.len ?_))
      refine (S2b.out _ HL6.out HI6.out HI8.out).mono ?_
      clear S2b HU HI8
      rintro e w_ ⟨rfl, hb_⟩
      have HB_ := Lib.hid (HB.out.grow' hb_)
      clear HB
      have HB := HB_
      clear HB_
      have HX_ := Lib.hid (HX.out.grow hb_)
      clear HX
      have HX := HX_
      clear HX_
      have HZ_ := Lib.hid (HZ.out.grow hb_)
      clear HZ
      have HZ := HZ_
      clear HZ_
      have HI_ := Lib.hid (HI.out.grow hb_)
      clear HI
      have HI := HI_
      clear HI_
      have HT_ := Lib.hid (HT.out.grow hb_)
      clear HT
      have HT := HT_
      clear HT_
      have HI6_ := Lib.hid (HI6.out.grow hb_)
      clear HI6
      have HI6 := HI6_
      clear HI6_
      clear hb_
      by_cases hg0 : gg = 0
      · have HSAME := Lib.hid (HSN.out hg0)
        subst hg0
        go_wp2_with (first | (with_reducible refine wpl_loadb (o := ⟨_, .load _ _, _, _, _, _⟩) rfl rfl row_cert HX.out.blk rfl HX.out.len ?_) | (with_reducible refine wpl_loadw (o := ⟨_, .load _ _, _, _, _, _⟩) (by first | rfl | (go_simp; done) | fail) rfl row_cert HX.out.blk rfl HX.out.len ?_) | (with_reducible refine wpl_loadb (o := ⟨_, .load _ _, _, _, _, _⟩) rfl rfl row_cert HZ.out.blk rfl HZ.out.len ?_) | (with_reducible refine wpl_loadw (o := ⟨_, .load _ _, _, _, _, _⟩) (by first | rfl | (go_simp; done) | fail) rfl row_cert HZ.out.blk rfl HZ.out.len ?_))
        refine (S3a.out HSAME.out _ HL6.out HI6.out HI.out).mono ?_
        rintro e w_ ⟨rfl, hb_⟩
        have HB_ := Lib.hid (HB.out.grow' hb_)
        clear HB
        have HB := HB_
        clear HB_
        have HT_ := Lib.hid (HT.out.grow hb_)
        clear HT
        have HT := HT_
        clear HT_
        clear hb_
        go_wp2_with fail
        refine (awake11_any _ HT.out).mono ?_
        rintro e w_ ⟨rfl, hb_⟩
        have HB_ := Lib.hid (HB.out.grow' hb_)
        clear HB
        have HB := HB_
        clear HB_
        clear hb_
        go_wp2_with fail
        go_ret
        exact ⟨rfl, HB.out⟩
      · have d0 : ((gg : Int) != 0) = true := by simp; omega
        go_wp2_with fail
        refine (awake11_any _ HT.out).mono ?_
        rintro e w_ ⟨rfl, hb_⟩
        have HB_ := Lib.hid (HB.out.grow' hb_)
        clear HB
        have HB := HB_
        clear HB_
        clear hb_
        go_wp2_with fail
        go_ret
        exact ⟨rfl, HB.out⟩
  · have g1 : decide (600 < (n : Int)) = true := by simp; omega
    clear HN2 HPP HSM P1 P2 R1 R2 R3 R4 S1 S2 S3
    go_enter Tryd.func14, Tryd.ntmps14
    go_wp2_with (first | (with_reducible refine wpl_box (o := ⟨some 2, _, _, _, _, _⟩) rfl rfl rfl ?_))
    intro w2_ hb2_ hb_ hsz2_
    have HX_ := Lib.hid (at_mk hb2_ HD.out.len)
    clear hb2_ hsz2_
    have HB_ := Lib.hid (HB.out.grow' hb_)
    clear HB
    have HB := HB_
    clear HB_
    have HT_ := Lib.hid (HT.out.grow hb_)
    clear HT
    have HT := HT_
    clear HT_
    have HX := HX_
    clear hb_ HX_
    try clear w_
    rename World => w_
    go_wp2_with (first | (with_reducible refine wpl_loadb (o := ⟨_, .load _ _, _, _, _, _⟩) rfl rfl row_cert HX.out.blk rfl HX.out.len ?_) | (with_reducible refine wpl_loadw (o := ⟨_, .load _ _, _, _, _, _⟩) (by first | rfl | (go_simp; done) | fail) rfl row_cert HX.out.blk rfl HX.out.len ?_))
    refine (G2.out _).mono ?_
    rintro e w_ ⟨rfl, hb_⟩
    have HB_ := Lib.hid (HB.out.grow' hb_)
    clear HB
    have HB := HB_
    clear HB_
    have HT_ := Lib.hid (HT.out.grow hb_)
    clear HT
    have HT := HT_
    clear HT_
    clear hb_
    cases b2 with
    | true =>
      go_wp2_with fail
      refine (awake11_any _ HT.out).mono ?_
      rintro e w_ ⟨rfl, hb_⟩
      have HB_ := Lib.hid (HB.out.grow' hb_)
      clear HB
      have HB := HB_
      clear HB_
      clear hb_
      go_wp2_with fail
      go_ret
      exact ⟨rfl, HB.out⟩
    | false =>
      go_wp2_with fail
      refine (awake11_any _ HT.out).mono ?_
      rintro e w_ ⟨rfl, hb_⟩
      have HB_ := Lib.hid (HB.out.grow' hb_)
      clear HB
      have HB := HB_
      clear HB_
      clear hb_
      go_wp2_with fail
      go_ret
      exact ⟨rfl, HB.out⟩
theorem certForms_walk (A2 : Option Addr) (n2 c2 : Nat) (x : Cer) (A : Option Addr) (n c : Nat) (bs : List UInt8) (w : World) (hx : x.ok) (hi : Ids w A2 n2 c2 x.path) (hm2 : c2 ≤ maxLen) (hs : Sl w w.heap.size 1 A n (bs.map B)) (hc : n ≤ c) (hm : c ≤ maxLen) (ht : Tabs w) :
    Calls Tryd.prog 14 #[.agg (certV (.slice A2 n2 c2) x).toArray, .slice A n c] w fun e w' => e = .returned (.bool true) ∧ Below w.heap.size w w' := certForms_any A2 n2 c2 x A n c bs w hx hi hs hc ht
end Go.Proofs.YtphmefhnffoafaaDoor

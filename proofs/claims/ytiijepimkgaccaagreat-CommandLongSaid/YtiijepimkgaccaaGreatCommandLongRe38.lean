/- The contract of the document's Put of a certificate; its row is its own. Turned out of XCertI. -/
import Derived.Test.YtiijepimkgaccaaGreatCommandLongRe37
set_option linter.unusedSimpArgs false
set_option linter.unusedVariables false
set_option maxRecDepth 100000
set_option maxHeartbeats 16000000
namespace Go.Proofs.YtiijepimkgaccaaGreat
open Go.RowKit Go.Shelf
theorem rcputo_any {A2 : Option Addr} {n2 c2 : Nat} {x : Cer} (w : World) (hx : x.ok) (hn : n2 ≤ 1000) (hi : Ids w A2 n2 c2 x.path) :
  Calls Tryz.prog 32 #[.agg (certV (.slice A2 n2 c2) x).toArray] w fun e w' => ∃ A' c', e = .returned (.slice A' (putCB x).length c') ∧ OwnAt w' w.heap.size A' (putCB x).length c' ((putCB x).map B) ∧ (putCB x).length ≤ c' ∧ Below w.heap.size w w' := by
 have HI := kp hi;have HB := kp (Below.refl w.heap.size w);have HE := kp (fun w => reright_any x.e w hx.1); have HH := kp (fun w => rhright_any x.h w hx.2.2.1);have HPE := kp (fun w h => reput_any x.e w hx.1 h); have HPH := kp (fun w h => rhput_any x.h w hx.2.2.1 h);have LEB := kp (eformB_le hx.1); have LHB := kp (hformB_le hx.2.2.1);have HD := kp (cert_cl (v := .slice A2 n2 c2) rfl hx);have LE := kp (entV_length hx.1); have LH := kp (hdrV_length hx.2.2.1);have DT := kp (dig_map hx.2.2.2);have IA := kp (cert_ats (v := .slice A2 n2 c2) hx);have ME := kp (fun w g t hb => midCE (c := x) (v := .slice A2 n2 c2) (w := w) (g := g) (t := t) hb);have MH := kp (fun w g t hb => midCH (c := x) (v := .slice A2 n2 c2) (w := w) (g := g) (t := t) hx hb);have MT := kp (fun w g t hb => midCT (c := x) (v := .slice A2 n2 c2) (w := w) (g := g) (t := t) hx hb);have HNL := kp hi.2.1
 have HFL := kp (show ∀ k, k ≤ n2 → ((x.path.take k).flatten).length = k * 32 from fun k hk => by
  have h := flat_32 (x.path.take k) (fun d hd => hx.2.1 d (List.mem_of_mem_take hd))
  rw [h, List.length_take, hi.2.1, Nat.min_eq_left hk])
 obtain ⟨re, hre⟩ := xe (rightE x.e);obtain ⟨rh, hrh⟩ := xe (rightH x.h);have HF1 := kq (re = true → eformB x.e = putEB x.e) (fun h => by rw [hre] at h; unfold eformB; rw [if_pos h]);have HF2 := kq (re = false → eformB x.e = []) (fun h => by rw [hre] at h; unfold eformB; rw [if_neg (by simp [h])]);have HF3 := kq (rh = true → hformB x.h = putHB x.h) (fun h => by rw [hrh] at h; unfold hformB; rw [if_pos h]);have HF4 := kq (rh = false → hformB x.h = []) (fun h => by rw [hrh] at h; unfold hformB; rw [if_neg (by simp [h])]);rw [← hre] at HE HPE; rw [← hrh] at HH HPH;obtain ⟨eb, heb⟩ := xe (eformB x.e);obtain ⟨hb, hhb⟩ := xe (hformB x.h);obtain ⟨ps, hps⟩ := xe x.path;obtain ⟨tg, htg⟩ := xe x.tag;have HPUT := kq (putCB x = numB eb.length ++ eb ++ numB ps.length ++ ps.flatten ++ numB hb.length ++ hb ++ tg) (by rw [heb, hhb, hps, htg]; rfl);obtain ⟨out, hout⟩ := xe (putCB x);rw [← hout] at HPUT ⊢;rw [← heb] at LEB HF1 HF2;rw [← hhb] at LHB HF3 HF4;rw [← hps] at HI HNL HFL;rw [← htg] at DT MT;obtain ⟨ne, hne⟩ := xe eb.length;obtain ⟨nh, hnh⟩ := xe hb.length;have HNE := kp hne; have HNH := kp hnh;rw [← hne] at LEB HPUT;rw [← hnh] at LHB HPUT;rw [HNL.o] at HPUT;obtain ⟨xv, hxv⟩ := xe (certV (.slice A2 n2 c2) x);obtain ⟨ev, hev⟩ := xe (entV x.e);obtain ⟨hv, hhv⟩ := xe (hdrV x.h);obtain ⟨tv, htv⟩ := xe (tg.map B);rw [← hxv] at HD IA ME MH MT ⊢;rw [← hev] at HE HPE LE ME;rw [← hhv] at HH HPH LH MH;rw [← htv] at DT MT;have lne := LEB.o; have lnh := LHB.o;obtain ⟨me, hme⟩ := xe ((numB ne).length);obtain ⟨mh, hmh⟩ := xe ((numB nh).length);obtain ⟨mn, hmn⟩ := xe ((numB n2).length);have le9 : me ≤ 9 := by rw [hme]; exact numB_le (by omega)
 have lh9 : mh ≤ 9 := by rw [hmh]; exact numB_le (by omega)
 have ln9 : mn ≤ 9 := by rw [hmn]; exact numB_le (by omega)
 have HME := kp hme; have HMH := kp hmh; have HMN := kp hmn;have HRE := kp (fun w => rnum_any ne w (by omega)); have HRH := kp (fun w => rnum_any nh w (by omega)); have HRN := kp (fun w => rnum_any n2 w (by omega));rw [← hme] at HRE; rw [← hmh] at HRH; rw [← hmn] at HRN;have HA1 := kp (all_bytes eb); have HA2 := kp (all_bytes hb); have HA3 := kp (all_bytes (numB nh)); have HA4 := kp (all_bytes (numB n2)); have HA5 := kp (all_bytes tg);have HTG := kp DT.o;clear hi hx hre hrh heb hhb hps htg hout hne hnh hxv hev hhv htv hme hmh hmn
 go_enter Tryz.func32, Tryz.ntmps32
 go_wp2_with (with_reducible refine wbx 1 ?_);intro v_ b_ y_ hsz2_;have HX_ := kp (at_mk b_ HD.o.len);clear b_ hsz2_;replace HB := kp (HB.o.grow' y_);replace HI := kp (HI.o.grow y_);have HX := HX_;clear y_ HX_;try clear w_
 rename World => w_;have FME := kp (ME.o _ _ _ HX.o.blk);go_wp2_with (with_reducible refine wlm 8 row_entry FME.o LE.o ?_);refine (HE.o _).mono ?_;rintro e v_ ⟨rfl, y_⟩;clear FME HE;have y_ := y_;clear y_;replace HB := kp (HB.o.grow' y_);replace HX := kp (HX.o.grow y_);replace HI := kp (HI.o.grow y_);clear y_;try clear w_
 rename World => w_
 go_upto_if 9 with fail
 go_cut [3] from 7 (fun s3 wr => ∃ A3 c3, s3 = .slice A3 ne c3 ∧ Hid (Sl wr wr.heap.size 1 A3 ne (eb.map B) ∧ At wr w.heap.size 43 137 xv ∧ Ids wr A2 n2 c2 ps ∧ Below w.heap.size w wr))
 case first =>
  cases re with
  | false =>
   have h0 := HF2.o (by first | trivial | rfl);have h1 := HNE.o;rw [h0] at h1;have HZ0 := kq (Sl w_ w_.heap.size 1 none ne (eb.map B)) (by rw [h0, h1]; exact Sl.nil);have h1 : ne = 0 := h1;have HN0 := kp h1;clear h0 h1;go_wp2_with fail
   go_meet
   case rel => exact ⟨none, 0, by rw [HN0.o], kp ⟨HZ0.o, HX.o, HI.o, HB.o⟩⟩
  | true =>
   have FME := kp (ME.o _ _ _ HX.o.blk);go_wp2_with (with_reducible refine wlm 11 row_entry FME.o LE.o ?_);refine (HPE.o _ (by first | trivial | rfl)).mono ?_;rintro e v_ ⟨A3, c3, rfl, hs3, hc3, y_⟩;have h0 := HF1.o (by first | trivial | rfl);have HLE := kq ((putEB x.e).length = ne) (by rw [HNE.o, h0]);rw [HLE.o] at hs3 ⊢;have HS3 := kq (Sl v_ v_.heap.size 1 A3 ne (eb.map B)) (by rw [h0]; exact hs3);clear hs3 hc3 FME h0;have y_ := y_;clear y_;replace HB := kp (HB.o.grow' y_);replace HX := kp (HX.o.grow y_);replace HI := kp (HI.o.grow y_);clear y_;try clear w_
   rename World => w_;go_wp2_with fail
   go_meet
   case rel => exact ⟨A3, c3, rfl, kp ⟨HS3.o, HX.o, HI.o, HB.o⟩⟩
 case rest =>
  obtain ⟨A3, c3, rfl, hI⟩ := hcut;clear HX HI HB;have HS3 := kp hI.o.1; have HX := kp hI.o.2.1; have HI := kp hI.o.2.2.1; have HB := kp hI.o.2.2.2;clear hI;try clear w_
  rename World => w_;have FMH := kp (MH.o _ _ _ HX.o.blk);go_wp2_with (with_reducible refine wlm 14 row_header FMH.o LH.o ?_);refine (HH.o _).mono ?_;rintro e v_ ⟨rfl, y_⟩;clear FMH HH;have y_ := y_;clear y_;replace HB := kp (HB.o.grow' y_);replace HX := kp (HX.o.grow y_);replace HI := kp (HI.o.grow y_);replace HS3 := kp (HS3.o.grow y_);clear y_;try clear w_
  rename World => w_
  go_upto_if 15 with fail
  go_cut [4] from 7 (fun s4 wr => ∃ A4 c4, s4 = .slice A4 nh c4 ∧ Hid (Sl wr wr.heap.size 1 A4 nh (hb.map B) ∧ Sl wr wr.heap.size 1 A3 ne (eb.map B) ∧ At wr w.heap.size 43 137 xv ∧ Ids wr A2 n2 c2 ps ∧ Below w.heap.size w wr))
  case first =>
   cases rh with
   | false =>
    have h0 := HF4.o (by first | trivial | rfl);have h1 := HNH.o;rw [h0] at h1;have HZ0 := kq (Sl w_ w_.heap.size 1 none nh (hb.map B)) (by rw [h0, h1]; exact Sl.nil);have h1 : nh = 0 := h1;have HN0 := kp h1;clear h0 h1;go_wp2_with fail
    go_meet
    case rel => exact ⟨none, 0, by rw [HN0.o], kp ⟨HZ0.o, HS3.o, HX.o, HI.o, HB.o⟩⟩
   | true =>
    have FMH := kp (MH.o _ _ _ HX.o.blk);go_wp2_with (with_reducible refine wlm 17 row_header FMH.o LH.o ?_);refine (HPH.o _ (by first | trivial | rfl)).mono ?_;rintro e v_ ⟨A4, c4, rfl, hs4, hc4, y_⟩;have h0 := HF3.o (by first | trivial | rfl);have HLE := kq ((putHB x.h).length = nh) (by rw [HNH.o, h0]);rw [HLE.o] at hs4 ⊢;have HS4 := kq (Sl v_ v_.heap.size 1 A4 nh (hb.map B)) (by rw [h0]; exact hs4);clear hs4 hc4 FMH h0;have y_ := y_;clear y_;replace HB := kp (HB.o.grow' y_);replace HX := kp (HX.o.grow y_);replace HI := kp (HI.o.grow y_);replace HS3 := kp (HS3.o.grow y_);clear y_;try clear w_
    rename World => w_;go_wp2_with fail
    go_meet
    case rel => exact ⟨A4, c4, rfl, kp ⟨HS4.o, HS3.o, HX.o, HI.o, HB.o⟩⟩
  case rest =>
   obtain ⟨A4, c4, rfl, hI⟩ := hcut;clear HX HI HB HS3;have HS4 := kp hI.o.1; have HS3 := kp hI.o.2.1; have HX := kp hI.o.2.2.1; have HI := kp hI.o.2.2.2.1; have HB := kp hI.o.2.2.2.2;clear hI;try clear w_
   rename World => w6;obtain ⟨Z, hZ⟩ := xe w6.heap.size;have HZ := kp hZ;clear hZ;have q1 := conv_u64' (n := ne) (by omega);go_wp2_with fail;refine (HRE.o _).mono ?_;rintro e w_ ⟨A5, c5, rfl, ho_, hc_, y_⟩;have HO := kq (OwnAt w_ Z A5 me c5 ((numB ne).map B)) (by rw [HZ.o]; exact ho_);have HG := kq (Grow w6 w_) y_;clear ho_ hc_ y_ q1;have HSL := kp (HS3.o.grow HG.o);have HZB := kq (Z ≤ w_.heap.size) (by rw [HZ.o]; exact HG.o.size);go_wp2_with (at_builtin; refine wpl_apps rfl rfl el_u8 HO.o rfl HSL.o rfl HA1.o (by omega) (by omega) HZB.o ?_);intro A6 c6 w3_ ho_ hg_ hA_;have hst := acc_step HG.o HZ.o HO.o ho_ hg_;obtain ⟨k1, hk1⟩ := xe (me + ne);obtain ⟨a1, ha1⟩ := xe (numB ne ++ eb);have hk1b : k1 ≤ 100 := by omega
   rw [← hk1, ← ha1] at hst;rw [← hk1];have HK1 := kp ha1;have HO_ := kp hst.1; have HG_ := kp hst.2;clear ho_ hg_ hA_ hst hk1 ha1 HO HG HSL HZB;have HO := HO_; have HG := HG_;clear HO_ HG_;try clear w_
   rename World => w_;have c37 := (HX.o.grow HG.o).blk.at_ IA.o.2.2.2.1;have q1 := conv_u64' (n := n2) (by omega);go_wp2_with fail;refine (HRN.o _).mono ?_;rintro e v_ ⟨A7, c7, rfl, ho_, hc_, y_⟩;have HSL := kp (Sl.of_own ho_);replace HO := kq (OwnAt v_ Z A6 k1 c6 (a1.map B)) (HO.o.grow y_);replace HG := kp (HG.o.grow' y_);clear ho_ hc_ y_ q1 c37;try clear w_
   rename World => w_;have HZB := kq (Z ≤ w_.heap.size) (by rw [HZ.o]; exact HG.o.size);go_wp2_with (at_builtin; refine wpl_apps rfl rfl el_u8 HO.o rfl HSL.o rfl HA4.o (by omega) (by omega) HZB.o ?_);intro A8 c8 w3_ ho_ hg_ hA_;have hst := acc_step HG.o HZ.o HO.o ho_ hg_;obtain ⟨k2, hk2⟩ := xe (k1 + mn);obtain ⟨a2, ha2⟩ := xe (a1 ++ numB n2);have hk2b : k2 ≤ 110 := by omega
   rw [← hk2, ← ha2] at hst;rw [← hk2];have HK2 := kp ha2;have HO_ := kp hst.1; have HG_ := kp hst.2;clear ho_ hg_ hA_ hst hk2 ha2 HO HG HSL HZB;have HO := HO_; have HG := HG_;clear HO_ HG_;try clear w_
   rename World => w_;go_wp2_with fail;go_loopw [5, 6] (fun s5 iv wr => ∃ k : Nat, ∃ A' c', k ≤ n2 ∧ iv = .int .i64 k ∧ s5 = .slice A' (k2 + k * 32) c' ∧ Hid (OwnAt wr Z A' (k2 + k * 32) c' ((a2 ++ (ps.take k).flatten).map B)) ∧ Hid (Grow w6 wr)) (fun _ iv _ => n2 - (intOf iv).toNat)
   case atStart => exact ⟨0, A8, c8, by omega, rfl, by simp, kp (by simpa using HO.o), HG⟩
   case round =>
    obtain ⟨k, A9, c9, hk, rfl, rfl, hO, hG⟩ := hrel;clear HO HG;have HO := kp hO.o; have HG := kp hG.o;clear hO hG;rename World => w_;have c37 := (HX.o.grow HG.o).blk.at_ IA.o.2.2.2.1;by_cases hlt : k < n2
    ·obtain ⟨b, off, d, rfl, hd, hd32, hbz, hcell⟩ := (HI.o.grow HG.o).key hlt;have HSN := kp (flat_take hd);have HC := kp hcell;have HDG := kp (dig_map hd32);have HAD := kp (all_bytes d);obtain ⟨dv, hdv⟩ := xe (d.map B);have HDV := kp hdv;rw [← hdv] at HC HDG;obtain ⟨xs, hxs⟩ := xe (a2 ++ (ps.take k).flatten);have HXS := kp hxs;rw [← hxs] at HO;obtain ⟨kk, hkk⟩ := xe (k2 + k * 32);have hkb : kk ≤ 33000 := by omega
     have HKK := kp hkk;rw [← hkk] at HO ⊢;clear hd hd32 hbz hcell hdv hxs hkk;go_wp2_with (with_reducible refine wlm 44 row_id HC.o HDG.o.len ?_);refine (tbytes_any HDG.o _).mono ?_;rintro e v_ ⟨A7, c7, rfl, hs_, hc_, y_⟩;have HSL := kp hs_;replace HO := kq (OwnAt v_ Z A9 kk c9 (xs.map B)) (HO.o.grow y_);replace HG := kp (HG.o.grow' y_);clear hs_ hc_ y_ c37 HC;have HZB := kq (Z ≤ v_.heap.size) (by rw [HZ.o]; exact HG.o.size);go_wp2_with (at_builtin; refine wpl_apps rfl rfl el_u8 HO.o rfl HSL.o rfl HAD.o (by omega) (by omega) HZB.o ?_);intro A10 c10 w3_ ho_ hg_ hA_;have hst := acc_step HG.o HZ.o HO.o ho_ hg_
     have HO_ := kp (show OwnAt w3_ Z A10 (k2 + (k + 1) * 32) c10 ((a2 ++ (ps.take (k + 1)).flatten).map B) by
      rw [HSN.o, ← List.append_assoc, ← HXS.o, show k2 + (k + 1) * 32 = kk + 32 by have := HKK.o; omega]; exact hst.1)
     have HG_ := kp hst.2;have HNN := kq (kk + 32 = k2 + (k + 1) * 32) (by have := HKK.o; omega);clear ho_ hg_ hA_ hst HO HG HSL HZB;rw [HNN.o];go_wp2_with fail;go_roundw
     case rel => exact ⟨k + 1, A10, c10, by omega, by go_num, rfl, HO_, HG_⟩
     case measure => simp [intOf]; omega
    ·obtain rfl : k = n2 := by omega
     have hfl := HFL.o k (Nat.le_refl _);rw [List.take_of_length_le (by rw [HNL.o]; exact Nat.le_refl _)] at hfl;obtain ⟨a3, ha3⟩ := xe (a2 ++ ps.flatten);obtain ⟨k3, hk3⟩ := xe (k2 + k * 32);have hk3b : k3 ≤ 33000 := by omega
     have HK3 := kp ha3;have HO_ := kq (OwnAt w_ Z A9 k3 c9 (a3.map B)) (by have h := HO.o; rw [List.take_of_length_le (by rw [HNL.o]; exact Nat.le_refl _), ← ha3, ← hk3] at h; exact h);rw [← hk3];clear ha3 hk3 hfl HO;have HO := HO_;clear HO_;have q1 := conv_u64' (n := nh) (by omega);go_wp2_with fail;refine (HRH.o _).mono ?_;rintro e v_ ⟨A7, c7, rfl, ho_, hc_, y_⟩;have HSL := kp (Sl.of_own ho_);replace HO := kq (OwnAt v_ Z A9 k3 c9 (a3.map B)) (HO.o.grow y_);replace HG := kp (HG.o.grow' y_);clear ho_ hc_ y_ q1 c37;try clear w_
     rename World => w_;have HZB := kq (Z ≤ w_.heap.size) (by rw [HZ.o]; exact HG.o.size);go_wp2_with (at_builtin; refine wpl_apps rfl rfl el_u8 HO.o rfl HSL.o rfl HA3.o (by omega) (by omega) HZB.o ?_);intro A10 c10 w3_ ho_ hg_ hA_;have hst := acc_step HG.o HZ.o HO.o ho_ hg_;obtain ⟨k4, hk4⟩ := xe (k3 + mh);obtain ⟨a4, ha4⟩ := xe (a3 ++ numB nh);have hk4b : k4 ≤ 34000 := by omega
     rw [← hk4, ← ha4] at hst;rw [← hk4];have HK4 := kp ha4;have HO_ := kp hst.1; have HG_ := kp hst.2;clear ho_ hg_ hA_ hst hk4 ha4 HO HG HSL HZB;have HO := HO_; have HG := HG_;clear HO_ HG_;try clear w_
     rename World => w_;have HSL := kp (HS4.o.grow HG.o);have HZB := kq (Z ≤ w_.heap.size) (by rw [HZ.o]; exact HG.o.size);go_wp2_with (at_builtin; refine wpl_apps rfl rfl el_u8 HO.o rfl HSL.o rfl HA2.o (by omega) (by omega) HZB.o ?_);intro A11 c11 w3_ ho_ hg_ hA_;have hst := acc_step HG.o HZ.o HO.o ho_ hg_;obtain ⟨k5, hk5⟩ := xe (k4 + nh);obtain ⟨a5, ha5⟩ := xe (a4 ++ hb);have hk5b : k5 ≤ 35000 := by omega
     rw [← hk5, ← ha5] at hst;rw [← hk5];have HK5 := kp ha5;have HO_ := kp hst.1; have HG_ := kp hst.2;clear ho_ hg_ hA_ hst hk5 ha5 HO HG HSL HZB;have HO := HO_; have HG := HG_;clear HO_ HG_;try clear w_
     rename World => w_;have FMT := kp (MT.o _ _ _ (HX.o.grow HG.o).blk);go_wp2_with (with_reducible refine wlm 58 row_aid FMT.o DT.o.len ?_);refine (tbytes_any DT.o _).mono ?_;rintro e v_ ⟨A12, c12, rfl, hs_, hc_, y_⟩;have HSL := kp hs_;replace HO := kq (OwnAt v_ Z A11 k5 c11 (a5.map B)) (HO.o.grow y_);replace HG := kp (HG.o.grow' y_);clear hs_ hc_ y_ FMT;try clear w_
     rename World => w_;have HZB := kq (Z ≤ w_.heap.size) (by rw [HZ.o]; exact HG.o.size);go_wp2_with (at_builtin; refine wpl_apps rfl rfl el_u8 HO.o rfl HSL.o rfl HA5.o (by omega) (by omega) HZB.o ?_);intro A13 c13 w3_ ho_ hg_ hA_;have hst := acc_step HG.o HZ.o HO.o ho_ hg_;have HEQ := kq (a5 ++ tg = out) (by rw [HPUT.o, HK5.o, HK4.o, HK3.o, HK2.o, HK1.o]);rw [HEQ.o] at hst;have HX6 := kp (own_base hst.1 (show w.heap.size ≤ Z by rw [HZ.o]; exact HB.o.size));have HC6 := kp (own_cap1 hst.1);have HL6 := kq (k5 + 32 = out.length) (by have := (Sl.of_own hst.1).len; simpa using this.symm);have HB6 := kp (HB.o.grow' hst.2);clear ho_ hg_ hA_ hst HO HG HSL HZB;go_wp2_with fail;go_ret
     refine ⟨A13, c13, by rw [← HL6.o]; rfl, ?_, by rw [← HL6.o]; exact HC6.o, HB6.o⟩;rw [← HL6.o]; exact HX6.o
end Go.Proofs.YtiijepimkgaccaaGreat

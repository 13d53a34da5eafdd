/- The contract of the document's Next. Printed by mknext.py. -/
import Derived.Test.YtiijepimkgaccaaGreatCommandLongRe14
set_option linter.unusedSimpArgs false
set_option linter.unusedVariables false
set_option maxRecDepth 100000
set_option maxHeartbeats 16000000
namespace Go.Proofs.YtiijepimkgaccaaGreat
open Go.RowKit Go.Shelf
theorem rnext_any (p : Hdr) (first : Bool) (A : Option Addr) (n c : Nat) (ls : List (List UInt8)) (s ep : Int) (w : World) (hp : p.ok) (hl : LS w A n c ls) (hn : n = ls.length) (hnm : n ≤ 1000000) (hlm : ∀ l ∈ ls, l.length ≤ 1000000) (hs : I64 s) (hep : I64 ep) (ht : Tabs w) :
  Calls Tryz.prog 14 #[.agg (hdrV p).toArray, .bool first, .slice A n c, .int .i64 s, .int .i64 ep] w fun e w' => e = .returned (.tuple #[.agg (hdrV (nextB p first ls s ep)).toArray, .bool (nextOK p first ls s ep)]) ∧ Below w.heap.size w w' := by
 have HPO := kp hp; have HS := kp hl; have HT := kp ht; have HTW := kp ht; have HLM := kp hlm; have HNN := kp hn; have HSI := kp hs; have HEI := kp hep;obtain ⟨rs, hrs⟩ := dig_root ls;have HRS := kp hrs;obtain ⟨zs, hzs⟩ : ∃ zs, Dig zs (hidB p) := ⟨(hidB p).map B, rfl, hidB_len p⟩;have HZ := kp hzs;have HRP := kp (fun w => rhright_any p w hp);have IP := kp (hdr_at hp);have LP := kp (hdrV_length hp);have LZ := kp (hdrV_length noHdr_ok);have OZ := kp (hdr_one noHdr);have T0 := kp built_hdrE;have T4 := kp (built_hdr4 (s := s) (ep := ep) (rootB_len ls));rw [← hrs.1] at T4;have L4 := kp (hdrV_length (e := ⟨s, 1, ep, zeroD, rootB ls⟩) ⟨hs, by simp [I64], hep, by simp [zeroD], rootB_len ls⟩);have O4 := kp (hdr_one ⟨s, 1, ep, zeroD, rootB ls⟩);obtain ⟨h4, hh4⟩ := xe (hdrV ⟨s, 1, ep, zeroD, rootB ls⟩);have E4 := kp hh4;rw [← hh4] at T4 L4 O4;obtain ⟨nz, hnz⟩ := xe (hdrV noHdr);have HNZ := kp hnz.symm;rw [← hnz] at LZ OZ T0;have Z2 := kp zero_hdr2;rw [← hnz] at Z2;obtain ⟨rp, hrp⟩ := xe (rightH p);have HRPE := kp hrp.symm;rw [← hrp] at HRP;obtain ⟨pv, hpv⟩ := xe (hdrV p);have HPV := kp hpv;have HID := kp (fun w => rhid_any p hzs w hp);rw [← hpv] at HRP IP LP HID ⊢;clear hrs hzs hh4 hnz hrp hpv hl ht hlm hp hn hs hep;have HB := kp (Below.refl w.heap.size w);obtain ⟨gp, hgp⟩ := xe w.heap.size;have HGP := kp hgp
 go_enter Tryz.func14, Tryz.ntmps14
 go_wp2_with (with_reducible refine wbx 5 ?_);intro w1 hb1 hbw1 hsz1;rw [← hgp] at hb1 hbw1 hsz1 ⊢;clear hgp;obtain ⟨gr, hgr⟩ := xe (gp + 1);have HGR := kp hgr;go_wp2_with (with_reducible refine wal 10 Z2.o ?_);intro w_ hb2 hbw2 hsz2;have HPB := kp (hb1.below hbw2 (by omega));have HV := kq (Blk w_ gr 41 nz) (by rw [HGR.o]; first | exact hb2 | (rw [hsz1] at hb2; exact hb2));have HB_ := kq (Grow w w_) (by rw [HGP.o] at hbw1; exact Below.trans hbw1 (hbw2.mono (by have := HGP.o; omega)));have HT_ := kp (HT.o.grow HB_.o);have HS_ := kp (HS.o.grow HB_.o);have HGV := kq (w.heap.size ≤ gr) (by have := HGP.o; have := HGR.o; omega);try rw [hsz1]
 try rw [← hgr]
 clear hb1 hb2 hbw1 hbw2 hsz1 hsz2 HB HT HS hgr;have HB := HB_; have HT := HT_; have HS := HS_;clear HB_ HT_ HS_;try clear w1
 by_cases h3 : n = 3
 ·subst h3;cases first with
  | true =>
   go_wp2_with fail;refine (ls_rroot_any HS.o HRS.o (by omega) HLM.o HT.o).mono ?_;rintro e v_ ⟨rfl, y_⟩;replace HPB := kp (HPB.o.grow y_);replace HV := kp (HV.o.grow y_);replace HT := kp (HT.o.grow y_);replace HB := kp (HB.o.grow' y_);clear y_;try clear w_
   rename World => w_;try clear HS
   go_wp2_with (first | (refine wpl_build (o := ⟨some 36, _, _, _, _, _⟩) rfl rfl T4.o ?_) | (with_reducible refine wal 12 Z2.o ?_));intro v_ hb2 y_ hs2;obtain ⟨gv, hgv⟩ := xe w_.heap.size;rw [← hgv] at hb2 hs2 ⊢;have HX := kp hb2;have HGX := kq (gv ≠ gp ∧ gv ≠ gr ∧ w.heap.size ≤ gv) (by have h1 := HPB.o.lt; have h2 := HV.o.lt; have h3 := HB.o.size; omega);clear hb2 hs2 hgv;replace HPB := kp (HPB.o.grow y_);replace HV := kp (HV.o.grow y_);replace HT := kp (HT.o.grow y_);replace HB := kp (HB.o.grow' y_);clear y_;try clear w_
   rename World => w_;go_wp2_with (with_reducible refine wsb row_header HX.o LZ.o L4.o O4.o ?_);intro v_ hb2 hg2 hs2;have HX_ := kp hb2;have HPB_ := kp (HPB.o.grown hg2 (by simpa using HGX.o.1.symm));have HV_ := kp (HV.o.grown hg2 (by simpa using HGX.o.2.1.symm));have HB_ := kp (put_below HB.o HGX.o.2.2 hg2);have HT_ := kp (HTW.o.grow HB_.o);clear hb2 hg2 hs2 HX HPB HV HB HT;have HX := HX_; have HPB := HPB_; have HV := HV_; have HB := HB_; have HT := HT_;clear HX_ HPB_ HV_ HB_ HT_;try clear w_
   rename World => w_;have HNV := kq (h4 = hdrV (nextH p true ls s ep)) E4.o;rw [HNV.o] at HX;have HNO_ := kq ((nextH p true ls s ep).ok) ⟨HSI.o, by simp [I64, nextH], HEI.o, by simp [nextH, zeroD], rootB_len ls⟩;have HOKE := kq (nextOK p true ls s ep = rightH (nextH p true ls s ep)) (by unfold nextOK; rw [← HNN.o]; simp);have LN := kp (hdrV_length HNO_.o);have ON := kp (hdr_one (nextH p true ls s ep));have HRN := kp (fun w => rhright_any (nextH p true ls s ep) w HNO_.o);rw [← HOKE.o] at HRN;obtain ⟨ok, hok⟩ := xe (nextOK p true ls s ep);have HK := kp hok.symm;rw [← hok] at HRN;clear hok;obtain ⟨hv, hhv⟩ := xe (hdrV (nextH p true ls s ep));have EHV := kp hhv;rw [← hhv] at HX LN ON HRN;clear hhv;go_wp2_with (with_reducible refine wlb 49 row_header HX.o LN.o ?_);refine (HRN.o _).mono ?_;rintro e v_ ⟨rfl, y_⟩;try clear HT
   replace HPB := kp (HPB.o.grow y_);replace HV := kp (HV.o.grow y_);replace HX := kp (HX.o.grow y_);replace HB := kp (HB.o.grow' y_);clear y_;try clear w_
   rename World => w_;cases ok with
   | false =>
    have HNO := HK;go_wp2_with (first | (refine wpl_build (o := ⟨some 52, _, _, _, _, _⟩) rfl rfl T0.o ?_) | (with_reducible refine wsb row_header HV.o LZ.o LZ.o OZ.o ?_));intro w9 hb9 hg9 hs9;have HB9 := kp hb9;have HBB := kp (put_below HB.o HGV.o hg9);clear hb9 hg9 hs9;go_wp2_with fail;refine ret_cell_tmp rfl row_header HB9.o rfl LZ.o rfl rfl ?_;exact ⟨by rw [nextB_no HNO.o, HNO.o, HNZ.o]; try rfl, HBB.o⟩
   | true =>
    go_wp2_with (with_reducible first | refine wlb 53 row_header HX.o LN.o ?_ | refine wsb row_header HV.o LZ.o LN.o ON.o ?_);intro w9 hb9 hg9 hs9;have HB9 := kp hb9;have HBB := kp (put_below HB.o HGV.o hg9);clear hb9 hg9 hs9;go_wp2_with fail;refine ret_cell_tmp rfl row_header HB9.o rfl LN.o rfl rfl ?_;exact ⟨by rw [nextB_yes HK.o, HK.o, EHV.o]; try rfl, HBB.o⟩
  | false =>
   go_wp2_with (first | (with_reducible refine wpl_loadw (o := ⟨some 20, _, _, _, _, _⟩) (by first | rfl | (go_simp; done) | fail) rfl row_header HPB.o rfl LP.o ?_));refine (HRP.o _).mono ?_;rintro e v_ ⟨rfl, y_⟩;replace HPB := kp (HPB.o.grow y_);replace HV := kp (HV.o.grow y_);replace HT := kp (HT.o.grow y_);replace HS := kp (HS.o.grow y_);replace HB := kp (HB.o.grow' y_);clear y_;try clear w_
   rename World => w_;cases rp with
   | false =>
    have HNO := kq (nextOK p false ls s ep = false) (by unfold nextOK; rw [HRPE.o]; simp);go_wp2_with (first | (refine wpl_build (o := ⟨some 31, _, _, _, _, _⟩) rfl rfl T0.o ?_) | (with_reducible refine wsb row_header HV.o LZ.o LZ.o OZ.o ?_));intro w9 hb9 hg9 hs9;have HB9 := kp hb9;have HBB := kp (put_below HB.o HGV.o hg9);clear hb9 hg9 hs9;go_wp2_with fail;refine ret_cell_tmp rfl row_header HB9.o rfl LZ.o rfl rfl ?_;exact ⟨by rw [nextB_no HNO.o, HNO.o, HNZ.o]; try rfl, HBB.o⟩
   | true =>
    have c2 := HPB.o.at_ IP.o.2.2;have hrb := rightH_iff.1 HRPE.o;have v1 : IntKind.i64.wrap (p.height + 1) = p.height + 1 := IntWalk.i64_in _ (by omega);have v2 : RowKit.wrap64 (p.height + 1) = p.height + 1 := wrap64_in _ (by omega);by_cases he : ep < p.epoch
    ·have d1 : decide (ep < p.epoch) = true := by simpa using he
     have HNO := kq (nextOK p false ls s ep = false) (by unfold nextOK; rw [show decide (p.epoch ≤ ep) = false by simp; omega]; simp);go_wp2_with (first | (refine wpl_build (o := ⟨some 31, _, _, _, _, _⟩) rfl rfl T0.o ?_) | (with_reducible refine wsb row_header HV.o LZ.o LZ.o OZ.o ?_));intro w9 hb9 hg9 hs9;have HB9 := kp hb9;have HBB := kp (put_below HB.o HGV.o hg9);clear hb9 hg9 hs9;go_wp2_with fail;refine ret_cell_tmp rfl row_header HB9.o rfl LZ.o rfl rfl ?_;exact ⟨by rw [nextB_no HNO.o, HNO.o, HNZ.o]; try rfl, HBB.o⟩
    ·have d1 : decide (ep < p.epoch) = false := by simpa using he
     have hrb2 := HRPE.o;go_wp2_with fail;refine (ls_rroot_any HS.o HRS.o (by omega) HLM.o HT.o).mono ?_;rintro e v_ ⟨rfl, y_⟩;replace HPB := kp (HPB.o.grow y_);replace HV := kp (HV.o.grow y_);replace HT := kp (HT.o.grow y_);replace HB := kp (HB.o.grow' y_);clear y_;try clear w_
     rename World => w_;try clear HS
     go_wp2_with (first | (refine wpl_build (o := ⟨some 36, _, _, _, _, _⟩) rfl rfl T4.o ?_) | (with_reducible refine wal 12 Z2.o ?_));intro v_ hb2 y_ hs2;obtain ⟨gv, hgv⟩ := xe w_.heap.size;rw [← hgv] at hb2 hs2 ⊢;have HX := kp hb2;have HGX := kq (gv ≠ gp ∧ gv ≠ gr ∧ w.heap.size ≤ gv) (by have h1 := HPB.o.lt; have h2 := HV.o.lt; have h3 := HB.o.size; omega);clear hb2 hs2 hgv;replace HPB := kp (HPB.o.grow y_);replace HV := kp (HV.o.grow y_);replace HT := kp (HT.o.grow y_);replace HB := kp (HB.o.grow' y_);clear y_;try clear w_
     rename World => w_;go_wp2_with (with_reducible refine wsb row_header HX.o LZ.o L4.o O4.o ?_);intro v_ hb2 hg2 hs2;have HX_ := kp hb2;have HPB_ := kp (HPB.o.grown hg2 (by simpa using HGX.o.1.symm));have HV_ := kp (HV.o.grown hg2 (by simpa using HGX.o.2.1.symm));have HB_ := kp (put_below HB.o HGX.o.2.2 hg2);have HT_ := kp (HTW.o.grow HB_.o);clear hb2 hg2 hs2 HX HPB HV HB HT;have HX := HX_; have HPB := HPB_; have HV := HV_; have HB := HB_; have HT := HT_;clear HX_ HPB_ HV_ HB_ HT_;try clear w_
     rename World => w_;have c0 := HPB.o.at_ IP.o.1;have k0 := HX.o.at_ (show h4[0]? = some (.int .i64 s) by rw [E4.o]; rfl);have f0 := HX.o.frozen 0;have HX1 := kp (HX.o.set_ 0 (.int .i64 p.shard));have HP1 := kp (HPB.o.far (p := ⟨gv, 0, none⟩) HGX.o.1.symm (.int .i64 p.shard));have c1 := HP1.o.at_ IP.o.2.1;have k1 := HX1.o.at_ (i := 1) (v := .int .i64 1) (by rw [E4.o]; rfl);have f1 := HX1.o.frozen 1;have HX2 := kp (HX1.o.set_ 1 (.int .i64 (p.height + 1)));have HP2 := kp (HP1.o.far (p := ⟨gv, 1, none⟩) HGX.o.1.symm (.int .i64 (p.height + 1)));have HV2 := kp ((HV.o.far (p := ⟨gv, 0, none⟩) HGX.o.2.1.symm (.int .i64 p.shard)).far (p := ⟨gv, 1, none⟩) HGX.o.2.1.symm (.int .i64 (p.height + 1)));have HB2 := kq (Grow w ((w_.setCell ⟨gv, 0, none⟩ (.int .i64 p.shard)).setCell ⟨gv, 1, none⟩ (.int .i64 (p.height + 1)))) (Below.setCell (Below.setCell HB.o HGX.o.2.2 _) HGX.o.2.2 _);go_wp2_with (with_reducible refine wlb 46 row_header HP2.o LP.o ?_);clear c0 k0 f0 c1 k1 f1 HX HPB HV HB HX1 HP1;generalize (w_.setCell ⟨gv, 0, none⟩ (.int .i64 p.shard)).setCell ⟨gv, 1, none⟩ (.int .i64 (p.height + 1)) = w3_ at HX2 HP2 HV2 HB2 ⊢;have HX := HX2; have HPB := HP2; have HV := HV2; have HB := HB2;clear HX2 HP2 HV2 HB2;refine (HID.o _).mono ?_;rintro e v_ ⟨rfl, y_⟩;clear HT;try clear w_
     obtain ⟨w_, hww⟩ : ∃ k : World, k = w3_ := ⟨_, rfl⟩;subst hww;replace HPB := kp (HPB.o.grow y_);replace HV := kp (HV.o.grow y_);replace HX := kp (HX.o.grow y_);replace HB := kp (HB.o.grow' y_);clear y_;try clear w_
     rename World => w_;go_wp2_with (with_reducible first | refine wpl_storem (o := ⟨none, .store _ _ _, _, _, _, _⟩) rfl rfl row_id HX.o rfl rfl HZ.o.len (by simp only [List.length_set]; rw [L4.o]; omega) HZ.o.one ?_);intro v_ hb2 hg2 hs2;have HX_ := kp hb2;have HPB_ := kp (HPB.o.grown hg2 (by simpa using HGX.o.1.symm));have HV_ := kp (HV.o.grown hg2 (by simpa using HGX.o.2.1.symm));have HB_ := kp (put_below HB.o HGX.o.2.2 hg2);clear hb2 hg2 hs2 HX HPB HV HB;have HX := HX_; have HPB := HPB_; have HV := HV_; have HB := HB_;clear HX_ HPB_ HV_ HB_;try clear w_
     rename World => w_;rw [E4.o, HZ.o.1, hdr_next (by simp [zeroD]) (hidB_len p)] at HX;replace HX := kq (Blk w_ gv 41 (hdrV (nextH p false ls s ep))) HX.o;have HNO_ := kq ((nextH p false ls s ep).ok) ⟨HPO.o.1, by show I64 (p.height + 1); unfold I64; omega, HEI.o, hidB_len p, rootB_len ls⟩;have HOKE := kq (nextOK p false ls s ep = rightH (nextH p false ls s ep)) (by unfold nextOK; rw [← HNN.o, HRPE.o]; simp; omega);have LN := kp (hdrV_length HNO_.o);have ON := kp (hdr_one (nextH p false ls s ep));have HRN := kp (fun w => rhright_any (nextH p false ls s ep) w HNO_.o);rw [← HOKE.o] at HRN;obtain ⟨ok, hok⟩ := xe (nextOK p false ls s ep);have HK := kp hok.symm;rw [← hok] at HRN;clear hok;obtain ⟨hv, hhv⟩ := xe (hdrV (nextH p false ls s ep));have EHV := kp hhv;rw [← hhv] at HX LN ON HRN;clear hhv;go_wp2_with (with_reducible refine wlb 49 row_header HX.o LN.o ?_);refine (HRN.o _).mono ?_;rintro e v_ ⟨rfl, y_⟩;try clear HT
     replace HPB := kp (HPB.o.grow y_);replace HV := kp (HV.o.grow y_);replace HX := kp (HX.o.grow y_);replace HB := kp (HB.o.grow' y_);clear y_;try clear w_
     rename World => w_;cases ok with
     | false =>
      have HNO := HK;go_wp2_with (first | (refine wpl_build (o := ⟨some 52, _, _, _, _, _⟩) rfl rfl T0.o ?_) | (with_reducible refine wsb row_header HV.o LZ.o LZ.o OZ.o ?_));intro w9 hb9 hg9 hs9;have HB9 := kp hb9;have HBB := kp (put_below HB.o HGV.o hg9);clear hb9 hg9 hs9;go_wp2_with fail;refine ret_cell_tmp rfl row_header HB9.o rfl LZ.o rfl rfl ?_;exact ⟨by rw [nextB_no HNO.o, HNO.o, HNZ.o]; try rfl, HBB.o⟩
     | true =>
      go_wp2_with (with_reducible first | refine wlb 53 row_header HX.o LN.o ?_ | refine wsb row_header HV.o LZ.o LN.o ON.o ?_);intro w9 hb9 hg9 hs9;have HB9 := kp hb9;have HBB := kp (put_below HB.o HGV.o hg9);clear hb9 hg9 hs9;go_wp2_with fail;refine ret_cell_tmp rfl row_header HB9.o rfl LN.o rfl rfl ?_;exact ⟨by rw [nextB_yes HK.o, HK.o, EHV.o]; try rfl, HBB.o⟩
 ·have d3 : ((n : Int) != 3) = true := by rw [bne_iff_ne]; omega
  have HNO := kq (nextOK p first ls s ep = false) (by unfold nextOK; rw [show decide (ls.length = 3) = false by have := HNN.o; simp; omega]; simp);go_wp2_with (first | (refine wpl_build (o := ⟨some 31, _, _, _, _, _⟩) rfl rfl T0.o ?_) | (with_reducible refine wsb row_header HV.o LZ.o LZ.o OZ.o ?_));intro w9 hb9 hg9 hs9;have HB9 := kp hb9;have HBB := kp (put_below HB.o HGV.o hg9);clear hb9 hg9 hs9;go_wp2_with fail;refine ret_cell_tmp rfl row_header HB9.o rfl LZ.o rfl rfl ?_;exact ⟨by rw [nextB_no HNO.o, HNO.o, HNZ.o]; try rfl, HBB.o⟩
theorem nextB_ok {p : Hdr} {first : Bool} {ls : List (List UInt8)} {s ep : Int} : (nextB p first ls s ep).ok := by
 by_cases h : nextOK p first ls s ep = true
 ·rw [nextB_yes h];have hr : rightH (nextH p first ls s ep) = true := by unfold nextOK at h; simp only [Bool.and_eq_true] at h; exact h.2
  have hb := rightH_iff.1 hr;have hl : (nextH p first ls s ep).prev.length = 32 ∧ (nextH p first ls s ep).root.length = 32 := by unfold nextH; split <;> simp [zeroD, hidB_len, rootB_len]
  exact ⟨⟨by omega, by omega⟩, ⟨by omega, by omega⟩, ⟨by omega, by omega⟩, hl.1, hl.2⟩
 ·rw [nextB_no (by simpa using h)]; exact noHdr_ok
def HV (xs : List Value) : Prop := xs.length = 67 ∧ ∀ u ∈ xs, u.oneCell' = true
theorem len_header : (hdrV noHdr).length = 67 := hdrV_length noHdr_ok
theorem zero_header : (Tryz.prog.info? 41).map (·.zero) = some (some (.agg (hdrV noHdr).toArray)) := zero_hdr2
theorem map_B_injH : ∀ {a b : List UInt8}, a.map B = b.map B → a = b
 | [], [], _ => rfl
 | [], _ :: _, h => by simp at h
 | _ :: _, [], h => by simp at h
 | x :: a, y :: b, h => by
  simp only [List.map_cons, List.cons.injEq] at h;have h1 : x = y := by have := h.1; unfold B at this; exact b8_inj (by injection this)
  rw [h1, map_B_injH h.2]
theorem hdrV_inj {x y : Hdr} (hx : x.ok) (hy : y.ok) (h : hdrV x = hdrV y) : x = y := by
 obtain ⟨a1, a2, a3, p, r⟩ := x;obtain ⟨b1, b2, b3, q, s⟩ := y
 have h0 : [Value.int .i64 a1, .int .i64 a2, .int .i64 a3] ++ (p.map B ++ r.map B) = [Value.int .i64 b1, .int .i64 b2, .int .i64 b3] ++ (q.map B ++ s.map B) := by
  simpa [hdrV] using h
 obtain ⟨h1, h2⟩ := List.append_inj h0 rfl;obtain ⟨h3, h4⟩ := List.append_inj h2 (by rw [List.length_map, List.length_map]; exact hx.2.2.2.1.trans hy.2.2.2.1.symm);have e1 := map_B_injH h3;have e2 := map_B_injH h4;simp only [List.cons.injEq, Value.int.injEq, true_and, and_true] at h1;obtain ⟨rfl, rfl, rfl⟩ := h1;rw [e1, e2]
open Go.RowKit
def StopT (p : Prop) : Prop := p
theorem wpl_stop {P : Program} {ops : Array Oper} {rest : List Oper} {o : Oper} {a : Act} {w : World} {Q : Exit → Act → World → Prop} (h : StopT (wpList P ops Q (o :: rest) a w)) : wpList P ops Q (o :: rest) a w := h
theorem wst {P : Program} {ops : Array Oper} {rest : List Oper} (s : Nat) {op : Op} {ty : TypeId} {ps : String} {af : Array Edge} {gd : Option (Nat × Bool)} {a : Act} {w : World} {Q : Exit → Act → World → Prop} (h : StopT (wpList P ops Q (⟨some s, op, ty, ps, af, gd⟩ :: rest) a w)) : wpList P ops Q (⟨some s, op, ty, ps, af, gd⟩ :: rest) a w := h
theorem stop_go {p : Prop} (h : p) : StopT p := h
def valB (l : List UInt8) : Nat := l.foldl (fun v c => v * 256 + c.toNat) 0
theorem valB_nil : valB [] = 0 := rfl
theorem valB_snoc (l : List UInt8) (c : UInt8) : valB (l ++ [c]) = valB l * 256 + c.toNat := by unfold valB; rw [List.foldl_append]; rfl
theorem valB_lt : ∀ (n : Nat) (l : List UInt8), l.length ≤ n → valB l < 256 ^ n
 | 0, l, h => by obtain rfl : l = [] := List.eq_nil_of_length_eq_zero (by omega); simp [valB]
 | n + 1, l, h => by
  rcases List.eq_nil_or_concat l with rfl | ⟨t, c, rfl⟩
  ·exact Nat.pow_pos (by omega)
  ·rw [List.concat_eq_append, valB_snoc];have h1 := valB_lt n t (by rw [List.concat_eq_append, List.length_append] at h; simp at h; omega);have h2 := c.toNat_lt;rw [Nat.pow_succ]; omega
theorem valB_64 {l : List UInt8} (h : l.length ≤ 8) : valB l ≤ 18446744073709551615 := by have := valB_lt 8 l h; omega
theorem valB_leB : ∀ (n : Nat), valB (leB n).reverse = n := by
 intro n
 induction n using Nat.strongRecOn with
 | _ n ih =>
  by_cases h : n = 0
  ·rw [h, leB_zero]; rfl
  ·rw [leB_pos h, List.reverse_cons, valB_snoc, ih (n / 256) (by omega), UInt8.toNat_ofNat'];omega
theorem leB_last : ∀ (n : Nat), n ≠ 0 → ∃ c t, (leB n).reverse = c :: t ∧ c ≠ 0 := by
 intro n
 induction n using Nat.strongRecOn with
 | _ n ih =>
  intro h;rw [leB_pos h, List.reverse_cons];by_cases h2 : n / 256 = 0
  ·rw [h2, leB_zero];refine ⟨UInt8.ofNat n, [], rfl, fun e => ?_⟩;have := congrArg UInt8.toNat e;rw [UInt8.toNat_ofNat'] at this;have h3 : (0 : UInt8).toNat = 0 := rfl;omega
  ·obtain ⟨c, t, h3, h4⟩ := ih (n / 256) (by omega) h2;exact ⟨c, t ++ [UInt8.ofNat n], by rw [h3]; rfl, h4⟩
abbrev Rd (α : Type) := Except Nat (α × List UInt8)
def takeR (n : Nat) (l : List UInt8) : Rd (List UInt8) := if n ≤ l.length then .ok (l.take n, l.drop n) else .error 2
def numR (most : Nat) : List UInt8 → Rd Nat
 | [] => .error 2
 | k :: t => if 8 < k.toNat then .error 3 else if t.length < k.toNat then .error 2 else if 0 < k.toNat ∧ t[0]? = some 0 then .error 3
   else if most < valB (t.take k.toNat) then .error 5 else .ok (valB (t.take k.toNat), t.drop k.toNat)
def textR (most : Nat) (l : List UInt8) : Rd (List UInt8) := match numR most l with
 | .error x => .error x
 | .ok (v, t) => takeR v t
theorem takeR_app {b t : List UInt8} : takeR b.length (b ++ t) = .ok (b, t) := by
 unfold takeR;rw [if_pos (by simp), List.take_left, List.drop_left]
theorem takeR_len {n : Nat} {b t : List UInt8} (h : b.length = n) : takeR n (b ++ t) = .ok (b, t) := by rw [← h]; exact takeR_app
theorem numR_put {n most : Nat} {t : List UInt8} (h : n ≤ most) (h64 : n ≤ 18446744073709551615) : numR most (numB n ++ t) = .ok (n, t) := by
 have h8 := lenB_64 h64;have e0 : numB n = UInt8.ofNat (lenB n) :: (leB n).reverse := by unfold numB; rfl
 have e1 : (UInt8.ofNat (lenB n)).toNat = ((leB n).reverse).length := by rw [UInt8.toNat_ofNat', List.length_reverse, leB_len]; omega
 rw [e0, List.cons_append];simp only [numR];rw [e1, List.take_left, List.drop_left, valB_leB];have e2 : ((leB n).reverse).length = lenB n := by rw [List.length_reverse, leB_len]
 rw [if_neg (by omega), if_neg (by simp), if_neg, if_neg (by omega)];rintro ⟨h1, h2⟩;have hn : n ≠ 0 := by rintro rfl; rw [e2, lenB_zero] at h1; omega
 obtain ⟨c, t', h3, h4⟩ := leB_last n hn;rw [h3] at h2;simp at h2;exact h4 h2
theorem textR_put {b t : List UInt8} {most : Nat} (h : b.length ≤ most) (h64 : b.length ≤ 18446744073709551615) : textR most (numB b.length ++ (b ++ t)) = .ok (b, t) := by
 unfold textR;rw [numR_put h h64];exact takeR_app
theorem numR_le {most : Nat} {l t : List UInt8} {v : Nat} (h : numR most l = .ok (v, t)) : v ≤ most ∧ v ≤ 18446744073709551615 ∧ t.length ≤ l.length := by
 cases l with
 | nil => cases h
 | cons k l =>
  simp only [numR] at h;split at h
  ·cases h
  ·split at h
   ·cases h
   ·split at h
    ·cases h
    ·split at h
     ·cases h
     ·injection h with h
      injection h with h1 h2
      rename_i h8 _ _ hm;subst h1; subst h2;refine ⟨by omega, valB_64 (by rw [List.length_take]; omega), by simp; omega⟩
theorem takeR_le {n : Nat} {l b t : List UInt8} (h : takeR n l = .ok (b, t)) : b.length = n ∧ t.length ≤ l.length := by
 unfold takeR at h;split at h
 ·injection h with h; injection h with h1 h2
  subst h1; subst h2;rw [List.length_take, List.length_drop]; omega
 ·cases h
theorem textR_le {most : Nat} {l b t : List UInt8} (h : textR most l = .ok (b, t)) : b.length ≤ most ∧ t.length ≤ l.length := by
 unfold textR at h;cases hn : numR most l with
 | error x => rw [hn] at h; cases h
 | ok p =>
  obtain ⟨v, t'⟩ := p;rw [hn] at h;have h1 := numR_le hn;have h2 := takeR_le h;omega
def brk (x : Nat) : List PanicEntry := [{ v := .iface 123 (.agg #[.int .i64 (x : Int)]), recovered := false }]
def EyeAt (w : World) (Lo Bd g : Nat) (l : List UInt8) : Prop :=
 ∃ A c, Blk w g 125 [.slice A l.length c] ∧ Sl w Bd 1 A l.length (l.map B) ∧ l.length ≤ c ∧ Lo ≤ g ∧ g < Bd ∧ Bd ≤ w.heap.size ∧ (∀ b, A.map Addr.block = some b → Lo ≤ b ∧ b ≠ g)
def RdAt (w : World) (Lo Bd g : Nat) (A : Option Addr) (bs : List UInt8) : Prop := Sl w Bd 1 A bs.length (bs.map B) ∧ Bd ≤ w.heap.size ∧ (∀ b, A.map Addr.block = some b → Lo ≤ b ∧ b ≠ g)
section
variable {w w' : World} {Lo Bd g : Nat} {l : List UInt8}
theorem EyeAt.keep (h : EyeAt w Lo Bd g l) (hk : ∀ k, Lo ≤ k → k < Bd → w'.heap[k]? = w.heap[k]?) (hs : w.heap.size ≤ w'.heap.size) : EyeAt w' Lo Bd g l := by
 obtain ⟨A, c, h1, h2, h3, h4, h5, h6, h7⟩ := h;refine ⟨A, c, (hk g h4 h5).trans h1, ⟨h2.1, fun hn => ?_⟩, h3, h4, h5, by omega, h7⟩;obtain ⟨b, off, e, hb, hc⟩ := h2.2 hn;refine ⟨b, off, e, hb, fun j u hu => ?_⟩;exact (World.cell?_of_block (a := ⟨b, off + j, none⟩) (hk b (h7 b (by rw [e]; rfl)).1 hb)).trans (hc j u hu)
theorem EyeAt.grow (h : EyeAt w Lo Bd g l) (k : Grow w w') : EyeAt w' Lo Bd g l :=
 h.keep (fun i _ hi => k.block i (by obtain ⟨_, _, _, _, _, _, _, h6, _⟩ := h; omega)) k.size
theorem EyeAt.off {q : Nat} (h : EyeAt w Lo Bd g l) (k : w.grownBy w' (some q)) (hq : q < Lo ∨ Bd ≤ q) : EyeAt w' Lo Bd g l :=
 h.keep (fun i h1 h2 => k.block i (by obtain ⟨_, _, _, _, _, _, _, h6, _⟩ := h; omega) (fun e => by injection e with e; omega)) k.size
theorem EyeAt.lt (h : EyeAt w Lo Bd g l) : g < w.heap.size := by obtain ⟨_, _, _, _, _, _, h5, h6, _⟩ := h; omega
theorem EyeAt.lo (h : EyeAt w Lo Bd g l) : Lo ≤ g := by obtain ⟨_, _, _, _, _, h4, _⟩ := h; exact h4
theorem EyeAt.bd (h : EyeAt w Lo Bd g l) : g < Bd ∧ Bd ≤ w.heap.size := by obtain ⟨_, _, _, _, _, _, h5, h6, _⟩ := h; exact ⟨h5, h6⟩
theorem RdAt.sl {A : Option Addr} {bs : List UInt8} (h : RdAt w Lo Bd g A bs) : Sl w w.heap.size 1 A bs.length (bs.map B) := h.1.more h.2.1
theorem grownBy_trans {a b c : World} {r : Option Nat} (h : a.grownBy b r) (k : b.grownBy c r) : a.grownBy c r :=
 ⟨k.os.trans h.os, k.tape.trans h.tape, k.output.trans h.output, Nat.le_trans h.size k.size, fun i hi hn => (k.block i (Nat.lt_of_lt_of_le hi h.size) hn).trans (h.block i hi hn)⟩
theorem grownBy_refl (a : World) (r : Option Nat) : a.grownBy a r := ⟨rfl, rfl, rfl, Nat.le_refl _, fun _ _ _ => rfl⟩
theorem grownBy_grow {a b c : World} {r : Option Nat} (h : a.grownBy b r) (k : Grow b c) : a.grownBy c r := grownBy_trans h (grown_of_below k r)
theorem grownBy_new {a b c : World} {r : Option Nat} {q : Nat} (h : a.grownBy b r) (k : b.grownBy c (some q)) (hq : a.heap.size ≤ q) : a.grownBy c r :=
 ⟨k.os.trans h.os, k.tape.trans h.tape, k.output.trans h.output, Nat.le_trans h.size k.size, fun i hi hn => (k.block i (Nat.lt_of_lt_of_le hi h.size) (fun e => by injection e with e; omega)).trans (h.block i hi hn)⟩
end
theorem efail_any (g x : Nat) (hx : x ≠ 0) (w : World) : Calls Tryz.prog 62 #[.pointer (some ⟨g, 0, none⟩), .int .i64 (x : Int)] w fun e w' => e = .panicked (brk x) ∧ w = w' := by
 have q1 : ((x : Int) != 0) = true := by simp; omega
 unfold brk
 go_enter Tryz.func62, Tryz.ntmps62
 go_wp2
 exact ⟨rfl, rfl, rfl⟩
theorem eleft_any {Lo Bd g : Nat} {l : List UInt8} (w : World) (h : EyeAt w Lo Bd g l) : Calls Tryz.prog 60 #[.pointer (some ⟨g, 0, none⟩)] w fun e w' => e = .returned (.int .i64 (l.length : Int)) ∧ w = w' := by
 obtain ⟨A, c, h1, h2, h3, h4, h5, h6, h7⟩ := h;have c0 := h1.at_ (i := 0) rfl;clear h1 h2 h7
 go_enter Tryz.func60, Tryz.ntmps60
 go_wp2
 go_ret
 exact ⟨rfl, rfl⟩
theorem take_no {Lo Bd g n : Nat} {l : List UInt8} (w : World) (h : EyeAt w Lo Bd g l) (hn : l.length < n) : Calls Tryz.prog 88 #[.pointer (some ⟨g, 0, none⟩), .int .i64 (n : Int)] w fun e w' => e = .panicked (brk 2) ∧ w = w' := by
 obtain ⟨A, c, h1, h2, h3, h4, h5, h6, h7⟩ := h;have c0 := h1.at_ (i := 0) rfl;clear h1 h2 h7 h3 h4 h5 h6;have d1 : decide ((l.length : Int) < (n : Int)) = true := by simpa using hn
 go_enter Tryz.func88, Tryz.ntmps88
 go_wp2_with fail;refine (efail_any g 2 (by omega) _).mono ?_;rintro e w' ⟨rfl, rfl⟩;go_wp2_with fail;exact ⟨rfl, rfl, rfl⟩
theorem cut_map {w : World} {Bd n k : Nat} {A : Option Addr} {xs : List Value} (h : Sl w Bd 1 A n xs) (hk : k ≤ n) : Sl w Bd 1 (A.map (fun x => x.add k)) (n - k) (xs.drop k) := by
 refine ⟨by rw [List.length_drop, h.len]; omega, fun hn => ?_⟩;obtain ⟨b, off, rfl, hb, hc⟩ := h.2 (by omega);refine ⟨b, off + k, ?_, hb, fun j u hu => ?_⟩
 ·simp only [Option.map_some, Addr.add];split <;> simp_all
 ·rw [Nat.add_assoc];exact hc _ u (by rw [← hu, List.getElem?_drop])
theorem map_block {A : Option Addr} {k : Nat} : (A.map (fun x => x.add k)).map Addr.block = A.map Addr.block := by
 cases A with
 | none => rfl
 | some a => simp only [Option.map_some, Addr.add]; split <;> rfl
theorem Sl.first {w : World} {Bd n k : Nat} {A : Option Addr} {xs : List Value} (h : Sl w Bd 1 A n xs) (hk : k ≤ n) : Sl w Bd 1 A k (xs.take k) := by
 refine ⟨by rw [List.length_take, h.len]; omega, fun hn => ?_⟩;obtain ⟨b, off, rfl, hb, hc⟩ := h.2 (by omega);refine ⟨b, off, rfl, hb, fun j u hu => hc _ u ?_⟩;rw [List.getElem?_take] at hu;split at hu
 ·exact hu
 ·cases hu
theorem eye_cut {w : World} {Lo Bd g n c c' : Nat} {l : List UInt8} {A A' : Option Addr} (h1 : Blk w g 125 [.slice A l.length c]) (h2 : Sl w Bd 1 A l.length (l.map B)) (h4 : Lo ≤ g) (h5 : g < Bd) (h6 : Bd ≤ w.heap.size) (h7 : ∀ b, A.map Addr.block = some b → Lo ≤ b ∧ b ≠ g)
  (hn : n ≤ l.length) (hc : l.length - n ≤ c') (hA : A' = A.map (fun x => x.add n) ∨ (A' = A ∧ l.length = n)) :
  RdAt (w.setCell ⟨g, 0, none⟩ (.slice A' (l.length - n) c')) Lo Bd g A (l.take n) ∧ EyeAt (w.setCell ⟨g, 0, none⟩ (.slice A' (l.length - n) c')) Lo Bd g (l.drop n) ∧ w.grownBy (w.setCell ⟨g, 0, none⟩ (.slice A' (l.length - n) c')) (some g) := by
 have hs := grown_set w g 0 (.slice A' (l.length - n) c')
 have keep : ∀ {A : Option Addr} {m : Nat} {xs : List Value}, Sl w Bd 1 A m xs → (∀ b, A.map Addr.block = some b → Lo ≤ b ∧ b ≠ g) → Sl (w.setCell ⟨g, 0, none⟩ (.slice A' (l.length - n) c')) Bd 1 A m xs := by
  intro A m xs h hb;refine ⟨h.1, fun hm => ?_⟩;obtain ⟨b, off, e, hB, hc⟩ := h.2 hm;refine ⟨b, off, e, hB, fun j u hu => ?_⟩;exact (World.cell?_of_block (a := ⟨b, off + j, none⟩) (hs.block b (by omega) (fun e2 => by injection e2 with e2; exact (hb b (by rw [e]; rfl)).2 e2))).trans (hc j u hu)
 have hl1 : (l.take n).length = n := by rw [List.length_take]; omega
 have hl2 : (l.drop n).length = l.length - n := List.length_drop
 have hA7 : ∀ b, A'.map Addr.block = some b → Lo ≤ b ∧ b ≠ g := by
  intro b hb;rcases hA with rfl | ⟨rfl, _⟩
  ·rw [map_block] at hb; exact h7 b hb
  ·exact h7 b hb
 refine ⟨⟨?_, Nat.le_trans h6 hs.size, h7⟩, ⟨A', c', ?_, ?_, by rw [hl2]; exact hc, h4, h5, Nat.le_trans h6 hs.size, hA7⟩, hs⟩
 ·rw [hl1, List.map_take];exact keep (h2.first hn) h7
 ·have := h1.set_ 0 (.slice A' (l.length - n) c');rw [hl2];simpa using this
 ·rw [hl2, List.map_drop];rcases hA with rfl | ⟨rfl, e⟩
  ·exact keep (cut_map h2 hn) hA7
  ·rw [e, Nat.sub_self, List.drop_of_length_le (by rw [List.length_map]; omega)];exact Sl.nil
theorem take_yes {Lo Bd g n : Nat} {l : List UInt8} (w : World) (h : EyeAt w Lo Bd g l) (hn : n ≤ l.length) : Calls Tryz.prog 88 #[.pointer (some ⟨g, 0, none⟩), .int .i64 (n : Int)] w fun e w' => ∃ A', e = .returned (.slice A' n n) ∧ RdAt w' Lo Bd g A' (l.take n) ∧ EyeAt w' Lo Bd g (l.drop n) ∧ w.grownBy w' (some g) := by
 obtain ⟨A, c, h1, h2, h3, h4, h5, h6, h7⟩ := h;have c0 := h1.at_ (i := 0) rfl;have f0 := h1.frozen 0;have H1 := kp h1; have H2 := kp h2; have H7 := kp h7;clear h1 h2 h7;have d1 : decide ((l.length : Int) < (n : Int)) = false := by simp; omega
 go_enter Tryz.func88, Tryz.ntmps88
 go_wp2_with fail
 ·go_ret
  exact ⟨A, rfl, eye_cut H1.o H2.o h4 h5 h6 H7.o hn (by omega) (.inr ⟨rfl, by omega⟩)⟩
 ·go_ret
  exact ⟨A, rfl, eye_cut H1.o H2.o h4 h5 h6 H7.o hn (by omega) (.inl rfl)⟩
end Go.Proofs.YtiijepimkgaccaaGreat

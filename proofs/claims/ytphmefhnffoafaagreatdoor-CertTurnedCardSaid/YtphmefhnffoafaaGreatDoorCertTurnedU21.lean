/- The contract of header.Next. Printed by mknext.py. -/
import Derived.Test.YtphmefhnffoafaaGreatDoorCertTurnedU20
set_option linter.unusedSimpArgs false
namespace Go.Proofs.YtphmefhnffoafaaGreatDoor
open Go.RowKit Go.Shelf
set_option linter.unusedVariables false
set_option maxRecDepth 100000 in
set_option maxHeartbeats 40000000 in
theorem next_any (p : Hdr) (first : Bool) (A : Option Addr) (n c : Nat) (ls : List (List UInt8)) (s ep : Int) (w : World) (hp : p.ok) (hl : LS w A n c ls) (hn : n = ls.length) (hnm : n ≤ 1000000) (hlm : ∀ l ∈ ls, l.length ≤ 1000000) (hs : I64 s) (hep : I64 ep) (ht : Tabs w) :
  Calls Tryz.prog 14 #[.agg (hdrV p).toArray, .bool first, .slice A n c, .int .i64 s, .int .i64 ep] w fun e w' => e = .returned (.tuple #[.agg (hdrV (nextB p first ls s ep)).toArray, .bool (nextOK p first ls s ep)]) ∧ Below w.heap.size w w' := by
 have HPO := kp hp; have HS := kp hl; have HT := kp ht; have HTW := kp ht; have HLM := kp hlm; have HNN := kp hn; have HSI := kp hs; have HEI := kp hep
 obtain ⟨rs, hrs⟩ := dig_root ls
 have HRS := kp hrs
 obtain ⟨zs, hzs⟩ : ∃ zs, Dig zs (hidB p) := ⟨(hidB p).map B, rfl, hidB_len p⟩
 have HZ := kp hzs
 have HRP := kp (fun w => hright_any p w hp)
 have IP := kp (hdr_at hp)
 have LP := kp (hdrV_length hp)
 have LZ := kp (hdrV_length noHdr_ok)
 have OZ := kp (hdr_one noHdr)
 have T0 := kp built_hdrE
 have T4 := kp (built_hdr4 (s := s) (ep := ep) (rootB_len ls))
 rw [← hrs.1] at T4
 have L4 := kp (hdrV_length (e := ⟨s, 1, ep, zeroD, rootB ls⟩) ⟨hs, by simp [I64], hep, by simp [zeroD], rootB_len ls⟩)
 have O4 := kp (hdr_one ⟨s, 1, ep, zeroD, rootB ls⟩)
 obtain ⟨h4, hh4⟩ : ∃ v, v = hdrV ⟨s, 1, ep, zeroD, rootB ls⟩ := ⟨_, rfl⟩
 have E4 := kp hh4
 rw [← hh4] at T4 L4 O4
 obtain ⟨nz, hnz⟩ : ∃ v, v = hdrV noHdr := ⟨_, rfl⟩
 have HNZ := kp hnz.symm
 rw [← hnz] at LZ OZ T0
 have Z2 := kp zero_hdr2
 rw [← hnz] at Z2
 obtain ⟨rp, hrp⟩ : ∃ r, r = rightH p := ⟨_, rfl⟩
 have HRPE := kp hrp.symm
 rw [← hrp] at HRP
 obtain ⟨pv, hpv⟩ : ∃ v, v = hdrV p := ⟨_, rfl⟩
 have HPV := kp hpv
 have HID := kp (fun w ht => hid_any p hzs w hp ht)
 rw [← hpv] at HRP IP LP HID ⊢
 clear hrs hzs hh4 hnz hrp hpv hl ht hlm hp hn hs hep
 have HB := kp (Below.refl w.heap.size w)
 obtain ⟨gp, hgp⟩ : ∃ g, g = w.heap.size := ⟨_, rfl⟩
 have HGP := kp hgp
 go_enter Tryz.func14, Tryz.ntmps14
 go_wp2_with (first | (with_reducible refine wpl_box (o := ⟨some 5, _, _, _, _, _⟩) rfl rfl rfl ?_))
 intro w1 hb1 hbw1 hsz1
 rw [← hgp] at hb1 hbw1 hsz1 ⊢
 clear hgp
 obtain ⟨gr, hgr⟩ : ∃ g, g = gp + 1 := ⟨_, rfl⟩
 have HGR := kp hgr
 go_wp2_with (first | (with_reducible refine wpl_alloc (o := ⟨some 10, _, _, _, _, _⟩) rfl rfl Z2.out ?_))
 intro w_ hb2 hbw2 hsz2
 have HPB := kp (hb1.below hbw2 (by omega))
 have HV := kp (show Blk w_ gr 33 nz by rw [HGR.out]; first | exact hb2 | (rw [hsz1] at hb2; exact hb2))
 have HB_ := kp (show Grow w w_ by rw [HGP.out] at hbw1; exact Below.trans hbw1 (hbw2.mono (by have := HGP.out; omega)))
 have HT_ := kp (HT.out.grow HB_.out)
 have HS_ := kp (HS.out.grow HB_.out)
 have HGV := kp (show w.heap.size ≤ gr by have := HGP.out; have := HGR.out; omega)
 try rw [← hgr]
 clear hb1 hb2 hbw1 hbw2 hsz1 hsz2 HB HT HS hgr
 have HB := HB_; have HT := HT_; have HS := HS_
 clear HB_ HT_ HS_
 try clear w1
 by_cases h3 : n = 3
 ·subst h3
  cases first with
  | true =>
   go_wp2_with fail
   refine (ls_root_any HS.out HRS.out (by omega) HLM.out HT.out).mono ?_
   rintro e w2_ ⟨rfl, hb_⟩
   replace HPB := kp (HPB.out.grow hb_)
   replace HV := kp (HV.out.grow hb_)
   replace HT := kp (HT.out.grow hb_)
   replace HB := kp (HB.out.grow' hb_)
   clear hb_
   try clear w_
   rename World => w_
   try clear HS
   go_wp2_with (first | (refine wpl_build (o := ⟨some 36, _, _, _, _, _⟩) rfl rfl T4.out ?_) | (with_reducible refine wpl_alloc (o := ⟨some 12, _, _, _, _, _⟩) rfl rfl Z2.out ?_))
   intro w2_ hb2 hb_ hs2
   obtain ⟨gv, hgv⟩ : ∃ g, g = w_.heap.size := ⟨_, rfl⟩
   rw [← hgv] at hb2 hs2 ⊢
   have HX := kp hb2
   have HGX := kp (show gv ≠ gp ∧ gv ≠ gr ∧ w.heap.size ≤ gv by have h1 := HPB.out.lt; have h2 := HV.out.lt; have h3 := HB.out.size; omega)
   clear hb2 hs2 hgv
   replace HPB := kp (HPB.out.grow hb_)
   replace HV := kp (HV.out.grow hb_)
   replace HT := kp (HT.out.grow hb_)
   replace HB := kp (HB.out.grow' hb_)
   clear hb_
   try clear w_
   rename World => w_
   go_wp2_with (first | (with_reducible refine wpl_storeb (o := ⟨none, .store _ _ _, _, _, _, _⟩) rfl rfl row_header HX.out rfl rfl LZ.out L4.out O4.out ?_))
   intro w2_ hb2 hg2 hs2
   have HX_ := kp hb2
   have HPB_ := kp (HPB.out.grown hg2 (by simpa using HGX.out.1.symm))
   have HV_ := kp (HV.out.grown hg2 (by simpa using HGX.out.2.1.symm))
   have HB_ := kp (put_below HB.out HGX.out.2.2 hg2)
   have HT_ := kp (HTW.out.grow HB_.out)
   clear hb2 hg2 hs2 HX HPB HV HB HT
   have HX := HX_; have HPB := HPB_; have HV := HV_; have HB := HB_; have HT := HT_
   clear HX_ HPB_ HV_ HB_ HT_
   try clear w_
   rename World => w_
   have HNV := kp (show h4 = hdrV (nextH p true ls s ep) from E4.out)
   rw [HNV.out] at HX
   have HNO_ := kp (show (nextH p true ls s ep).ok from ⟨HSI.out, by simp [I64, nextH], HEI.out, by simp [nextH, zeroD], rootB_len ls⟩)
   have HOKE := kp (show nextOK p true ls s ep = rightH (nextH p true ls s ep) by unfold nextOK; rw [← HNN.out]; simp)
   have LN := kp (hdrV_length HNO_.out)
   have ON := kp (hdr_one (nextH p true ls s ep))
   have HRN := kp (fun w => hright_any (nextH p true ls s ep) w HNO_.out)
   rw [← HOKE.out] at HRN
   obtain ⟨ok, hok⟩ : ∃ o, o = nextOK p true ls s ep := ⟨_, rfl⟩
   have HK := kp hok.symm
   rw [← hok] at HRN
   clear hok
   obtain ⟨hv, hhv⟩ : ∃ v, v = hdrV (nextH p true ls s ep) := ⟨_, rfl⟩
   have EHV := kp hhv
   rw [← hhv] at HX LN ON HRN
   clear hhv
   go_wp2_with (first | (with_reducible refine wpl_loadb (o := ⟨some 49, _, _, _, _, _⟩) rfl rfl row_header HX.out rfl LN.out ?_))
   refine (HRN.out _).mono ?_
   rintro e w2_ ⟨rfl, hb_⟩
   try clear HT
   replace HPB := kp (HPB.out.grow hb_)
   replace HV := kp (HV.out.grow hb_)
   replace HX := kp (HX.out.grow hb_)
   replace HB := kp (HB.out.grow' hb_)
   clear hb_
   try clear w_
   rename World => w_
   cases ok with
   | false =>
    have HNO := HK
    go_wp2_with (first | (refine wpl_build (o := ⟨some 52, _, _, _, _, _⟩) rfl rfl T0.out ?_) | (with_reducible refine wpl_storeb (o := ⟨none, .store _ _ _, _, _, _, _⟩) rfl rfl row_header HV.out rfl rfl LZ.out LZ.out OZ.out ?_))
    intro w9 hb9 hg9 hs9
    have HB9 := kp hb9
    have HBB := kp (put_below HB.out HGV.out hg9)
    clear hb9 hg9 hs9
    go_wp2_with fail
    refine ret_cell_tmp rfl row_header HB9.out rfl LZ.out rfl rfl ?_
    exact ⟨by rw [nextB_no HNO.out, HNO.out, HNZ.out]; try rfl, HBB.out⟩
   | true =>
    go_wp2_with (first | (with_reducible refine wpl_loadb (o := ⟨some 53, _, _, _, _, _⟩) rfl rfl row_header HX.out rfl LN.out ?_) | (with_reducible refine wpl_storeb (o := ⟨none, .store _ _ _, _, _, _, _⟩) rfl rfl row_header HV.out rfl rfl LZ.out LN.out ON.out ?_))
    intro w9 hb9 hg9 hs9
    have HB9 := kp hb9
    have HBB := kp (put_below HB.out HGV.out hg9)
    clear hb9 hg9 hs9
    go_wp2_with fail
    refine ret_cell_tmp rfl row_header HB9.out rfl LN.out rfl rfl ?_
    exact ⟨by rw [nextB_yes HK.out, HK.out, EHV.out]; try rfl, HBB.out⟩
  | false =>
   go_wp2_with (first | (with_reducible refine wpl_loadw (o := ⟨some 20, _, _, _, _, _⟩) (by first | rfl | (go_simp; done) | fail) rfl row_header HPB.out rfl LP.out ?_))
   refine (HRP.out _).mono ?_
   rintro e w2_ ⟨rfl, hb_⟩
   replace HPB := kp (HPB.out.grow hb_)
   replace HV := kp (HV.out.grow hb_)
   replace HT := kp (HT.out.grow hb_)
   replace HS := kp (HS.out.grow hb_)
   replace HB := kp (HB.out.grow' hb_)
   clear hb_
   try clear w_
   rename World => w_
   cases rp with
   | false =>
    have HNO := kp (show nextOK p false ls s ep = false by unfold nextOK; rw [HRPE.out]; simp)
    go_wp2_with (first | (refine wpl_build (o := ⟨some 31, _, _, _, _, _⟩) rfl rfl T0.out ?_) | (with_reducible refine wpl_storeb (o := ⟨none, .store _ _ _, _, _, _, _⟩) rfl rfl row_header HV.out rfl rfl LZ.out LZ.out OZ.out ?_))
    intro w9 hb9 hg9 hs9
    have HB9 := kp hb9
    have HBB := kp (put_below HB.out HGV.out hg9)
    clear hb9 hg9 hs9
    go_wp2_with fail
    refine ret_cell_tmp rfl row_header HB9.out rfl LZ.out rfl rfl ?_
    exact ⟨by rw [nextB_no HNO.out, HNO.out, HNZ.out]; try rfl, HBB.out⟩
   | true =>
    have c2 := HPB.out.at_ IP.out.2.2
    have hrb := rightH_iff.1 HRPE.out
    have v1 : IntKind.i64.wrap (p.height + 1) = p.height + 1 := IntWalk.i64_in _ (by omega)
    have v2 : RowKit.wrap64 (p.height + 1) = p.height + 1 := wrap64_in _ (by omega)
    by_cases he : ep < p.epoch
    ·have d1 : decide (ep < p.epoch) = true := by simpa using he
     have HNO := kp (show nextOK p false ls s ep = false by unfold nextOK; rw [show decide (p.epoch ≤ ep) = false by simp; omega]; simp)
     go_wp2_with (first | (refine wpl_build (o := ⟨some 31, _, _, _, _, _⟩) rfl rfl T0.out ?_) | (with_reducible refine wpl_storeb (o := ⟨none, .store _ _ _, _, _, _, _⟩) rfl rfl row_header HV.out rfl rfl LZ.out LZ.out OZ.out ?_))
     intro w9 hb9 hg9 hs9
     have HB9 := kp hb9
     have HBB := kp (put_below HB.out HGV.out hg9)
     clear hb9 hg9 hs9
     go_wp2_with fail
     refine ret_cell_tmp rfl row_header HB9.out rfl LZ.out rfl rfl ?_
     exact ⟨by rw [nextB_no HNO.out, HNO.out, HNZ.out]; try rfl, HBB.out⟩
    ·have d1 : decide (ep < p.epoch) = false := by simpa using he
     have hrb2 := HRPE.out
     go_wp2_with fail
     refine (ls_root_any HS.out HRS.out (by omega) HLM.out HT.out).mono ?_
     rintro e w2_ ⟨rfl, hb_⟩
     replace HPB := kp (HPB.out.grow hb_)
     replace HV := kp (HV.out.grow hb_)
     replace HT := kp (HT.out.grow hb_)
     replace HB := kp (HB.out.grow' hb_)
     clear hb_
     try clear w_
     rename World => w_
     try clear HS
     go_wp2_with (first | (refine wpl_build (o := ⟨some 36, _, _, _, _, _⟩) rfl rfl T4.out ?_) | (with_reducible refine wpl_alloc (o := ⟨some 12, _, _, _, _, _⟩) rfl rfl Z2.out ?_))
     intro w2_ hb2 hb_ hs2
     obtain ⟨gv, hgv⟩ : ∃ g, g = w_.heap.size := ⟨_, rfl⟩
     rw [← hgv] at hb2 hs2 ⊢
     have HX := kp hb2
     have HGX := kp (show gv ≠ gp ∧ gv ≠ gr ∧ w.heap.size ≤ gv by have h1 := HPB.out.lt; have h2 := HV.out.lt; have h3 := HB.out.size; omega)
     clear hb2 hs2 hgv
     replace HPB := kp (HPB.out.grow hb_)
     replace HV := kp (HV.out.grow hb_)
     replace HT := kp (HT.out.grow hb_)
     replace HB := kp (HB.out.grow' hb_)
     clear hb_
     try clear w_
     rename World => w_
     go_wp2_with (first | (with_reducible refine wpl_storeb (o := ⟨none, .store _ _ _, _, _, _, _⟩) rfl rfl row_header HX.out rfl rfl LZ.out L4.out O4.out ?_))
     intro w2_ hb2 hg2 hs2
     have HX_ := kp hb2
     have HPB_ := kp (HPB.out.grown hg2 (by simpa using HGX.out.1.symm))
     have HV_ := kp (HV.out.grown hg2 (by simpa using HGX.out.2.1.symm))
     have HB_ := kp (put_below HB.out HGX.out.2.2 hg2)
     have HT_ := kp (HTW.out.grow HB_.out)
     clear hb2 hg2 hs2 HX HPB HV HB HT
     have HX := HX_; have HPB := HPB_; have HV := HV_; have HB := HB_; have HT := HT_
     clear HX_ HPB_ HV_ HB_ HT_
     try clear w_
     rename World => w_
     repeat' (first | (with_reducible refine wp_plan (id := 5) (Kp2 gp gp) [0, 1, 0, 1, 0, 2, 4, 0, 4, 0, 3, 0, 3] (.get 0 (.get 1 (.get 2 (.get 3 (.get 4 (.get 5 (.get 7 (.act 6 (.act 8 (.get 9 (.act 10 (.get 11 (.act 12 .done))))))))))))) (by kernel_rfl) (by kernel_rfl) (kp2_refl gp gp) kp2_trans ?_) | go_values | go_skip | go_guarded | go_step | go_upon | go_back)
     intro w2_ hd_
     have hb_ := hd_.grow
     clear hd_
     replace HPB := kp (HPB.out.grow hb_)
     replace HV := kp (HV.out.grow hb_)
     replace HX := kp (HX.out.grow hb_)
     replace HT := kp (HT.out.grow hb_)
     replace HB := kp (HB.out.grow' hb_)
     clear hb_
     try clear w_
     rename World => w_
     have HC0 := kp (HPB.out.at_ IP.out.1)
     have HC1 := kp (HPB.out.at_ IP.out.2.1)
     repeat (first | (refine pl_loadbnow rfl rfl (by first | exact wanted_none rfl | (go_simp; done) | rfl) rfl row_header HPB.out (by first | rfl | (go_simp; done) | rfl) LP.out (fun K hK => ?_); go_simp; refine hK _ _ ?_; clear hK K) | (refine pl_loadF rfl rfl (by first | exact wanted_none rfl | (go_simp; done) | rfl) rfl (by first | rfl | (go_simp; rfl)) (by kernel_rfl) HC0.out (fun w2_ h => h.1) (fun K hK => ?_); go_simp; refine hK _ _ ?_; clear hK K) | (refine pl_loadF rfl rfl (by first | exact wanted_none rfl | (go_simp; done) | rfl) rfl (by first | rfl | (go_simp; rfl)) (by kernel_rfl) HC1.out (fun w2_ h => h.1) (fun K hK => ?_); go_simp; refine hK _ _ ?_; clear hK K) | (refine pl_calm rfl rfl (by first | exact wanted_none rfl | (go_simp; done) | rfl) (fun w_ => by first | (go_simp; rfl) | (go_simp; done) | rfl) (fun K hK => ?_); go_simp; refine hK _ _ ?_; clear hK K))
     refine pl_act rfl (by exact wanted_none rfl) (fun K hK => ?_)
     go_wp2_with fail
     refine (HID.out _ HT.out).mono ?_
     rintro e w2_ ⟨rfl, hb_⟩
     go_wp2_with fail
     refine hK _ _ (fun _ => ⟨hb_.block gp HPB.out.lt, hb_.block gp HPB.out.lt⟩) ?_
     clear hK K HC0 HC1
     replace HPB := kp (HPB.out.grow hb_)
     replace HV := kp (HV.out.grow hb_)
     replace HX := kp (HX.out.grow hb_)
     replace HT := kp (HT.out.grow hb_)
     replace HB := kp (HB.out.grow' hb_)
     clear hb_
     try clear w_
     rename World => w_
     refine pl_act rfl (by exact wanted_none rfl) (fun K hK => ?_)
     have k0 := HX.out.at_ (show h4[0]? = some (.int .i64 s) by rw [E4.out]; rfl)
     have f0 := HX.out.frozen 0
     have HX1 := kp (HX.out.set_ 0 (.int .i64 p.shard))
     have HP1 := kp (HPB.out.far (p := ⟨gv, 0, none⟩) HGX.out.1.symm (.int .i64 p.shard))
     have HV1 := kp (HV.out.far (p := ⟨gv, 0, none⟩) HGX.out.2.1.symm (.int .i64 p.shard))
     have HB1 := kp (show Grow w (w_.setCell ⟨gv, 0, none⟩ (.int .i64 p.shard)) from Below.setCell HB.out HGX.out.2.2 _)
     go_wp2_with fail
     refine hK _ _ (fun _ => ⟨Below.heap_setCell w_ ⟨gv, 0, none⟩ _ gp HGX.out.1.symm, Below.heap_setCell w_ ⟨gv, 0, none⟩ _ gp HGX.out.1.symm⟩) ?_
     clear hK K k0 f0 HX HPB HV HB HT
     generalize w_.setCell ⟨gv, 0, none⟩ (.int .i64 p.shard) = w3_ at HX1 HP1 HV1 HB1 ⊢
     try clear w_
     rename World => w_
     repeat (first | (refine pl_calm rfl rfl (by first | exact wanted_none rfl | (go_simp; done) | rfl) (fun w_ => by first | (go_simp; rfl) | (go_simp; done) | rfl) (fun K hK => ?_); go_simp; refine hK _ _ ?_; clear hK K))
     refine pl_act rfl (by exact wanted_none rfl) (fun K hK => ?_)
     have k1 := HX1.out.at_ (i := 1) (v := .int .i64 1) (by rw [E4.out]; rfl)
     have f1 := HX1.out.frozen 1
     have HX := kp (HX1.out.set_ 1 (.int .i64 (p.height + 1)))
     have HPB := kp (HP1.out.far (p := ⟨gv, 1, none⟩) HGX.out.1.symm (.int .i64 (p.height + 1)))
     have HV := kp (HV1.out.far (p := ⟨gv, 1, none⟩) HGX.out.2.1.symm (.int .i64 (p.height + 1)))
     have HB := kp (show Grow w (w_.setCell ⟨gv, 1, none⟩ (.int .i64 (p.height + 1))) from Below.setCell HB1.out HGX.out.2.2 _)
     go_wp2_with fail
     refine hK _ _ (fun h => by cases h) ?_
     clear hK K k1 f1 HX1 HP1 HV1 HB1
     generalize w_.setCell ⟨gv, 1, none⟩ (.int .i64 (p.height + 1)) = w3_ at HX HPB HV HB ⊢
     try clear w_
     rename World => w_
     repeat (first | (refine pl_calm rfl rfl (by first | exact wanted_none rfl | (go_simp; done) | rfl) (fun w_ => by first | (go_simp; rfl) | (go_simp; done) | rfl) (fun K hK => ?_); go_simp; refine hK _ _ ?_; clear hK K))
     refine pl_act rfl (by exact wanted_none rfl) (fun K hK => ?_)
     refine wpl_storem rfl rfl row_id HX.out rfl rfl HZ.out.len (by simp only [List.length_set]; rw [L4.out]; omega) HZ.out.one ?_
     intro w2_ hb2 hg2 hs2
     go_wp2_with fail
     refine hK _ _ (fun h => by cases h) ?_
     clear hK K
     refine pl_done ?_
     have HX_ := kp hb2
     have HPB_ := kp (HPB.out.grown hg2 (by simpa using HGX.out.1.symm))
     have HV_ := kp (HV.out.grown hg2 (by simpa using HGX.out.2.1.symm))
     have HB_ := kp (put_below HB.out HGX.out.2.2 hg2)
     clear hb2 hg2 hs2 HX HPB HV HB
     have HX := HX_; have HPB := HPB_; have HV := HV_; have HB := HB_
     clear HX_ HPB_ HV_ HB_
     try clear w_
     rename World => w_
     rw [E4.out, HZ.out.1, hdr_next (by simp [zeroD]) (hidB_len p)] at HX
     replace HX := kp (show Blk w_ gv 33 (hdrV (nextH p false ls s ep)) from HX.out)
     have HNO_ := kp (show (nextH p false ls s ep).ok from ⟨HPO.out.1, by show I64 (p.height + 1); unfold I64; omega, HEI.out, hidB_len p, rootB_len ls⟩)
     have HOKE := kp (show nextOK p false ls s ep = rightH (nextH p false ls s ep) by unfold nextOK; rw [← HNN.out, HRPE.out]; simp; omega)
     have LN := kp (hdrV_length HNO_.out)
     have ON := kp (hdr_one (nextH p false ls s ep))
     have HRN := kp (fun w => hright_any (nextH p false ls s ep) w HNO_.out)
     rw [← HOKE.out] at HRN
     obtain ⟨ok, hok⟩ : ∃ o, o = nextOK p false ls s ep := ⟨_, rfl⟩
     have HK := kp hok.symm
     rw [← hok] at HRN
     clear hok
     obtain ⟨hv, hhv⟩ : ∃ v, v = hdrV (nextH p false ls s ep) := ⟨_, rfl⟩
     have EHV := kp hhv
     rw [← hhv] at HX LN ON HRN
     clear hhv
     go_wp2_with (first | (with_reducible refine wpl_loadb (o := ⟨some 49, _, _, _, _, _⟩) rfl rfl row_header HX.out rfl LN.out ?_))
     refine (HRN.out _).mono ?_
     rintro e w2_ ⟨rfl, hb_⟩
     try clear HT
     replace HPB := kp (HPB.out.grow hb_)
     replace HV := kp (HV.out.grow hb_)
     replace HX := kp (HX.out.grow hb_)
     replace HB := kp (HB.out.grow' hb_)
     clear hb_
     try clear w_
     rename World => w_
     cases ok with
     | false =>
      have HNO := HK
      go_wp2_with (first | (refine wpl_build (o := ⟨some 52, _, _, _, _, _⟩) rfl rfl T0.out ?_) | (with_reducible refine wpl_storeb (o := ⟨none, .store _ _ _, _, _, _, _⟩) rfl rfl row_header HV.out rfl rfl LZ.out LZ.out OZ.out ?_))
      intro w9 hb9 hg9 hs9
      have HB9 := kp hb9
      have HBB := kp (put_below HB.out HGV.out hg9)
      clear hb9 hg9 hs9
      go_wp2_with fail
      refine ret_cell_tmp rfl row_header HB9.out rfl LZ.out rfl rfl ?_
      exact ⟨by rw [nextB_no HNO.out, HNO.out, HNZ.out]; try rfl, HBB.out⟩
     | true =>
      go_wp2_with (first | (with_reducible refine wpl_loadb (o := ⟨some 53, _, _, _, _, _⟩) rfl rfl row_header HX.out rfl LN.out ?_) | (with_reducible refine wpl_storeb (o := ⟨none, .store _ _ _, _, _, _, _⟩) rfl rfl row_header HV.out rfl rfl LZ.out LN.out ON.out ?_))
      intro w9 hb9 hg9 hs9
      have HB9 := kp hb9
      have HBB := kp (put_below HB.out HGV.out hg9)
      clear hb9 hg9 hs9
      go_wp2_with fail
      refine ret_cell_tmp rfl row_header HB9.out rfl LN.out rfl rfl ?_
      exact ⟨by rw [nextB_yes HK.out, HK.out, EHV.out]; try rfl, HBB.out⟩
 ·have d3 : ((n : Int) != 3) = true := by rw [bne_iff_ne]; omega
  have HNO := kp (show nextOK p first ls s ep = false by unfold nextOK; rw [show decide (ls.length = 3) = false by have := HNN.out; simp; omega]; simp)
  go_wp2_with (first | (refine wpl_build (o := ⟨some 31, _, _, _, _, _⟩) rfl rfl T0.out ?_) | (with_reducible refine wpl_storeb (o := ⟨none, .store _ _ _, _, _, _, _⟩) rfl rfl row_header HV.out rfl rfl LZ.out LZ.out OZ.out ?_))
  intro w9 hb9 hg9 hs9
  have HB9 := kp hb9
  have HBB := kp (put_below HB.out HGV.out hg9)
  clear hb9 hg9 hs9
  go_wp2_with fail
  refine ret_cell_tmp rfl row_header HB9.out rfl LZ.out rfl rfl ?_
  exact ⟨by rw [nextB_no HNO.out, HNO.out, HNZ.out]; try rfl, HBB.out⟩
section
variable {P : Program} {ops : Array Oper} {rest : List Oper} {o : Oper} {a : Act} {w : World} {Q : Exit → Act → World → Prop}
theorem wpl_loadmw {T : TypeId} {x : Operand} {n b off : Nat} {cs : List Value} (hw : Region.wanted o (yielded ops a.tmps) = true) (ho : o.op = .load T x) (hT : RowT P T n) (hc : ∀ j u, cs[j]? = some u → w.cell? ⟨b, off + j, none⟩ = some u) (hx : a.eval x = .pointer (some ⟨b, off, none⟩)) (hn : cs.length = n)
  (h : wpList P ops Q rest (a.put o.dst (.agg cs.toArray)) w) : wpList P ops Q (o :: rest) a w := by
 refine wpl_wanted hw fun K hK => ?_
 obtain ⟨d, hu, hd, hi⟩ := hT
 have hrun := run_loadVar_mid (P := P) w b off T cs d hc hu (by cases d <;> simp_all) (by rw [hi, hn])
 unfold Oper.wp execOp
 simp only [ho, hx, Instr.loadAt, Instr.sureAddr, Sem.run_bind, Sem.run_pure, Result.andThen_ok, hrun]
 exact hK _ _ h
end
end Go.Proofs.YtphmefhnffoafaaGreatDoor
namespace Go.Proofs.YtphmefhnffoafaaGreatDoor
open Go.RowKit Go.Shelf
set_option linter.unusedVariables false
set_option maxRecDepth 100000 in
set_option maxHeartbeats 40000000 in
theorem rnext_any (p : Hdr) (first : Bool) (A : Option Addr) (n c : Nat) (ls : List (List UInt8)) (s ep : Int) (w : World) (hp : p.ok) (hl : LS w A n c ls) (hn : n = ls.length) (hnm : n ≤ 1000000) (hlm : ∀ l ∈ ls, l.length ≤ 1000000) (hs : I64 s) (hep : I64 ep) (ht : Tabs w) :
  Calls Tryz.prog 18 #[.agg (hdrV p).toArray, .bool first, .slice A n c, .int .i64 s, .int .i64 ep] w fun e w' => e = .returned (.tuple #[.agg (hdrV (nextB p first ls s ep)).toArray, .bool (nextOK p first ls s ep)]) ∧ Below w.heap.size w w' := by
 have HPO := kp hp; have HS := kp hl; have HT := kp ht; have HTW := kp ht; have HLM := kp hlm; have HNN := kp hn; have HSI := kp hs; have HEI := kp hep
 obtain ⟨rs, hrs⟩ := dig_root ls
 have HRS := kp hrs
 obtain ⟨zs, hzs⟩ : ∃ zs, Dig zs (hidB p) := ⟨(hidB p).map B, rfl, hidB_len p⟩
 have HZ := kp hzs
 have HRP := kp (fun w => rhright_any p w hp)
 have IP := kp (hdr_at hp)
 have LP := kp (hdrV_length hp)
 have LZ := kp (hdrV_length noHdr_ok)
 have OZ := kp (hdr_one noHdr)
 have T0 := kp built_hdrE
 have T4 := kp (built_hdr4 (s := s) (ep := ep) (rootB_len ls))
 rw [← hrs.1] at T4
 have L4 := kp (hdrV_length (e := ⟨s, 1, ep, zeroD, rootB ls⟩) ⟨hs, by simp [I64], hep, by simp [zeroD], rootB_len ls⟩)
 have O4 := kp (hdr_one ⟨s, 1, ep, zeroD, rootB ls⟩)
 obtain ⟨h4, hh4⟩ : ∃ v, v = hdrV ⟨s, 1, ep, zeroD, rootB ls⟩ := ⟨_, rfl⟩
 have E4 := kp hh4
 rw [← hh4] at T4 L4 O4
 obtain ⟨nz, hnz⟩ : ∃ v, v = hdrV noHdr := ⟨_, rfl⟩
 have HNZ := kp hnz.symm
 rw [← hnz] at LZ OZ T0
 have Z2 := kp zero_hdr2
 rw [← hnz] at Z2
 obtain ⟨rp, hrp⟩ : ∃ r, r = rightH p := ⟨_, rfl⟩
 have HRPE := kp hrp.symm
 rw [← hrp] at HRP
 obtain ⟨pv, hpv⟩ : ∃ v, v = hdrV p := ⟨_, rfl⟩
 have HPV := kp hpv
 have HID := kp (fun w => rhid_any p hzs w hp)
 rw [← hpv] at HRP IP LP HID ⊢
 clear hrs hzs hh4 hnz hrp hpv hl ht hlm hp hn hs hep
 have HB := kp (Below.refl w.heap.size w)
 obtain ⟨gp, hgp⟩ : ∃ g, g = w.heap.size := ⟨_, rfl⟩
 have HGP := kp hgp
 go_enter Tryz.func18, Tryz.ntmps18
 go_wp2_with (first | (with_reducible refine wpl_box (o := ⟨some 5, _, _, _, _, _⟩) rfl rfl rfl ?_))
 intro w1 hb1 hbw1 hsz1
 rw [← hgp] at hb1 hbw1 hsz1 ⊢
 clear hgp
 obtain ⟨gr, hgr⟩ : ∃ g, g = gp + 1 := ⟨_, rfl⟩
 have HGR := kp hgr
 go_wp2_with (first | (with_reducible refine wpl_alloc (o := ⟨some 10, _, _, _, _, _⟩) rfl rfl Z2.out ?_))
 intro w_ hb2 hbw2 hsz2
 have HPB := kp (hb1.below hbw2 (by omega))
 have HV := kp (show Blk w_ gr 33 nz by rw [HGR.out]; first | exact hb2 | (rw [hsz1] at hb2; exact hb2))
 have HB_ := kp (show Grow w w_ by rw [HGP.out] at hbw1; exact Below.trans hbw1 (hbw2.mono (by have := HGP.out; omega)))
 have HT_ := kp (HT.out.grow HB_.out)
 have HS_ := kp (HS.out.grow HB_.out)
 have HGV := kp (show w.heap.size ≤ gr by have := HGP.out; have := HGR.out; omega)
 try rw [← hgr]
 clear hb1 hb2 hbw1 hbw2 hsz1 hsz2 HB HT HS hgr
 have HB := HB_; have HT := HT_; have HS := HS_
 clear HB_ HT_ HS_
 try clear w1
 by_cases h3 : n = 3
 ·subst h3
  cases first with
  | true =>
   go_wp2_with fail
   refine (ls_rroot_any HS.out HRS.out (by omega) HLM.out HT.out).mono ?_
   rintro e w2_ ⟨rfl, hb_⟩
   replace HPB := kp (HPB.out.grow hb_)
   replace HV := kp (HV.out.grow hb_)
   replace HT := kp (HT.out.grow hb_)
   replace HB := kp (HB.out.grow' hb_)
   clear hb_
   try clear w_
   rename World => w_
   try clear HS
   go_wp2_with (first | (refine wpl_build (o := ⟨some 36, _, _, _, _, _⟩) rfl rfl T4.out ?_) | (with_reducible refine wpl_alloc (o := ⟨some 12, _, _, _, _, _⟩) rfl rfl Z2.out ?_))
   intro w2_ hb2 hb_ hs2
   obtain ⟨gv, hgv⟩ : ∃ g, g = w_.heap.size := ⟨_, rfl⟩
   rw [← hgv] at hb2 hs2 ⊢
   have HX := kp hb2
   have HGX := kp (show gv ≠ gp ∧ gv ≠ gr ∧ w.heap.size ≤ gv by have h1 := HPB.out.lt; have h2 := HV.out.lt; have h3 := HB.out.size; omega)
   clear hb2 hs2 hgv
   replace HPB := kp (HPB.out.grow hb_)
   replace HV := kp (HV.out.grow hb_)
   replace HT := kp (HT.out.grow hb_)
   replace HB := kp (HB.out.grow' hb_)
   clear hb_
   try clear w_
   rename World => w_
   go_wp2_with (first | (with_reducible refine wpl_storeb (o := ⟨none, .store _ _ _, _, _, _, _⟩) rfl rfl row_header HX.out rfl rfl LZ.out L4.out O4.out ?_))
   intro w2_ hb2 hg2 hs2
   have HX_ := kp hb2
   have HPB_ := kp (HPB.out.grown hg2 (by simpa using HGX.out.1.symm))
   have HV_ := kp (HV.out.grown hg2 (by simpa using HGX.out.2.1.symm))
   have HB_ := kp (put_below HB.out HGX.out.2.2 hg2)
   have HT_ := kp (HTW.out.grow HB_.out)
   clear hb2 hg2 hs2 HX HPB HV HB HT
   have HX := HX_; have HPB := HPB_; have HV := HV_; have HB := HB_; have HT := HT_
   clear HX_ HPB_ HV_ HB_ HT_
   try clear w_
   rename World => w_
   have HNV := kp (show h4 = hdrV (nextH p true ls s ep) from E4.out)
   rw [HNV.out] at HX
   have HNO_ := kp (show (nextH p true ls s ep).ok from ⟨HSI.out, by simp [I64, nextH], HEI.out, by simp [nextH, zeroD], rootB_len ls⟩)
   have HOKE := kp (show nextOK p true ls s ep = rightH (nextH p true ls s ep) by unfold nextOK; rw [← HNN.out]; simp)
   have LN := kp (hdrV_length HNO_.out)
   have ON := kp (hdr_one (nextH p true ls s ep))
   have HRN := kp (fun w => rhright_any (nextH p true ls s ep) w HNO_.out)
   rw [← HOKE.out] at HRN
   obtain ⟨ok, hok⟩ : ∃ o, o = nextOK p true ls s ep := ⟨_, rfl⟩
   have HK := kp hok.symm
   rw [← hok] at HRN
   clear hok
   obtain ⟨hv, hhv⟩ : ∃ v, v = hdrV (nextH p true ls s ep) := ⟨_, rfl⟩
   have EHV := kp hhv
   rw [← hhv] at HX LN ON HRN
   clear hhv
   go_wp2_with (first | (with_reducible refine wpl_loadb (o := ⟨some 49, _, _, _, _, _⟩) rfl rfl row_header HX.out rfl LN.out ?_))
   refine (HRN.out _).mono ?_
   rintro e w2_ ⟨rfl, hb_⟩
   try clear HT
   replace HPB := kp (HPB.out.grow hb_)
   replace HV := kp (HV.out.grow hb_)
   replace HX := kp (HX.out.grow hb_)
   replace HB := kp (HB.out.grow' hb_)
   clear hb_
   try clear w_
   rename World => w_
   cases ok with
   | false =>
    have HNO := HK
    go_wp2_with (first | (refine wpl_build (o := ⟨some 52, _, _, _, _, _⟩) rfl rfl T0.out ?_) | (with_reducible refine wpl_storeb (o := ⟨none, .store _ _ _, _, _, _, _⟩) rfl rfl row_header HV.out rfl rfl LZ.out LZ.out OZ.out ?_))
    intro w9 hb9 hg9 hs9
    have HB9 := kp hb9
    have HBB := kp (put_below HB.out HGV.out hg9)
    clear hb9 hg9 hs9
    go_wp2_with fail
    refine ret_cell_tmp rfl row_header HB9.out rfl LZ.out rfl rfl ?_
    exact ⟨by rw [nextB_no HNO.out, HNO.out, HNZ.out]; try rfl, HBB.out⟩
   | true =>
    go_wp2_with (first | (with_reducible refine wpl_loadb (o := ⟨some 53, _, _, _, _, _⟩) rfl rfl row_header HX.out rfl LN.out ?_) | (with_reducible refine wpl_storeb (o := ⟨none, .store _ _ _, _, _, _, _⟩) rfl rfl row_header HV.out rfl rfl LZ.out LN.out ON.out ?_))
    intro w9 hb9 hg9 hs9
    have HB9 := kp hb9
    have HBB := kp (put_below HB.out HGV.out hg9)
    clear hb9 hg9 hs9
    go_wp2_with fail
    refine ret_cell_tmp rfl row_header HB9.out rfl LN.out rfl rfl ?_
    exact ⟨by rw [nextB_yes HK.out, HK.out, EHV.out]; try rfl, HBB.out⟩
  | false =>
   go_wp2_with (first | (with_reducible refine wpl_loadw (o := ⟨some 20, _, _, _, _, _⟩) (by first | rfl | (go_simp; done) | fail) rfl row_header HPB.out rfl LP.out ?_))
   refine (HRP.out _).mono ?_
   rintro e w2_ ⟨rfl, hb_⟩
   replace HPB := kp (HPB.out.grow hb_)
   replace HV := kp (HV.out.grow hb_)
   replace HT := kp (HT.out.grow hb_)
   replace HS := kp (HS.out.grow hb_)
   replace HB := kp (HB.out.grow' hb_)
   clear hb_
   try clear w_
   rename World => w_
   cases rp with
   | false =>
    have HNO := kp (show nextOK p false ls s ep = false by unfold nextOK; rw [HRPE.out]; simp)
    go_wp2_with (first | (refine wpl_build (o := ⟨some 31, _, _, _, _, _⟩) rfl rfl T0.out ?_) | (with_reducible refine wpl_storeb (o := ⟨none, .store _ _ _, _, _, _, _⟩) rfl rfl row_header HV.out rfl rfl LZ.out LZ.out OZ.out ?_))
    intro w9 hb9 hg9 hs9
    have HB9 := kp hb9
    have HBB := kp (put_below HB.out HGV.out hg9)
    clear hb9 hg9 hs9
    go_wp2_with fail
    refine ret_cell_tmp rfl row_header HB9.out rfl LZ.out rfl rfl ?_
    exact ⟨by rw [nextB_no HNO.out, HNO.out, HNZ.out]; try rfl, HBB.out⟩
   | true =>
    have c2 := HPB.out.at_ IP.out.2.2
    have hrb := rightH_iff.1 HRPE.out
    have v1 : IntKind.i64.wrap (p.height + 1) = p.height + 1 := IntWalk.i64_in _ (by omega)
    have v2 : RowKit.wrap64 (p.height + 1) = p.height + 1 := wrap64_in _ (by omega)
    by_cases he : ep < p.epoch
    ·have d1 : decide (ep < p.epoch) = true := by simpa using he
     have HNO := kp (show nextOK p false ls s ep = false by unfold nextOK; rw [show decide (p.epoch ≤ ep) = false by simp; omega]; simp)
     go_wp2_with (first | (refine wpl_build (o := ⟨some 31, _, _, _, _, _⟩) rfl rfl T0.out ?_) | (with_reducible refine wpl_storeb (o := ⟨none, .store _ _ _, _, _, _, _⟩) rfl rfl row_header HV.out rfl rfl LZ.out LZ.out OZ.out ?_))
     intro w9 hb9 hg9 hs9
     have HB9 := kp hb9
     have HBB := kp (put_below HB.out HGV.out hg9)
     clear hb9 hg9 hs9
     go_wp2_with fail
     refine ret_cell_tmp rfl row_header HB9.out rfl LZ.out rfl rfl ?_
     exact ⟨by rw [nextB_no HNO.out, HNO.out, HNZ.out]; try rfl, HBB.out⟩
    ·have d1 : decide (ep < p.epoch) = false := by simpa using he
     have hrb2 := HRPE.out
     go_wp2_with fail
     refine (ls_rroot_any HS.out HRS.out (by omega) HLM.out HT.out).mono ?_
     rintro e w2_ ⟨rfl, hb_⟩
     replace HPB := kp (HPB.out.grow hb_)
     replace HV := kp (HV.out.grow hb_)
     replace HT := kp (HT.out.grow hb_)
     replace HB := kp (HB.out.grow' hb_)
     clear hb_
     try clear w_
     rename World => w_
     try clear HS
     go_wp2_with (first | (refine wpl_build (o := ⟨some 36, _, _, _, _, _⟩) rfl rfl T4.out ?_) | (with_reducible refine wpl_alloc (o := ⟨some 12, _, _, _, _, _⟩) rfl rfl Z2.out ?_))
     intro w2_ hb2 hb_ hs2
     obtain ⟨gv, hgv⟩ : ∃ g, g = w_.heap.size := ⟨_, rfl⟩
     rw [← hgv] at hb2 hs2 ⊢
     have HX := kp hb2
     have HGX := kp (show gv ≠ gp ∧ gv ≠ gr ∧ w.heap.size ≤ gv by have h1 := HPB.out.lt; have h2 := HV.out.lt; have h3 := HB.out.size; omega)
     clear hb2 hs2 hgv
     replace HPB := kp (HPB.out.grow hb_)
     replace HV := kp (HV.out.grow hb_)
     replace HT := kp (HT.out.grow hb_)
     replace HB := kp (HB.out.grow' hb_)
     clear hb_
     try clear w_
     rename World => w_
     go_wp2_with (first | (with_reducible refine wpl_storeb (o := ⟨none, .store _ _ _, _, _, _, _⟩) rfl rfl row_header HX.out rfl rfl LZ.out L4.out O4.out ?_))
     intro w2_ hb2 hg2 hs2
     have HX_ := kp hb2
     have HPB_ := kp (HPB.out.grown hg2 (by simpa using HGX.out.1.symm))
     have HV_ := kp (HV.out.grown hg2 (by simpa using HGX.out.2.1.symm))
     have HB_ := kp (put_below HB.out HGX.out.2.2 hg2)
     have HT_ := kp (HTW.out.grow HB_.out)
     clear hb2 hg2 hs2 HX HPB HV HB HT
     have HX := HX_; have HPB := HPB_; have HV := HV_; have HB := HB_; have HT := HT_
     clear HX_ HPB_ HV_ HB_ HT_
     try clear w_
     rename World => w_
     have c0 := HPB.out.at_ IP.out.1
     have k0 := HX.out.at_ (show h4[0]? = some (.int .i64 s) by rw [E4.out]; rfl)
     have f0 := HX.out.frozen 0
     have HX1 := kp (HX.out.set_ 0 (.int .i64 p.shard))
     have HP1 := kp (HPB.out.far (p := ⟨gv, 0, none⟩) HGX.out.1.symm (.int .i64 p.shard))
     have c1 := HP1.out.at_ IP.out.2.1
     have k1 := HX1.out.at_ (i := 1) (v := .int .i64 1) (by rw [E4.out]; rfl)
     have f1 := HX1.out.frozen 1
     have HX2 := kp (HX1.out.set_ 1 (.int .i64 (p.height + 1)))
     have HP2 := kp (HP1.out.far (p := ⟨gv, 1, none⟩) HGX.out.1.symm (.int .i64 (p.height + 1)))
     have HV2 := kp ((HV.out.far (p := ⟨gv, 0, none⟩) HGX.out.2.1.symm (.int .i64 p.shard)).far (p := ⟨gv, 1, none⟩) HGX.out.2.1.symm (.int .i64 (p.height + 1)))
     have HB2 := kp (show Grow w ((w_.setCell ⟨gv, 0, none⟩ (.int .i64 p.shard)).setCell ⟨gv, 1, none⟩ (.int .i64 (p.height + 1))) from Below.setCell (Below.setCell HB.out HGX.out.2.2 _) HGX.out.2.2 _)
     go_wp2_with (first | (with_reducible refine wpl_loadb (o := ⟨some 46, _, _, _, _, _⟩) rfl rfl row_header HP2.out rfl LP.out ?_))
     clear c0 k0 f0 c1 k1 f1 HX HPB HV HB HX1 HP1
     generalize (w_.setCell ⟨gv, 0, none⟩ (.int .i64 p.shard)).setCell ⟨gv, 1, none⟩ (.int .i64 (p.height + 1)) = w3_ at HX2 HP2 HV2 HB2 ⊢
     have HX := HX2; have HPB := HP2; have HV := HV2; have HB := HB2
     clear HX2 HP2 HV2 HB2
     refine (HID.out _).mono ?_
     rintro e w2_ ⟨rfl, hb_⟩
     clear HT
     try clear w_
     obtain ⟨w_, hww⟩ : ∃ k : World, k = w3_ := ⟨_, rfl⟩
     subst hww
     replace HPB := kp (HPB.out.grow hb_)
     replace HV := kp (HV.out.grow hb_)
     replace HX := kp (HX.out.grow hb_)
     replace HB := kp (HB.out.grow' hb_)
     clear hb_
     try clear w_
     rename World => w_
     go_wp2_with (first | (with_reducible refine wpl_storem (o := ⟨none, .store _ _ _, _, _, _, _⟩) rfl rfl row_id HX.out rfl rfl HZ.out.len (by simp only [List.length_set]; rw [L4.out]; omega) HZ.out.one ?_))
     intro w2_ hb2 hg2 hs2
     have HX_ := kp hb2
     have HPB_ := kp (HPB.out.grown hg2 (by simpa using HGX.out.1.symm))
     have HV_ := kp (HV.out.grown hg2 (by simpa using HGX.out.2.1.symm))
     have HB_ := kp (put_below HB.out HGX.out.2.2 hg2)
     clear hb2 hg2 hs2 HX HPB HV HB
     have HX := HX_; have HPB := HPB_; have HV := HV_; have HB := HB_
     clear HX_ HPB_ HV_ HB_
     try clear w_
     rename World => w_
     rw [E4.out, HZ.out.1, hdr_next (by simp [zeroD]) (hidB_len p)] at HX
     replace HX := kp (show Blk w_ gv 33 (hdrV (nextH p false ls s ep)) from HX.out)
     have HNO_ := kp (show (nextH p false ls s ep).ok from ⟨HPO.out.1, by show I64 (p.height + 1); unfold I64; omega, HEI.out, hidB_len p, rootB_len ls⟩)
     have HOKE := kp (show nextOK p false ls s ep = rightH (nextH p false ls s ep) by unfold nextOK; rw [← HNN.out, HRPE.out]; simp; omega)
     have LN := kp (hdrV_length HNO_.out)
     have ON := kp (hdr_one (nextH p false ls s ep))
     have HRN := kp (fun w => rhright_any (nextH p false ls s ep) w HNO_.out)
     rw [← HOKE.out] at HRN
     obtain ⟨ok, hok⟩ : ∃ o, o = nextOK p false ls s ep := ⟨_, rfl⟩
     have HK := kp hok.symm
     rw [← hok] at HRN
     clear hok
     obtain ⟨hv, hhv⟩ : ∃ v, v = hdrV (nextH p false ls s ep) := ⟨_, rfl⟩
     have EHV := kp hhv
     rw [← hhv] at HX LN ON HRN
     clear hhv
     go_wp2_with (first | (with_reducible refine wpl_loadb (o := ⟨some 49, _, _, _, _, _⟩) rfl rfl row_header HX.out rfl LN.out ?_))
     refine (HRN.out _).mono ?_
     rintro e w2_ ⟨rfl, hb_⟩
     try clear HT
     replace HPB := kp (HPB.out.grow hb_)
     replace HV := kp (HV.out.grow hb_)
     replace HX := kp (HX.out.grow hb_)
     replace HB := kp (HB.out.grow' hb_)
     clear hb_
     try clear w_
     rename World => w_
     cases ok with
     | false =>
      have HNO := HK
      go_wp2_with (first | (refine wpl_build (o := ⟨some 52, _, _, _, _, _⟩) rfl rfl T0.out ?_) | (with_reducible refine wpl_storeb (o := ⟨none, .store _ _ _, _, _, _, _⟩) rfl rfl row_header HV.out rfl rfl LZ.out LZ.out OZ.out ?_))
      intro w9 hb9 hg9 hs9
      have HB9 := kp hb9
      have HBB := kp (put_below HB.out HGV.out hg9)
      clear hb9 hg9 hs9
      go_wp2_with fail
      refine ret_cell_tmp rfl row_header HB9.out rfl LZ.out rfl rfl ?_
      exact ⟨by rw [nextB_no HNO.out, HNO.out, HNZ.out]; try rfl, HBB.out⟩
     | true =>
      go_wp2_with (first | (with_reducible refine wpl_loadb (o := ⟨some 53, _, _, _, _, _⟩) rfl rfl row_header HX.out rfl LN.out ?_) | (with_reducible refine wpl_storeb (o := ⟨none, .store _ _ _, _, _, _, _⟩) rfl rfl row_header HV.out rfl rfl LZ.out LN.out ON.out ?_))
      intro w9 hb9 hg9 hs9
      have HB9 := kp hb9
      have HBB := kp (put_below HB.out HGV.out hg9)
      clear hb9 hg9 hs9
      go_wp2_with fail
      refine ret_cell_tmp rfl row_header HB9.out rfl LN.out rfl rfl ?_
      exact ⟨by rw [nextB_yes HK.out, HK.out, EHV.out]; try rfl, HBB.out⟩
 ·have d3 : ((n : Int) != 3) = true := by rw [bne_iff_ne]; omega
  have HNO := kp (show nextOK p first ls s ep = false by unfold nextOK; rw [show decide (ls.length = 3) = false by have := HNN.out; simp; omega]; simp)
  go_wp2_with (first | (refine wpl_build (o := ⟨some 31, _, _, _, _, _⟩) rfl rfl T0.out ?_) | (with_reducible refine wpl_storeb (o := ⟨none, .store _ _ _, _, _, _, _⟩) rfl rfl row_header HV.out rfl rfl LZ.out LZ.out OZ.out ?_))
  intro w9 hb9 hg9 hs9
  have HB9 := kp hb9
  have HBB := kp (put_below HB.out HGV.out hg9)
  clear hb9 hg9 hs9
  go_wp2_with fail
  refine ret_cell_tmp rfl row_header HB9.out rfl LZ.out rfl rfl ?_
  exact ⟨by rw [nextB_no HNO.out, HNO.out, HNZ.out]; try rfl, HBB.out⟩
def KeepC (w : World) (a : Addr) (v : Value) : Prop := w.cell? a = some v
theorem KeepC.grow {w w' : World} {a : Addr} {v : Value} (h : KeepC w a v) (k : Grow w w') : KeepC w' a v := by
 unfold KeepC at *
 rw [k.cell (World.block_lt_of_cell? w _ h)]; exact h
theorem nextB_ok {p : Hdr} {first : Bool} {ls : List (List UInt8)} {s ep : Int} : (nextB p first ls s ep).ok := by
 by_cases h : nextOK p first ls s ep = true
 ·rw [nextB_yes h]
  have hr : rightH (nextH p first ls s ep) = true := by unfold nextOK at h; simp only [Bool.and_eq_true] at h; exact h.2
  have hb := rightH_iff.1 hr
  have hl : (nextH p first ls s ep).prev.length = 32 ∧ (nextH p first ls s ep).root.length = 32 := by unfold nextH; split <;> simp [zeroD, hidB_len, rootB_len]
  exact ⟨⟨by omega, by omega⟩, ⟨by omega, by omega⟩, ⟨by omega, by omega⟩, hl.1, hl.2⟩
 ·rw [nextB_no (by simpa using h)]; exact noHdr_ok
def HV (xs : List Value) : Prop := xs.length = 67 ∧ ∀ u ∈ xs, u.oneCell' = true
theorem HV.len {xs : List Value} (h : HV xs) : xs.length = 67 := h.1
theorem hv_of {x : Hdr} (h : x.ok) : HV (hdrV x) := ⟨hdrV_length h, hdr_one x⟩
theorem len_header : (hdrV noHdr).length = 67 := hdrV_length noHdr_ok
theorem zero_header : (Tryz.prog.info? 33).map (·.zero) = some (some (.agg (hdrV noHdr).toArray)) := zero_hdr2
end Go.Proofs.YtphmefhnffoafaaGreatDoor

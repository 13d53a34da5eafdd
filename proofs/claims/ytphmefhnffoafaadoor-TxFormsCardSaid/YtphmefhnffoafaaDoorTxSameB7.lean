/- The contract of the document's Next. Printed by mknext.py. -/
import Derived.Test.YtphmefhnffoafaaDoorHeaderFollowsB17
import Derived.Test.YtphmefhnffoafaaDoorHeaderFollowsB18
set_option linter.unusedSimpArgs false
/- The contract of the document's Next. Printed by mknext.py. -/
namespace Go.Proofs.YtphmefhnffoafaaDoor
open Go.RowKit Go.Shelf
set_option linter.unusedVariables false
set_option maxRecDepth 100000 in
set_option maxHeartbeats 40000000 in
theorem rnext_any (p : Hdr) (first : Bool) (A : Option Addr) (n c : Nat) (ls : List (List UInt8)) (s ep : Int) (w : World) (hp : p.ok) (hl : LS w A n c ls) (hn : n = ls.length) (hnm : n ≤ 1000000) (hlm : ∀ l ∈ ls, l.length ≤ 1000000) (hs : I64 s) (hep : I64 ep) (ht : Tabs w) :
    Calls Tryd.prog 20 #[.agg (hdrV p).toArray, .bool first, .slice A n c, .int .i64 s, .int .i64 ep] w fun e w' => e = .returned (.tuple #[.agg (hdrV (nextB p first ls s ep)).toArray, .bool (nextOK p first ls s ep)]) ∧ Below w.heap.size w w' := by
  have HPO := Lib.hid hp; have HS := Lib.hid hl; have HT := Lib.hid ht; have HTW := Lib.hid ht; have HLM := Lib.hid hlm; have HNN := Lib.hid hn; have HSI := Lib.hid hs; have HEI := Lib.hid hep
  obtain ⟨rs, hrs⟩ := dig_root ls
  have HRS := Lib.hid hrs
  obtain ⟨zs, hzs⟩ : ∃ zs, Dig zs (hidB p) := ⟨(hidB p).map B, rfl, hidB_len p⟩
  have HZ := Lib.hid hzs
  have HRP := Lib.hid (fun w => rhright_any p w hp)
  have IP := Lib.hid (hdr_at hp)
  have LP := Lib.hid (hdrV_length hp)
  have LZ := Lib.hid (hdrV_length noHdr_ok)
  have OZ := Lib.hid (hdr_one noHdr)
  have T0 := Lib.hid built_hdrE
  have T4 := Lib.hid (built_hdr4 (s := s) (ep := ep) (rootB_len ls))
  rw [← hrs.1] at T4
  have L4 := Lib.hid (hdrV_length (e := ⟨s, 1, ep, zeroD, rootB ls⟩) ⟨hs, by simp [I64], hep, by simp [zeroD], rootB_len ls⟩)
  have O4 := Lib.hid (hdr_one ⟨s, 1, ep, zeroD, rootB ls⟩)
  obtain ⟨h4, hh4⟩ : ∃ v, v = hdrV ⟨s, 1, ep, zeroD, rootB ls⟩ := ⟨_, rfl⟩
  have E4 := Lib.hid hh4
  rw [← hh4] at T4 L4 O4
  obtain ⟨nz, hnz⟩ : ∃ v, v = hdrV noHdr := ⟨_, rfl⟩
  have HNZ := Lib.hid hnz.symm
  rw [← hnz] at LZ OZ T0
  have Z2 := Lib.hid zero_hdr2
  rw [← hnz] at Z2
  obtain ⟨rp, hrp⟩ : ∃ r, r = rightH p := ⟨_, rfl⟩
  have HRPE := Lib.hid hrp.symm
  rw [← hrp] at HRP
  obtain ⟨pv, hpv⟩ : ∃ v, v = hdrV p := ⟨_, rfl⟩
  have HPV := Lib.hid hpv
  have HID := Lib.hid (fun w => rhid_any p hzs w hp)
  rw [← hpv] at HRP IP LP HID ⊢
  clear hrs hzs hh4 hnz hrp hpv hl ht hlm hp hn hs hep
  have HB := Lib.hid (Below.refl w.heap.size w)
  obtain ⟨gp, hgp⟩ : ∃ g, g = w.heap.size := ⟨_, rfl⟩
  have HGP := Lib.hid hgp
  go_enter Tryd.func20, Tryd.ntmps20
  go_wp2_with (first | (with_reducible refine wpl_box (o := ⟨some 5, _, _, _, _, _⟩) rfl rfl rfl ?_))
  intro w1 hb1 hbw1 hsz1
  rw [← hgp] at hb1 hbw1 hsz1 ⊢
  clear hgp
  obtain ⟨gr, hgr⟩ : ∃ g, g = gp + 1 := ⟨_, rfl⟩
  have HGR := Lib.hid hgr
  go_wp2_with (first | (with_reducible refine wpl_alloc (o := ⟨some 10, _, _, _, _, _⟩) rfl rfl Z2.out ?_))
  intro w_ hb2 hbw2 hsz2
  have HPB := Lib.hid (hb1.below hbw2 (by omega))
  have HV := Lib.hid (show Blk w_ gr 25 nz by rw [HGR.out]; first | exact hb2 | (rw [hsz1] at hb2; exact hb2))
  have HB_ := Lib.hid (show Grow w w_ by rw [HGP.out] at hbw1; exact Below.trans hbw1 (hbw2.mono (by have := HGP.out; omega)))
  have HT_ := Lib.hid (HT.out.grow HB_.out)
  have HS_ := Lib.hid (HS.out.grow HB_.out)
  have HGV := Lib.hid (show w.heap.size ≤ gr by have := HGP.out; have := HGR.out; omega)
  try rw [← hgr]
  clear hb1 hb2 hbw1 hbw2 hsz1 hsz2 HB HT HS hgr
  have HB := HB_; have HT := HT_; have HS := HS_
  clear HB_ HT_ HS_
  try clear w1
  by_cases h3 : n = 3
  · subst h3
    cases first with
    | true =>
      go_wp2_with fail
      refine (ls_rroot_any HS.out HRS.out (by omega) HLM.out HT.out).mono ?_
      rintro e w2_ ⟨rfl, hb_⟩
      have HPB_ := Lib.hid (HPB.out.grow hb_)
      have HV_ := Lib.hid (HV.out.grow hb_)
      have HT_ := Lib.hid (HT.out.grow hb_)
      have HB_ := Lib.hid (HB.out.grow' hb_)
      clear HB HPB HV HT
      have HPB := HPB_
      have HV := HV_
      have HT := HT_
      have HB := HB_
      clear HB_ HPB_ HV_ HT_
      clear hb_
      try clear w_
      rename World => w_
      try clear HS
      go_wp2_with (first | (refine wpl_build (o := ⟨some 36, _, _, _, _, _⟩) rfl rfl T4.out ?_) | (with_reducible refine wpl_alloc (o := ⟨some 12, _, _, _, _, _⟩) rfl rfl Z2.out ?_))
      intro w2_ hb2 hb_ hs2
      obtain ⟨gv, hgv⟩ : ∃ g, g = w_.heap.size := ⟨_, rfl⟩
      rw [← hgv] at hb2 hs2 ⊢
      have HX := Lib.hid hb2
      have HGX := Lib.hid (show gv ≠ gp ∧ gv ≠ gr ∧ w.heap.size ≤ gv by have h1 := HPB.out.lt; have h2 := HV.out.lt; have h3 := HB.out.size; omega)
      clear hb2 hs2 hgv
      have HPB_ := Lib.hid (HPB.out.grow hb_)
      have HV_ := Lib.hid (HV.out.grow hb_)
      have HT_ := Lib.hid (HT.out.grow hb_)
      have HB_ := Lib.hid (HB.out.grow' hb_)
      clear HB HPB HV HT
      have HPB := HPB_
      have HV := HV_
      have HT := HT_
      have HB := HB_
      clear HB_ HPB_ HV_ HT_
      clear hb_
      try clear w_
      rename World => w_
      go_wp2_with (first | (with_reducible refine wpl_storeb (o := ⟨none, .store _ _ _, _, _, _, _⟩) rfl rfl row_header HX.out rfl rfl LZ.out L4.out O4.out ?_))
      intro w2_ hb2 hg2 hs2
      have HX_ := Lib.hid hb2
      have HPB_ := Lib.hid (HPB.out.grown hg2 (by simpa using HGX.out.1.symm))
      have HV_ := Lib.hid (HV.out.grown hg2 (by simpa using HGX.out.2.1.symm))
      have HB_ := Lib.hid (put_below HB.out HGX.out.2.2 hg2)
      have HT_ := Lib.hid (HTW.out.grow HB_.out)
      clear hb2 hg2 hs2 HX HPB HV HB HT
      have HX := HX_; have HPB := HPB_; have HV := HV_; have HB := HB_; have HT := HT_
      clear HX_ HPB_ HV_ HB_ HT_
      try clear w_
      rename World => w_
      have HNV := Lib.hid (show h4 = hdrV (nextH p true ls s ep) from E4.out)
      rw [HNV.out] at HX
      have HNO_ := Lib.hid (show (nextH p true ls s ep).ok from ⟨HSI.out, by simp [I64, nextH], HEI.out, by simp [nextH, zeroD], rootB_len ls⟩)
      have HOKE := Lib.hid (show nextOK p true ls s ep = rightH (nextH p true ls s ep) by unfold nextOK; rw [← HNN.out]; simp)
      have LN := Lib.hid (hdrV_length HNO_.out)
      have ON := Lib.hid (hdr_one (nextH p true ls s ep))
      have HRN := Lib.hid (fun w => rhright_any (nextH p true ls s ep) w HNO_.out)
      rw [← HOKE.out] at HRN
      obtain ⟨ok, hok⟩ : ∃ o, o = nextOK p true ls s ep := ⟨_, rfl⟩
      have HK := Lib.hid hok.symm
      rw [← hok] at HRN
      clear hok
      obtain ⟨hv, hhv⟩ : ∃ v, v = hdrV (nextH p true ls s ep) := ⟨_, rfl⟩
      have EHV := Lib.hid hhv
      rw [← hhv] at HX LN ON HRN
      clear hhv
      go_wp2_with (first | (with_reducible refine wpl_loadb (o := ⟨some 49, _, _, _, _, _⟩) rfl rfl row_header HX.out rfl LN.out ?_))
      refine (HRN.out _).mono ?_
      rintro e w2_ ⟨rfl, hb_⟩
      try clear HT
      have HPB_ := Lib.hid (HPB.out.grow hb_)
      have HV_ := Lib.hid (HV.out.grow hb_)
      have HX_ := Lib.hid (HX.out.grow hb_)
      have HB_ := Lib.hid (HB.out.grow' hb_)
      clear HB HPB HV HX
      have HPB := HPB_
      have HV := HV_
      have HX := HX_
      have HB := HB_
      clear HB_ HPB_ HV_ HX_
      clear hb_
      try clear w_
      rename World => w_
      cases ok with
      | false =>
        have HNO := HK
        go_wp2_with (first | (refine wpl_build (o := ⟨some 52, _, _, _, _, _⟩) rfl rfl T0.out ?_) | (with_reducible refine wpl_storeb (o := ⟨none, .store _ _ _, _, _, _, _⟩) rfl rfl row_header HV.out rfl rfl LZ.out LZ.out OZ.out ?_))
        intro w9 hb9 hg9 hs9
        have HB9 := Lib.hid hb9
        have HBB := Lib.hid (put_below HB.out HGV.out hg9)
        clear hb9 hg9 hs9
        go_wp2_with fail
        refine ret_cell_tmp rfl row_header HB9.out rfl LZ.out rfl rfl ?_
        exact ⟨by rw [nextB_no HNO.out, HNO.out, HNZ.out]; try rfl, HBB.out⟩
      | true =>
        go_wp2_with (first | (with_reducible refine wpl_loadb (o := ⟨some 53, _, _, _, _, _⟩) rfl rfl row_header HX.out rfl LN.out ?_) | (with_reducible refine wpl_storeb (o := ⟨none, .store _ _ _, _, _, _, _⟩) rfl rfl row_header HV.out rfl rfl LZ.out LN.out ON.out ?_))
        intro w9 hb9 hg9 hs9
        have HB9 := Lib.hid hb9
        have HBB := Lib.hid (put_below HB.out HGV.out hg9)
        clear hb9 hg9 hs9
        go_wp2_with fail
        refine ret_cell_tmp rfl row_header HB9.out rfl LN.out rfl rfl ?_
        exact ⟨by rw [nextB_yes HK.out, HK.out, EHV.out]; try rfl, HBB.out⟩
    | false =>
      go_wp2_with (first | (with_reducible refine wpl_loadw (o := ⟨some 20, _, _, _, _, _⟩) (by first | rfl | (go_simp; done) | fail) rfl row_header HPB.out rfl LP.out ?_))
      refine (HRP.out _).mono ?_
      rintro e w2_ ⟨rfl, hb_⟩
      have HPB_ := Lib.hid (HPB.out.grow hb_)
      have HV_ := Lib.hid (HV.out.grow hb_)
      have HT_ := Lib.hid (HT.out.grow hb_)
      have HS_ := Lib.hid (HS.out.grow hb_)
      have HB_ := Lib.hid (HB.out.grow' hb_)
      clear HB HPB HV HT HS
      have HPB := HPB_
      have HV := HV_
      have HT := HT_
      have HS := HS_
      have HB := HB_
      clear HB_ HPB_ HV_ HT_ HS_
      clear hb_
      try clear w_
      rename World => w_
      cases rp with
      | false =>
        have HNO := Lib.hid (show nextOK p false ls s ep = false by unfold nextOK; rw [HRPE.out]; simp)
        go_wp2_with (first | (refine wpl_build (o := ⟨some 31, _, _, _, _, _⟩) rfl rfl T0.out ?_) | (with_reducible refine wpl_storeb (o := ⟨none, .store _ _ _, _, _, _, _⟩) rfl rfl row_header HV.out rfl rfl LZ.out LZ.out OZ.out ?_))
        intro w9 hb9 hg9 hs9
        have HB9 := Lib.hid hb9
        have HBB := Lib.hid (put_below HB.out HGV.out hg9)
        clear hb9 hg9 hs9
        go_wp2_with fail
        refine ret_cell_tmp rfl row_header HB9.out rfl LZ.out rfl rfl ?_
        exact ⟨by rw [nextB_no HNO.out, HNO.out, HNZ.out]; try rfl, HBB.out⟩
      | true =>
        have c2 := HPB.out.at_ IP.out.2.2
        have hrb := rightH_iff.1 HRPE.out
        have v1 : IntKind.i64.wrap (p.height + 1) = p.height + 1 := IntWalk.i64_in _ (by omega)
        have v2 : RowKit.wrap64 (p.height + 1) = p.height + 1 := wrap64_in _ (by omega)
        by_cases he : ep < p.epoch
        · have d1 : decide (ep < p.epoch) = true := by simpa using he
          have HNO := Lib.hid (show nextOK p false ls s ep = false by unfold nextOK; rw [show decide (p.epoch ≤ ep) = false by simp; omega]; simp)
          go_wp2_with (first | (refine wpl_build (o := ⟨some 31, _, _, _, _, _⟩) rfl rfl T0.out ?_) | (with_reducible refine wpl_storeb (o := ⟨none, .store _ _ _, _, _, _, _⟩) rfl rfl row_header HV.out rfl rfl LZ.out LZ.out OZ.out ?_))
          intro w9 hb9 hg9 hs9
          have HB9 := Lib.hid hb9
          have HBB := Lib.hid (put_below HB.out HGV.out hg9)
          clear hb9 hg9 hs9
          go_wp2_with fail
          refine ret_cell_tmp rfl row_header HB9.out rfl LZ.out rfl rfl ?_
          exact ⟨by rw [nextB_no HNO.out, HNO.out, HNZ.out]; try rfl, HBB.out⟩
        · have d1 : decide (ep < p.epoch) = false := by simpa using he
          have hrb2 := HRPE.out
          go_wp2_with fail
          refine (ls_rroot_any HS.out HRS.out (by omega) HLM.out HT.out).mono ?_
          rintro e w2_ ⟨rfl, hb_⟩
          have HPB_ := Lib.hid (HPB.out.grow hb_)
          have HV_ := Lib.hid (HV.out.grow hb_)
          have HT_ := Lib.hid (HT.out.grow hb_)
          have HB_ := Lib.hid (HB.out.grow' hb_)
          clear HB HPB HV HT
          have HPB := HPB_
          have HV := HV_
          have HT := HT_
          have HB := HB_
          clear HB_ HPB_ HV_ HT_
          clear hb_
          try clear w_
          rename World => w_
          try clear HS
          go_wp2_with (first | (refine wpl_build (o := ⟨some 36, _, _, _, _, _⟩) rfl rfl T4.out ?_) | (with_reducible refine wpl_alloc (o := ⟨some 12, _, _, _, _, _⟩) rfl rfl Z2.out ?_))
          intro w2_ hb2 hb_ hs2
          obtain ⟨gv, hgv⟩ : ∃ g, g = w_.heap.size := ⟨_, rfl⟩
          rw [← hgv] at hb2 hs2 ⊢
          have HX := Lib.hid hb2
          have HGX := Lib.hid (show gv ≠ gp ∧ gv ≠ gr ∧ w.heap.size ≤ gv by have h1 := HPB.out.lt; have h2 := HV.out.lt; have h3 := HB.out.size; omega)
          clear hb2 hs2 hgv
          have HPB_ := Lib.hid (HPB.out.grow hb_)
          have HV_ := Lib.hid (HV.out.grow hb_)
          have HT_ := Lib.hid (HT.out.grow hb_)
          have HB_ := Lib.hid (HB.out.grow' hb_)
          clear HB HPB HV HT
          have HPB := HPB_
          have HV := HV_
          have HT := HT_
          have HB := HB_
          clear HB_ HPB_ HV_ HT_
          clear hb_
          try clear w_
          rename World => w_
          go_wp2_with (first | (with_reducible refine wpl_storeb (o := ⟨none, .store _ _ _, _, _, _, _⟩) rfl rfl row_header HX.out rfl rfl LZ.out L4.out O4.out ?_))
          intro w2_ hb2 hg2 hs2
          have HX_ := Lib.hid hb2
          have HPB_ := Lib.hid (HPB.out.grown hg2 (by simpa using HGX.out.1.symm))
          have HV_ := Lib.hid (HV.out.grown hg2 (by simpa using HGX.out.2.1.symm))
          have HB_ := Lib.hid (put_below HB.out HGX.out.2.2 hg2)
          have HT_ := Lib.hid (HTW.out.grow HB_.out)
          clear hb2 hg2 hs2 HX HPB HV HB HT
          have HX := HX_; have HPB := HPB_; have HV := HV_; have HB := HB_; have HT := HT_
          clear HX_ HPB_ HV_ HB_ HT_
          try clear w_
          rename World => w_
          have c0 := HPB.out.at_ IP.out.1
          have k0 := HX.out.at_ (show h4[0]? = some (.int .i64 s) by rw [E4.out]; rfl)
          have f0 := HX.out.frozen 0
          have HX1 := Lib.hid (HX.out.set_ 0 (.int .i64 p.shard))
          have HP1 := Lib.hid (HPB.out.far (p := ⟨gv, 0, none⟩) HGX.out.1.symm (.int .i64 p.shard))
          have c1 := HP1.out.at_ IP.out.2.1
          have k1 := HX1.out.at_ (i := 1) (v := .int .i64 1) (by rw [E4.out]; rfl)
          have f1 := HX1.out.frozen 1
          have HX2 := Lib.hid (HX1.out.set_ 1 (.int .i64 (p.height + 1)))
          have HP2 := Lib.hid (HP1.out.far (p := ⟨gv, 1, none⟩) HGX.out.1.symm (.int .i64 (p.height + 1)))
          have HV2 := Lib.hid ((HV.out.far (p := ⟨gv, 0, none⟩) HGX.out.2.1.symm (.int .i64 p.shard)).far (p := ⟨gv, 1, none⟩) HGX.out.2.1.symm (.int .i64 (p.height + 1)))
          have HB2 := Lib.hid (show Grow w ((w_.setCell ⟨gv, 0, none⟩ (.int .i64 p.shard)).setCell ⟨gv, 1, none⟩ (.int .i64 (p.height + 1))) from Below.setCell (Below.setCell HB.out HGX.out.2.2 _) HGX.out.2.2 _)
          go_wp2_with (first | (with_reducible refine wpl_loadb (o := ⟨some 46, _, _, _, _, _⟩) rfl rfl row_header HP2.out rfl LP.out ?_))
          clear c0 k0 f0 c1 k1 f1 HX HPB HV HB HX1 HP1
          generalize (w_.setCell ⟨gv, 0, none⟩ (.int .i64 p.shard)).setCell ⟨gv, 1, none⟩ (.int .i64 (p.height + 1)) = w3_ at HX2 HP2 HV2 HB2 ⊢
          have HX := HX2; have HPB := HP2; have HV := HV2; have HB := HB2
          clear HX2 HP2 HV2 HB2
          refine (HID.out _).mono ?_
          rintro e w2_ ⟨rfl, hb_⟩
          clear HT
          try clear w_
          obtain ⟨w_, hww⟩ : ∃ k : World, k = w3_ := ⟨_, rfl⟩
          subst hww
          have HPB_ := Lib.hid (HPB.out.grow hb_)
          have HV_ := Lib.hid (HV.out.grow hb_)
          have HX_ := Lib.hid (HX.out.grow hb_)
          have HB_ := Lib.hid (HB.out.grow' hb_)
          clear HB HPB HV HX
          have HPB := HPB_
          have HV := HV_
          have HX := HX_
          have HB := HB_
          clear HB_ HPB_ HV_ HX_
          clear hb_
          try clear w_
          rename World => w_
          go_wp2_with (first | (with_reducible refine wpl_storem (o := ⟨none, .store _ _ _, _, _, _, _⟩) rfl rfl row_id HX.out rfl rfl HZ.out.len (by simp only [List.length_set]; rw [L4.out]; omega) HZ.out.one ?_))
          intro w2_ hb2 hg2 hs2
          have HX_ := Lib.hid hb2
          have HPB_ := Lib.hid (HPB.out.grown hg2 (by simpa using HGX.out.1.symm))
          have HV_ := Lib.hid (HV.out.grown hg2 (by simpa using HGX.out.2.1.symm))
          have HB_ := Lib.hid (put_below HB.out HGX.out.2.2 hg2)
          clear hb2 hg2 hs2 HX HPB HV HB
          have HX := HX_; have HPB := HPB_; have HV := HV_; have HB := HB_
          clear HX_ HPB_ HV_ HB_
          try clear w_
          rename World => w_
          rw [E4.out, HZ.out.1, hdr_next (by simp [zeroD]) (hidB_len p)] at HX
          have HX_ := Lib.hid (show Blk w_ gv 25 (hdrV (nextH p false ls s ep)) from HX.out)
          clear HX
          have HX := HX_
          clear HX_
          have HNO_ := Lib.hid (show (nextH p false ls s ep).ok from ⟨HPO.out.1, by show I64 (p.height + 1); unfold I64; omega, HEI.out, hidB_len p, rootB_len ls⟩)
          have HOKE := Lib.hid (show nextOK p false ls s ep = rightH (nextH p false ls s ep) by unfold nextOK; rw [← HNN.out, HRPE.out]; simp; omega)
          have LN := Lib.hid (hdrV_length HNO_.out)
          have ON := Lib.hid (hdr_one (nextH p false ls s ep))
          have HRN := Lib.hid (fun w => rhright_any (nextH p false ls s ep) w HNO_.out)
          rw [← HOKE.out] at HRN
          obtain ⟨ok, hok⟩ : ∃ o, o = nextOK p false ls s ep := ⟨_, rfl⟩
          have HK := Lib.hid hok.symm
          rw [← hok] at HRN
          clear hok
          obtain ⟨hv, hhv⟩ : ∃ v, v = hdrV (nextH p false ls s ep) := ⟨_, rfl⟩
          have EHV := Lib.hid hhv
          rw [← hhv] at HX LN ON HRN
          clear hhv
          go_wp2_with (first | (with_reducible refine wpl_loadb (o := ⟨some 49, _, _, _, _, _⟩) rfl rfl row_header HX.out rfl LN.out ?_))
          refine (HRN.out _).mono ?_
          rintro e w2_ ⟨rfl, hb_⟩
          try clear HT
          have HPB_ := Lib.hid (HPB.out.grow hb_)
          have HV_ := Lib.hid (HV.out.grow hb_)
          have HX_ := Lib.hid (HX.out.grow hb_)
          have HB_ := Lib.hid (HB.out.grow' hb_)
          clear HB HPB HV HX
          have HPB := HPB_
          have HV := HV_
          have HX := HX_
          have HB := HB_
          clear HB_ HPB_ HV_ HX_
          clear hb_
          try clear w_
          rename World => w_
          cases ok with
          | false =>
            have HNO := HK
            go_wp2_with (first | (refine wpl_build (o := ⟨some 52, _, _, _, _, _⟩) rfl rfl T0.out ?_) | (with_reducible refine wpl_storeb (o := ⟨none, .store _ _ _, _, _, _, _⟩) rfl rfl row_header HV.out rfl rfl LZ.out LZ.out OZ.out ?_))
            intro w9 hb9 hg9 hs9
            have HB9 := Lib.hid hb9
            have HBB := Lib.hid (put_below HB.out HGV.out hg9)
            clear hb9 hg9 hs9
            go_wp2_with fail
            refine ret_cell_tmp rfl row_header HB9.out rfl LZ.out rfl rfl ?_
            exact ⟨by rw [nextB_no HNO.out, HNO.out, HNZ.out]; try rfl, HBB.out⟩
          | true =>
            go_wp2_with (first | (with_reducible refine wpl_loadb (o := ⟨some 53, _, _, _, _, _⟩) rfl rfl row_header HX.out rfl LN.out ?_) | (with_reducible refine wpl_storeb (o := ⟨none, .store _ _ _, _, _, _, _⟩) rfl rfl row_header HV.out rfl rfl LZ.out LN.out ON.out ?_))
            intro w9 hb9 hg9 hs9
            have HB9 := Lib.hid hb9
            have HBB := Lib.hid (put_below HB.out HGV.out hg9)
            clear hb9 hg9 hs9
            go_wp2_with fail
            refine ret_cell_tmp rfl row_header HB9.out rfl LN.out rfl rfl ?_
            exact ⟨by rw [nextB_yes HK.out, HK.out, EHV.out]; try rfl, HBB.out⟩
  · have d3 : ((n : Int) != 3) = true := by rw [bne_iff_ne]; omega
    have HNO := Lib.hid (show nextOK p first ls s ep = false by unfold nextOK; rw [show decide (ls.length = 3) = false by have := HNN.out; simp; omega]; simp)
    go_wp2_with (first | (refine wpl_build (o := ⟨some 31, _, _, _, _, _⟩) rfl rfl T0.out ?_) | (with_reducible refine wpl_storeb (o := ⟨none, .store _ _ _, _, _, _, _⟩) rfl rfl row_header HV.out rfl rfl LZ.out LZ.out OZ.out ?_))
    intro w9 hb9 hg9 hs9
    have HB9 := Lib.hid hb9
    have HBB := Lib.hid (put_below HB.out HGV.out hg9)
    clear hb9 hg9 hs9
    go_wp2_with fail
    refine ret_cell_tmp rfl row_header HB9.out rfl LZ.out rfl rfl ?_
    exact ⟨by rw [nextB_no HNO.out, HNO.out, HNZ.out]; try rfl, HBB.out⟩
end Go.Proofs.YtphmefhnffoafaaDoor

/- The document's answer of layer 1 (the same bytes), and lists of lists of bytes that were handed back. -/
namespace Go.Proofs.YtphmefhnffoafaaDoor
open Go.RowKit Go.Shelf
set_option linter.unusedVariables false
def KeepC (w : World) (a : Addr) (v : Value) : Prop := w.cell? a = some v
theorem KeepC.grow {w w' : World} {a : Addr} {v : Value} (h : KeepC w a v) (k : Grow w w') : KeepC w' a v := by
  unfold KeepC at *
  rw [k.cell (World.block_lt_of_cell? w _ h)]; exact h
theorem LS.at_ {w : World} {A : Option Addr} {n c : Nat} {ls : List (List UInt8)} (h : LS w A n c ls) {k : Nat} (hk : k < n) :
    ∃ b off A2 n2 c2 bs, A = some ⟨b, off, none⟩ ∧ ls[k]? = some bs ∧ KeepC w ⟨b, off + k, none⟩ (.slice A2 n2 c2) ∧ n2 = bs.length ∧ Sl w w.heap.size 1 A2 n2 (bs.map B) := by
  obtain ⟨ps, hp, hl, _⟩ := h
  obtain ⟨b, off, A2, c2, bs, e, hps, hc, hcc, hs⟩ := hp.at_ hk
  refine ⟨b, off, A2, bs.length, c2, bs, e, ?_, hc, rfl, hs⟩
  rw [← hl, List.getElem?_map, hps]; rfl
theorem nextB_ok {p : Hdr} {first : Bool} {ls : List (List UInt8)} {s ep : Int} : (nextB p first ls s ep).ok := by
  by_cases h : nextOK p first ls s ep = true
  · rw [nextB_yes h]
    have hr : rightH (nextH p first ls s ep) = true := by unfold nextOK at h; simp only [Bool.and_eq_true] at h; exact h.2
    have hb := rightH_iff.1 hr
    have hl : (nextH p first ls s ep).prev.length = 32 ∧ (nextH p first ls s ep).root.length = 32 := by unfold nextH; split <;> simp [zeroD, hidB_len, rootB_len]
    exact ⟨⟨by omega, by omega⟩, ⟨by omega, by omega⟩, ⟨by omega, by omega⟩, hl.1, hl.2⟩
  · rw [nextB_no (by simpa using h)]; exact noHdr_ok
def HV (xs : List Value) : Prop := xs.length = 67 ∧ ∀ u ∈ xs, u.oneCell' = true
theorem HV.len {xs : List Value} (h : HV xs) : xs.length = 67 := h.1
theorem HV.one {xs : List Value} (h : HV xs) : ∀ u ∈ xs, u.oneCell' = true := h.2
theorem hv_of {x : Hdr} (h : x.ok) : HV (hdrV x) := ⟨hdrV_length h, hdr_one x⟩
theorem len_header : (hdrV noHdr).length = 67 := hdrV_length noHdr_ok
theorem zero_header : (Tryd.prog.info? 25).map (·.zero) = some (some (.agg (hdrV noHdr).toArray)) := zero_hdr2
def LenE (xs : List Value) (n : Nat) : Prop := xs.length = n
theorem LenE.len {xs : List Value} {n : Nat} (h : LenE xs n) : xs.length = n := h
set_option maxRecDepth 100000 in
set_option maxHeartbeats 1000000 in
theorem bytes1_any {res : Bool} {A A2 : Option Addr} {n c n2 c2 : Nat} {xs ys : List UInt8} (hres : decide (xs = ys) = res) (w : World) (h1 : Sl w w.heap.size 1 A n (xs.map B)) (h2 : Sl w w.heap.size 1 A2 n2 (ys.map B)) (hn : n ≤ 1000000) :
    Calls Tryd.prog 18 #[.slice A n c, .slice A2 n2 c2] w fun e w' => e = .returned (.bool res) ∧ Below w.heap.size w w' := by
  have H1 := Lib.hid h1; have H2 := Lib.hid h2
  have HL1 := Lib.hid (show xs.length = n by have := h1.len; simpa using this)
  have HL2 := Lib.hid (show ys.length = n2 by have := h2.len; simpa using this)
  have HRES := Lib.hid hres
  clear h1 h2 hres
  by_cases hnn : n = n2
  · subst hnn
    have z1 : ((n : Int) != (n : Int)) = false := by simp
    go_enter Tryd.func18, Tryd.ntmps18
    go_wp2_with fail
    go_loopw [5] (fun i wr => ∃ k : Nat, k ≤ n ∧ i = .int .i64 k ∧ Hid (xs.take k = ys.take k) ∧ Hid (Below w.heap.size w wr)) (fun i _ => n - (intOf i).toNat)
    case atStart => exact ⟨0, by omega, rfl, Lib.hid (by simp), Lib.hid (Below.refl _ _)⟩
    case round =>
      obtain ⟨k, hk, rfl, heq, hbw⟩ := hrel
      by_cases hlt : k < n
      · have HB := hbw
        have H1A := Lib.hid ((H1.out.below HB.out).more HB.out.size)
        have H2A := Lib.hid ((H2.out.below HB.out).more HB.out.size)
        obtain ⟨x, hx⟩ : ∃ x, xs[k]? = some x := ⟨_, List.getElem?_eq_getElem (by rw [HL1.out]; exact hlt)⟩
        obtain ⟨y, hy⟩ : ∃ y, ys[k]? = some y := ⟨_, List.getElem?_eq_getElem (by rw [HL2.out]; exact hlt)⟩
        have HX := Lib.hid hx; have HY := Lib.hid hy
        clear hx hy
        by_cases hxy : x = y
        · subst hxy
          try go_wp2_with fail
          repeat' (first | (with_reducible refine wp_plan (id := 6) Grow [0,0,0,2,0,0,0,2,0] (.get 0 (.get 1 (.get 2 (.get 3 (.get 4 (.get 5 (.get 6 (.get 7 (.get 8 .done))))))))) (by kernel_rfl) (by kernel_rfl) Grow.refl Grow.trans ?_) | go_values | go_skip | go_guarded | go_step | go_upon | go_back)
          intro w_ hd_
          have hb_ := hd_.grow
          have HB_ := Lib.hid (HB.out.grow' hb_)
          clear HB
          have HB := HB_
          clear HB_
          have H1A_ := Lib.hid (H1A.out.grow hb_)
          clear H1A
          have H1A := H1A_
          clear H1A_
          have H2A_ := Lib.hid (H2A.out.grow hb_)
          clear H2A
          have H2A := H2A_
          clear H2A_
          clear hb_ hd_
          obtain ⟨b1, o1, u1, rfl, hb1, hu1, hc1⟩ := H1A.out.at_ hlt
          obtain ⟨b2, o2, u2, rfl, hb2, hu2, hc2⟩ := H2A.out.at_ hlt
          obtain rfl : u1 = .int .u8 (b8 x) := by rw [List.getElem?_map, HX.out] at hu1; exact (Option.some.inj hu1).symm
          obtain rfl : u2 = .int .u8 (b8 x) := by rw [List.getElem?_map, HY.out] at hu2; exact (Option.some.inj hu2).symm
          clear hb1 hb2 hu1 hu2
          repeat (first | (refine pl_calm rfl rfl (by first | exact wanted_none rfl | (go_simp; done) | rfl) (fun w_ => by first | (go_simp; rfl) | (go_simp; done) | rfl) (fun K hK => ?_); go_simp; refine hK _ _ ?_; clear hK K) | (refine pl_skip rfl (by first | (go_simp; done) | rfl) (fun K hK => ?_); go_simp; refine hK _ _ ?_; clear hK K) | (refine pl_skipa rfl (by first | (go_simp; done) | rfl) (fun K hK => ?_); go_simp; refine hK _ _ ?_; clear hK K) | (refine pl_load rfl rfl (by first | exact wanted_none rfl | (go_simp; done) | rfl) rfl (by first | rfl | (go_simp; rfl)) (by kernel_rfl) (by first | exact hc1 | exact hc2) (fun K hK => ?_); go_simp; refine hK _ _ ?_; clear hK K) | (refine pl_loadnow rfl rfl (by first | exact wanted_none rfl | (go_simp; done) | rfl) rfl (by first | rfl | (go_simp; rfl)) (by kernel_rfl) (by first | exact hc1 | exact hc2) (fun K hK => ?_); go_simp; refine hK _ _ ?_; clear hK K))
          refine pl_done ?_
          clear hc1 hc2
          have HE := Lib.hid (show xs.take (k + 1) = ys.take (k + 1) by rw [List.take_add_one, List.take_add_one, heq.out, HX.out, HY.out])
          go_wp2_with fail
          go_roundw
          case rel => exact ⟨k + 1, by omega, by go_num, HE, HB⟩
          case measure => simp [intOf]; omega
        · have hbb : ((b8 x) != (b8 y)) = true := by
            have : b8 x ≠ b8 y := fun h => hxy (b8_inj h)
            simpa using this
          have HF := Lib.hid (show res = false by
            rw [← HRES.out]
            have : xs ≠ ys := fun h => by
              subst h
              have h1 := HX.out
              rw [HY.out] at h1
              exact hxy (Option.some.inj h1).symm
            simpa using this)
          have hne : b8 x ≠ b8 y := fun h => hxy (b8_inj h)
          have hq := eq_false hne
          clear hxy
          try go_wp2_with fail
          repeat' (first | (with_reducible refine wp_plan (id := 6) Grow [0,0,0,2,0,0,0,2,0] (.get 0 (.get 1 (.get 2 (.get 3 (.get 4 (.get 5 (.get 6 (.get 7 (.get 8 .done))))))))) (by kernel_rfl) (by kernel_rfl) Grow.refl Grow.trans ?_) | go_values | go_skip | go_guarded | go_step | go_upon | go_back)
          intro w_ hd_
          have hb_ := hd_.grow
          have HB_ := Lib.hid (HB.out.grow' hb_)
          clear HB
          have HB := HB_
          clear HB_
          have H1A_ := Lib.hid (H1A.out.grow hb_)
          clear H1A
          have H1A := H1A_
          clear H1A_
          have H2A_ := Lib.hid (H2A.out.grow hb_)
          clear H2A
          have H2A := H2A_
          clear H2A_
          clear hb_ hd_
          obtain ⟨b1, o1, u1, rfl, hb1, hu1, hc1⟩ := H1A.out.at_ hlt
          obtain ⟨b2, o2, u2, rfl, hb2, hu2, hc2⟩ := H2A.out.at_ hlt
          obtain rfl : u1 = .int .u8 (b8 x) := by rw [List.getElem?_map, HX.out] at hu1; exact (Option.some.inj hu1).symm
          obtain rfl : u2 = .int .u8 (b8 y) := by rw [List.getElem?_map, HY.out] at hu2; exact (Option.some.inj hu2).symm
          clear hb1 hb2 hu1 hu2
          repeat (first | (refine pl_calm rfl rfl (by first | exact wanted_none rfl | (go_simp; done) | rfl) (fun w_ => by first | (go_simp; rfl) | (go_simp; done) | rfl) (fun K hK => ?_); go_simp; refine hK _ _ ?_; clear hK K) | (refine pl_skip rfl (by first | (go_simp; done) | rfl) (fun K hK => ?_); go_simp; refine hK _ _ ?_; clear hK K) | (refine pl_skipa rfl (by first | (go_simp; done) | rfl) (fun K hK => ?_); go_simp; refine hK _ _ ?_; clear hK K) | (refine pl_load rfl rfl (by first | exact wanted_none rfl | (go_simp; done) | rfl) rfl (by first | rfl | (go_simp; rfl)) (by kernel_rfl) (by first | exact hc1 | exact hc2) (fun K hK => ?_); go_simp; refine hK _ _ ?_; clear hK K) | (refine pl_loadnow rfl rfl (by first | exact wanted_none rfl | (go_simp; done) | rfl) rfl (by first | rfl | (go_simp; rfl)) (by kernel_rfl) (by first | exact hc1 | exact hc2) (fun K hK => ?_); go_simp; refine hK _ _ ?_; clear hK K))
          refine pl_done ?_
          clear hc1 hc2
          go_wp2_with fail
          go_ret
          exact ⟨by rw [HF.out]; rfl, HB.out⟩
      · obtain rfl : k = n := by omega
        have HT := Lib.hid (show res = true by
          rw [← HRES.out]
          have h := heq.out
          rw [List.take_of_length_le (by rw [HL1.out]; exact Nat.le_refl _), List.take_of_length_le (by rw [HL2.out]; exact Nat.le_refl _)] at h
          simpa using h)
        go_wp2_with fail
        go_ret
        exact ⟨by rw [HT.out]; rfl, hbw.out⟩
  · have z1 : ((n : Int) != (n2 : Int)) = true := by simp; omega
    have HF := Lib.hid (show res = false by
      rw [← HRES.out]
      have : xs ≠ ys := fun h => by subst h; exact hnn (by rw [← HL1.out, ← HL2.out])
      simpa using this)
    have hz : ¬ ((n : Int) = (n2 : Int)) := by omega
    have hzq := eq_false hz
    go_enter Tryd.func18, Tryd.ntmps18
    go_wp2_with fail
    go_ret
    exact ⟨by rw [HF.out]; rfl, Below.refl _ _⟩
end Go.Proofs.YtphmefhnffoafaaDoor

/- The given card HeaderFormsCardSaid, out of the walk hdrForms_walk: for every input the law returns true, and each argument reads as it did; the tables of package sha are tied to the program's text. No condition. -/
import Derived.Test.YtphmefhnffoafaaDoorHeaderFollowsB17
import Derived.Test.YtphmefhnffoafaaDoorHeaderFollowsB18
import Derived.Test.YtphmefhnffoafaaDoorHeaderFormsB4
import Derived.Test.YtphmefhnffoafaaDoorHeaderFollowsB15
import Derived.Test.YtphmefhnffoafaaDoorHeaderFollowsB14
import Derived.Test.YtphmefhnffoafaaDoorHeaderFollowsB10
import Derived.Test.YtphmefhnffoafaaDoorHeaderFollowsB2
import Derived.ShutString
import Derived.ChangeOld
import Derived.Below
set_option linter.unusedSimpArgs false
/- The contract of the document's Next. Printed by mknext.py. -/
namespace Go.Proofs.YtphmefhnffoafaaDoor
open Go.RowKit Go.Shelf
set_option linter.unusedVariables false
set_option maxRecDepth 100000 in
set_option maxHeartbeats 40000000 in
theorem rnext_any (p : Hdr) (first : Bool) (A : Option Addr) (n c : Nat) (ls : List (List UInt8)) (s ep : Int) (w : World) (hp : p.ok) (hl : LS w A n c ls) (hn : n = ls.length) (hnm : n ≤ 1000000) (hlm : ∀ l ∈ ls, l.length ≤ 1000000) (hs : I64 s) (hep : I64 ep) (ht : Tabs w) :
    Calls Tryd.prog 20 #[.agg (hdrV p).toArray, .bool first, .slice A n c, .int .i64 s, .int .i64 ep] w fun e w' => e = .returned (.tuple #[.agg (hdrV (nextB p first ls s ep)).toArray, .bool (nextOK p first ls s ep)]) ∧ Below w.heap.size w w' := by
  have HPO := Lib.hid hp; have HS := Lib.hid hl; have HT := Lib.hid ht; have HTW := Lib.hid ht; have HLM := Lib.hid hlm; have HNN := Lib.hid hn; have HSI := Lib.hid hs; have HEI := Lib.hid hep
  obtain ⟨rs, hrs⟩ := dig_root ls
  have HRS := Lib.hid hrs
  obtain ⟨zs, hzs⟩ : ∃ zs, Dig zs (hidB p) := ⟨(hidB p).map B, rfl, hidB_len p⟩
  have HZ := Lib.hid hzs
  have HRP := Lib.hid (fun w => rhright_any p w hp)
  have IP := Lib.hid (hdr_at hp)
  have LP := Lib.hid (hdrV_length hp)
  have LZ := Lib.hid (hdrV_length noHdr_ok)
  have OZ := Lib.hid (hdr_one noHdr)
  have T0 := Lib.hid built_hdrE
  have T4 := Lib.hid (built_hdr4 (s := s) (ep := ep) (rootB_len ls))
  rw [← hrs.1] at T4
  have L4 := Lib.hid (hdrV_length (e := ⟨s, 1, ep, zeroD, rootB ls⟩) ⟨hs, by simp [I64], hep, by simp [zeroD], rootB_len ls⟩)
  have O4 := Lib.hid (hdr_one ⟨s, 1, ep, zeroD, rootB ls⟩)
  obtain ⟨h4, hh4⟩ : ∃ v, v = hdrV ⟨s, 1, ep, zeroD, rootB ls⟩ := ⟨_, rfl⟩
  have E4 := Lib.hid hh4
  rw [← hh4] at T4 L4 O4
  obtain ⟨nz, hnz⟩ : ∃ v, v = hdrV noHdr := ⟨_, rfl⟩
  have HNZ := Lib.hid hnz.symm
  rw [← hnz] at LZ OZ T0
  have Z2 := Lib.hid zero_hdr2
  rw [← hnz] at Z2
  obtain ⟨rp, hrp⟩ : ∃ r, r = rightH p := ⟨_, rfl⟩
  have HRPE := Lib.hid hrp.symm
  rw [← hrp] at HRP
  obtain ⟨pv, hpv⟩ : ∃ v, v = hdrV p := ⟨_, rfl⟩
  have HPV := Lib.hid hpv
  have HID := Lib.hid (fun w => rhid_any p hzs w hp)
  rw [← hpv] at HRP IP LP HID ⊢
  clear hrs hzs hh4 hnz hrp hpv hl ht hlm hp hn hs hep
  have HB := Lib.hid (Below.refl w.heap.size w)
  obtain ⟨gp, hgp⟩ : ∃ g, g = w.heap.size := ⟨_, rfl⟩
  have HGP := Lib.hid hgp
  go_enter Tryd.func20, Tryd.ntmps20
  go_wp2_with (first | (with_reducible refine wpl_box (o := ⟨some 5, _, _, _, _, _⟩) rfl rfl rfl ?_))
  intro w1 hb1 hbw1 hsz1
  rw [← hgp] at hb1 hbw1 hsz1 ⊢
  clear hgp
  obtain ⟨gr, hgr⟩ : ∃ g, g = gp + 1 := ⟨_, rfl⟩
  have HGR := Lib.hid hgr
  go_wp2_with (first | (with_reducible refine wpl_alloc (o := ⟨some 10, _, _, _, _, _⟩) rfl rfl Z2.out ?_))
  intro w_ hb2 hbw2 hsz2
  have HPB := Lib.hid (hb1.below hbw2 (by omega))
  have HV := Lib.hid (show Blk w_ gr 25 nz by rw [HGR.out]; first | exact hb2 | (rw [hsz1] at hb2; exact hb2))
  have HB_ := Lib.hid (show Grow w w_ by rw [HGP.out] at hbw1; exact Below.trans hbw1 (hbw2.mono (by have := HGP.out; omega)))
  have HT_ := Lib.hid (HT.out.grow HB_.out)
  have HS_ := Lib.hid (HS.out.grow HB_.out)
  have HGV := Lib.hid (show w.heap.size ≤ gr by have := HGP.out; have := HGR.out; omega)
  try rw [← hgr]
  clear hb1 hb2 hbw1 hbw2 hsz1 hsz2 HB HT HS hgr
  have HB := HB_; have HT := HT_; have HS := HS_
  clear HB_ HT_ HS_
  try clear w1
  by_cases h3 : n = 3
  · subst h3
    cases first with
    | true =>
      go_wp2_with fail
      refine (ls_rroot_any HS.out HRS.out (by omega) HLM.out HT.out).mono ?_
      rintro e w2_ ⟨rfl, hb_⟩
      have HPB_ := Lib.hid (HPB.out.grow hb_)
      have HV_ := Lib.hid (HV.out.grow hb_)
      have HT_ := Lib.hid (HT.out.grow hb_)
      have HB_ := Lib.hid (HB.out.grow' hb_)
      clear HB HPB HV HT
      have HPB := HPB_
      have HV := HV_
      have HT := HT_
      have HB := HB_
      clear HB_ HPB_ HV_ HT_
      clear hb_
      try clear w_
      rename World => w_
      try clear HS
      go_wp2_with (first | (refine wpl_build (o := ⟨some 36, _, _, _, _, _⟩) rfl rfl T4.out ?_) | (with_reducible refine wpl_alloc (o := ⟨some 12, _, _, _, _, _⟩) rfl rfl Z2.out ?_))
      intro w2_ hb2 hb_ hs2
      obtain ⟨gv, hgv⟩ : ∃ g, g = w_.heap.size := ⟨_, rfl⟩
      rw [← hgv] at hb2 hs2 ⊢
      have HX := Lib.hid hb2
      have HGX := Lib.hid (show gv ≠ gp ∧ gv ≠ gr ∧ w.heap.size ≤ gv by have h1 := HPB.out.lt; have h2 := HV.out.lt; have h3 := HB.out.size; omega)
      clear hb2 hs2 hgv
      have HPB_ := Lib.hid (HPB.out.grow hb_)
      have HV_ := Lib.hid (HV.out.grow hb_)
      have HT_ := Lib.hid (HT.out.grow hb_)
      have HB_ := Lib.hid (HB.out.grow' hb_)
      clear HB HPB HV HT
      have HPB := HPB_
      have HV := HV_
      have HT := HT_
      have HB := HB_
      clear HB_ HPB_ HV_ HT_
      clear hb_
      try clear w_
      rename World => w_
      go_wp2_with (first | (with_reducible refine wpl_storeb (o := ⟨none, .store _ _ _, _, _, _, _⟩) rfl rfl row_header HX.out rfl rfl LZ.out L4.out O4.out ?_))
      intro w2_ hb2 hg2 hs2
      have HX_ := Lib.hid hb2
      have HPB_ := Lib.hid (HPB.out.grown hg2 (by simpa using HGX.out.1.symm))
      have HV_ := Lib.hid (HV.out.grown hg2 (by simpa using HGX.out.2.1.symm))
      have HB_ := Lib.hid (put_below HB.out HGX.out.2.2 hg2)
      have HT_ := Lib.hid (HTW.out.grow HB_.out)
      clear hb2 hg2 hs2 HX HPB HV HB HT
      have HX := HX_; have HPB := HPB_; have HV := HV_; have HB := HB_; have HT := HT_
      clear HX_ HPB_ HV_ HB_ HT_
      try clear w_
      rename World => w_
      have HNV := Lib.hid (show h4 = hdrV (nextH p true ls s ep) from E4.out)
      rw [HNV.out] at HX
      have HNO_ := Lib.hid (show (nextH p true ls s ep).ok from ⟨HSI.out, by simp [I64, nextH], HEI.out, by simp [nextH, zeroD], rootB_len ls⟩)
      have HOKE := Lib.hid (show nextOK p true ls s ep = rightH (nextH p true ls s ep) by unfold nextOK; rw [← HNN.out]; simp)
      have LN := Lib.hid (hdrV_length HNO_.out)
      have ON := Lib.hid (hdr_one (nextH p true ls s ep))
      have HRN := Lib.hid (fun w => rhright_any (nextH p true ls s ep) w HNO_.out)
      rw [← HOKE.out] at HRN
      obtain ⟨ok, hok⟩ : ∃ o, o = nextOK p true ls s ep := ⟨_, rfl⟩
      have HK := Lib.hid hok.symm
      rw [← hok] at HRN
      clear hok
      obtain ⟨hv, hhv⟩ : ∃ v, v = hdrV (nextH p true ls s ep) := ⟨_, rfl⟩
      have EHV := Lib.hid hhv
      rw [← hhv] at HX LN ON HRN
      clear hhv
      go_wp2_with (first | (with_reducible refine wpl_loadb (o := ⟨some 49, _, _, _, _, _⟩) rfl rfl row_header HX.out rfl LN.out ?_))
      refine (HRN.out _).mono ?_
      rintro e w2_ ⟨rfl, hb_⟩
      try clear HT
      have HPB_ := Lib.hid (HPB.out.grow hb_)
      have HV_ := Lib.hid (HV.out.grow hb_)
      have HX_ := Lib.hid (HX.out.grow hb_)
      have HB_ := Lib.hid (HB.out.grow' hb_)
      clear HB HPB HV HX
      have HPB := HPB_
      have HV := HV_
      have HX := HX_
      have HB := HB_
      clear HB_ HPB_ HV_ HX_
      clear hb_
      try clear w_
      rename World => w_
      cases ok with
      | false =>
        have HNO := HK
        go_wp2_with (first | (refine wpl_build (o := ⟨some 52, _, _, _, _, _⟩) rfl rfl T0.out ?_) | (with_reducible refine wpl_storeb (o := ⟨none, .store _ _ _, _, _, _, _⟩) rfl rfl row_header HV.out rfl rfl LZ.out LZ.out OZ.out ?_))
        intro w9 hb9 hg9 hs9
        have HB9 := Lib.hid hb9
        have HBB := Lib.hid (put_below HB.out HGV.out hg9)
        clear hb9 hg9 hs9
        go_wp2_with fail
        refine ret_cell_tmp rfl row_header HB9.out rfl LZ.out rfl rfl ?_
        exact ⟨by rw [nextB_no HNO.out, HNO.out, HNZ.out]; try rfl, HBB.out⟩
      | true =>
        go_wp2_with (first | (with_reducible refine wpl_loadb (o := ⟨some 53, _, _, _, _, _⟩) rfl rfl row_header HX.out rfl LN.out ?_) | (with_reducible refine wpl_storeb (o := ⟨none, .store _ _ _, _, _, _, _⟩) rfl rfl row_header HV.out rfl rfl LZ.out LN.out ON.out ?_))
        intro w9 hb9 hg9 hs9
        have HB9 := Lib.hid hb9
        have HBB := Lib.hid (put_below HB.out HGV.out hg9)
        clear hb9 hg9 hs9
        go_wp2_with fail
        refine ret_cell_tmp rfl row_header HB9.out rfl LN.out rfl rfl ?_
        exact ⟨by rw [nextB_yes HK.out, HK.out, EHV.out]; try rfl, HBB.out⟩
    | false =>
      go_wp2_with (first | (with_reducible refine wpl_loadw (o := ⟨some 20, _, _, _, _, _⟩) (by first | rfl | (go_simp; done) | fail) rfl row_header HPB.out rfl LP.out ?_))
      refine (HRP.out _).mono ?_
      rintro e w2_ ⟨rfl, hb_⟩
      have HPB_ := Lib.hid (HPB.out.grow hb_)
      have HV_ := Lib.hid (HV.out.grow hb_)
      have HT_ := Lib.hid (HT.out.grow hb_)
      have HS_ := Lib.hid (HS.out.grow hb_)
      have HB_ := Lib.hid (HB.out.grow' hb_)
      clear HB HPB HV HT HS
      have HPB := HPB_
      have HV := HV_
      have HT := HT_
      have HS := HS_
      have HB := HB_
      clear HB_ HPB_ HV_ HT_ HS_
      clear hb_
      try clear w_
      rename World => w_
      cases rp with
      | false =>
        have HNO := Lib.hid (show nextOK p false ls s ep = false by unfold nextOK; rw [HRPE.out]; simp)
        go_wp2_with (first | (refine wpl_build (o := ⟨some 31, _, _, _, _, _⟩) rfl rfl T0.out ?_) | (with_reducible refine wpl_storeb (o := ⟨none, .store _ _ _, _, _, _, _⟩) rfl rfl row_header HV.out rfl rfl LZ.out LZ.out OZ.out ?_))
        intro w9 hb9 hg9 hs9
        have HB9 := Lib.hid hb9
        have HBB := Lib.hid (put_below HB.out HGV.out hg9)
        clear hb9 hg9 hs9
        go_wp2_with fail
        refine ret_cell_tmp rfl row_header HB9.out rfl LZ.out rfl rfl ?_
        exact ⟨by rw [nextB_no HNO.out, HNO.out, HNZ.out]; try rfl, HBB.out⟩
      | true =>
        have c2 := HPB.out.at_ IP.out.2.2
        have hrb := rightH_iff.1 HRPE.out
        have v1 : IntKind.i64.wrap (p.height + 1) = p.height + 1 := IntWalk.i64_in _ (by omega)
        have v2 : RowKit.wrap64 (p.height + 1) = p.height + 1 := wrap64_in _ (by omega)
        by_cases he : ep < p.epoch
        · have d1 : decide (ep < p.epoch) = true := by simpa using he
          have HNO := Lib.hid (show nextOK p false ls s ep = false by unfold nextOK; rw [show decide (p.epoch ≤ ep) = false by simp; omega]; simp)
          go_wp2_with (first | (refine wpl_build (o := ⟨some 31, _, _, _, _, _⟩) rfl rfl T0.out ?_) | (with_reducible refine wpl_storeb (o := ⟨none, .store _ _ _, _, _, _, _⟩) rfl rfl row_header HV.out rfl rfl LZ.out LZ.out OZ.out ?_))
          intro w9 hb9 hg9 hs9
          have HB9 := Lib.hid hb9
          have HBB := Lib.hid (put_below HB.out HGV.out hg9)
          clear hb9 hg9 hs9
          go_wp2_with fail
          refine ret_cell_tmp rfl row_header HB9.out rfl LZ.out rfl rfl ?_
          exact ⟨by rw [nextB_no HNO.out, HNO.out, HNZ.out]; try rfl, HBB.out⟩
        · have d1 : decide (ep < p.epoch) = false := by simpa using he
          have hrb2 := HRPE.out
          go_wp2_with fail
          refine (ls_rroot_any HS.out HRS.out (by omega) HLM.out HT.out).mono ?_
          rintro e w2_ ⟨rfl, hb_⟩
          have HPB_ := Lib.hid (HPB.out.grow hb_)
          have HV_ := Lib.hid (HV.out.grow hb_)
          have HT_ := Lib.hid (HT.out.grow hb_)
          have HB_ := Lib.hid (HB.out.grow' hb_)
          clear HB HPB HV HT
          have HPB := HPB_
          have HV := HV_
          have HT := HT_
          have HB := HB_
          clear HB_ HPB_ HV_ HT_
          clear hb_
          try clear w_
          rename World => w_
          try clear HS
          go_wp2_with (first | (refine wpl_build (o := ⟨some 36, _, _, _, _, _⟩) rfl rfl T4.out ?_) | (with_reducible refine wpl_alloc (o := ⟨some 12, _, _, _, _, _⟩) rfl rfl Z2.out ?_))
          intro w2_ hb2 hb_ hs2
          obtain ⟨gv, hgv⟩ : ∃ g, g = w_.heap.size := ⟨_, rfl⟩
          rw [← hgv] at hb2 hs2 ⊢
          have HX := Lib.hid hb2
          have HGX := Lib.hid (show gv ≠ gp ∧ gv ≠ gr ∧ w.heap.size ≤ gv by have h1 := HPB.out.lt; have h2 := HV.out.lt; have h3 := HB.out.size; omega)
          clear hb2 hs2 hgv
          have HPB_ := Lib.hid (HPB.out.grow hb_)
          have HV_ := Lib.hid (HV.out.grow hb_)
          have HT_ := Lib.hid (HT.out.grow hb_)
          have HB_ := Lib.hid (HB.out.grow' hb_)
          clear HB HPB HV HT
          have HPB := HPB_
          have HV := HV_
          have HT := HT_
          have HB := HB_
          clear HB_ HPB_ HV_ HT_
          clear hb_
          try clear w_
          rename World => w_
          go_wp2_with (first | (with_reducible refine wpl_storeb (o := ⟨none, .store _ _ _, _, _, _, _⟩) rfl rfl row_header HX.out rfl rfl LZ.out L4.out O4.out ?_))
          intro w2_ hb2 hg2 hs2
          have HX_ := Lib.hid hb2
          have HPB_ := Lib.hid (HPB.out.grown hg2 (by simpa using HGX.out.1.symm))
          have HV_ := Lib.hid (HV.out.grown hg2 (by simpa using HGX.out.2.1.symm))
          have HB_ := Lib.hid (put_below HB.out HGX.out.2.2 hg2)
          have HT_ := Lib.hid (HTW.out.grow HB_.out)
          clear hb2 hg2 hs2 HX HPB HV HB HT
          have HX := HX_; have HPB := HPB_; have HV := HV_; have HB := HB_; have HT := HT_
          clear HX_ HPB_ HV_ HB_ HT_
          try clear w_
          rename World => w_
          have c0 := HPB.out.at_ IP.out.1
          have k0 := HX.out.at_ (show h4[0]? = some (.int .i64 s) by rw [E4.out]; rfl)
          have f0 := HX.out.frozen 0
          have HX1 := Lib.hid (HX.out.set_ 0 (.int .i64 p.shard))
          have HP1 := Lib.hid (HPB.out.far (p := ⟨gv, 0, none⟩) HGX.out.1.symm (.int .i64 p.shard))
          have c1 := HP1.out.at_ IP.out.2.1
          have k1 := HX1.out.at_ (i := 1) (v := .int .i64 1) (by rw [E4.out]; rfl)
          have f1 := HX1.out.frozen 1
          have HX2 := Lib.hid (HX1.out.set_ 1 (.int .i64 (p.height + 1)))
          have HP2 := Lib.hid (HP1.out.far (p := ⟨gv, 1, none⟩) HGX.out.1.symm (.int .i64 (p.height + 1)))
          have HV2 := Lib.hid ((HV.out.far (p := ⟨gv, 0, none⟩) HGX.out.2.1.symm (.int .i64 p.shard)).far (p := ⟨gv, 1, none⟩) HGX.out.2.1.symm (.int .i64 (p.height + 1)))
          have HB2 := Lib.hid (show Grow w ((w_.setCell ⟨gv, 0, none⟩ (.int .i64 p.shard)).setCell ⟨gv, 1, none⟩ (.int .i64 (p.height + 1))) from Below.setCell (Below.setCell HB.out HGX.out.2.2 _) HGX.out.2.2 _)
          go_wp2_with (first | (with_reducible refine wpl_loadb (o := ⟨some 46, _, _, _, _, _⟩) rfl rfl row_header HP2.out rfl LP.out ?_))
          clear c0 k0 f0 c1 k1 f1 HX HPB HV HB HX1 HP1
          generalize (w_.setCell ⟨gv, 0, none⟩ (.int .i64 p.shard)).setCell ⟨gv, 1, none⟩ (.int .i64 (p.height + 1)) = w3_ at HX2 HP2 HV2 HB2 ⊢
          have HX := HX2; have HPB := HP2; have HV := HV2; have HB := HB2
          clear HX2 HP2 HV2 HB2
          refine (HID.out _).mono ?_
          rintro e w2_ ⟨rfl, hb_⟩
          clear HT
          try clear w_
          obtain ⟨w_, hww⟩ : ∃ k : World, k = w3_ := ⟨_, rfl⟩
          subst hww
          have HPB_ := Lib.hid (HPB.out.grow hb_)
          have HV_ := Lib.hid (HV.out.grow hb_)
          have HX_ := Lib.hid (HX.out.grow hb_)
          have HB_ := Lib.hid (HB.out.grow' hb_)
          clear HB HPB HV HX
          have HPB := HPB_
          have HV := HV_
          have HX := HX_
          have HB := HB_
          clear HB_ HPB_ HV_ HX_
          clear hb_
          try clear w_
          rename World => w_
          go_wp2_with (first | (with_reducible refine wpl_storem (o := ⟨none, .store _ _ _, _, _, _, _⟩) rfl rfl row_id HX.out rfl rfl HZ.out.len (by simp only [List.length_set]; rw [L4.out]; omega) HZ.out.one ?_))
          intro w2_ hb2 hg2 hs2
          have HX_ := Lib.hid hb2
          have HPB_ := Lib.hid (HPB.out.grown hg2 (by simpa using HGX.out.1.symm))
          have HV_ := Lib.hid (HV.out.grown hg2 (by simpa using HGX.out.2.1.symm))
          have HB_ := Lib.hid (put_below HB.out HGX.out.2.2 hg2)
          clear hb2 hg2 hs2 HX HPB HV HB
          have HX := HX_; have HPB := HPB_; have HV := HV_; have HB := HB_
          clear HX_ HPB_ HV_ HB_
          try clear w_
          rename World => w_
          rw [E4.out, HZ.out.1, hdr_next (by simp [zeroD]) (hidB_len p)] at HX
          have HX_ := Lib.hid (show Blk w_ gv 25 (hdrV (nextH p false ls s ep)) from HX.out)
          clear HX
          have HX := HX_
          clear HX_
          have HNO_ := Lib.hid (show (nextH p false ls s ep).ok from ⟨HPO.out.1, by show I64 (p.height + 1); unfold I64; omega, HEI.out, hidB_len p, rootB_len ls⟩)
          have HOKE := Lib.hid (show nextOK p false ls s ep = rightH (nextH p false ls s ep) by unfold nextOK; rw [← HNN.out, HRPE.out]; simp; omega)
          have LN := Lib.hid (hdrV_length HNO_.out)
          have ON := Lib.hid (hdr_one (nextH p false ls s ep))
          have HRN := Lib.hid (fun w => rhright_any (nextH p false ls s ep) w HNO_.out)
          rw [← HOKE.out] at HRN
          obtain ⟨ok, hok⟩ : ∃ o, o = nextOK p false ls s ep := ⟨_, rfl⟩
          have HK := Lib.hid hok.symm
          rw [← hok] at HRN
          clear hok
          obtain ⟨hv, hhv⟩ : ∃ v, v = hdrV (nextH p false ls s ep) := ⟨_, rfl⟩
          have EHV := Lib.hid hhv
          rw [← hhv] at HX LN ON HRN
          clear hhv
          go_wp2_with (first | (with_reducible refine wpl_loadb (o := ⟨some 49, _, _, _, _, _⟩) rfl rfl row_header HX.out rfl LN.out ?_))
          refine (HRN.out _).mono ?_
          rintro e w2_ ⟨rfl, hb_⟩
          try clear HT
          have HPB_ := Lib.hid (HPB.out.grow hb_)
          have HV_ := Lib.hid (HV.out.grow hb_)
          have HX_ := Lib.hid (HX.out.grow hb_)
          have HB_ := Lib.hid (HB.out.grow' hb_)
          clear HB HPB HV HX
          have HPB := HPB_
          have HV := HV_
          have HX := HX_
          have HB := HB_
          clear HB_ HPB_ HV_ HX_
          clear hb_
          try clear w_
          rename World => w_
          cases ok with
          | false =>
            have HNO := HK
            go_wp2_with (first | (refine wpl_build (o := ⟨some 52, _, _, _, _, _⟩) rfl rfl T0.out ?_) | (with_reducible refine wpl_storeb (o := ⟨none, .store _ _ _, _, _, _, _⟩) rfl rfl row_header HV.out rfl rfl LZ.out LZ.out OZ.out ?_))
            intro w9 hb9 hg9 hs9
            have HB9 := Lib.hid hb9
            have HBB := Lib.hid (put_below HB.out HGV.out hg9)
            clear hb9 hg9 hs9
            go_wp2_with fail
            refine ret_cell_tmp rfl row_header HB9.out rfl LZ.out rfl rfl ?_
            exact ⟨by rw [nextB_no HNO.out, HNO.out, HNZ.out]; try rfl, HBB.out⟩
          | true =>
            go_wp2_with (first | (with_reducible refine wpl_loadb (o := ⟨some 53, _, _, _, _, _⟩) rfl rfl row_header HX.out rfl LN.out ?_) | (with_reducible refine wpl_storeb (o := ⟨none, .store _ _ _, _, _, _, _⟩) rfl rfl row_header HV.out rfl rfl LZ.out LN.out ON.out ?_))
            intro w9 hb9 hg9 hs9
            have HB9 := Lib.hid hb9
            have HBB := Lib.hid (put_below HB.out HGV.out hg9)
            clear hb9 hg9 hs9
            go_wp2_with fail
            refine ret_cell_tmp rfl row_header HB9.out rfl LN.out rfl rfl ?_
            exact ⟨by rw [nextB_yes HK.out, HK.out, EHV.out]; try rfl, HBB.out⟩
  · have d3 : ((n : Int) != 3) = true := by rw [bne_iff_ne]; omega
    have HNO := Lib.hid (show nextOK p first ls s ep = false by unfold nextOK; rw [show decide (ls.length = 3) = false by have := HNN.out; simp; omega]; simp)
    go_wp2_with (first | (refine wpl_build (o := ⟨some 31, _, _, _, _, _⟩) rfl rfl T0.out ?_) | (with_reducible refine wpl_storeb (o := ⟨none, .store _ _ _, _, _, _, _⟩) rfl rfl row_header HV.out rfl rfl LZ.out LZ.out OZ.out ?_))
    intro w9 hb9 hg9 hs9
    have HB9 := Lib.hid hb9
    have HBB := Lib.hid (put_below HB.out HGV.out hg9)
    clear hb9 hg9 hs9
    go_wp2_with fail
    refine ret_cell_tmp rfl row_header HB9.out rfl LZ.out rfl rfl ?_
    exact ⟨by rw [nextB_no HNO.out, HNO.out, HNZ.out]; try rfl, HBB.out⟩
end Go.Proofs.YtphmefhnffoafaaDoor

/- The document's answer of layer 1 (the same bytes), and lists of lists of bytes that were handed back. -/
namespace Go.Proofs.YtphmefhnffoafaaDoor
open Go.RowKit Go.Shelf
set_option linter.unusedVariables false
def KeepC (w : World) (a : Addr) (v : Value) : Prop := w.cell? a = some v
theorem KeepC.grow {w w' : World} {a : Addr} {v : Value} (h : KeepC w a v) (k : Grow w w') : KeepC w' a v := by
  unfold KeepC at *
  rw [k.cell (World.block_lt_of_cell? w _ h)]; exact h
theorem LS.at_ {w : World} {A : Option Addr} {n c : Nat} {ls : List (List UInt8)} (h : LS w A n c ls) {k : Nat} (hk : k < n) :
    ∃ b off A2 n2 c2 bs, A = some ⟨b, off, none⟩ ∧ ls[k]? = some bs ∧ KeepC w ⟨b, off + k, none⟩ (.slice A2 n2 c2) ∧ n2 = bs.length ∧ Sl w w.heap.size 1 A2 n2 (bs.map B) := by
  obtain ⟨ps, hp, hl, _⟩ := h
  obtain ⟨b, off, A2, c2, bs, e, hps, hc, hcc, hs⟩ := hp.at_ hk
  refine ⟨b, off, A2, bs.length, c2, bs, e, ?_, hc, rfl, hs⟩
  rw [← hl, List.getElem?_map, hps]; rfl
theorem nextB_ok {p : Hdr} {first : Bool} {ls : List (List UInt8)} {s ep : Int} : (nextB p first ls s ep).ok := by
  by_cases h : nextOK p first ls s ep = true
  · rw [nextB_yes h]
    have hr : rightH (nextH p first ls s ep) = true := by unfold nextOK at h; simp only [Bool.and_eq_true] at h; exact h.2
    have hb := rightH_iff.1 hr
    have hl : (nextH p first ls s ep).prev.length = 32 ∧ (nextH p first ls s ep).root.length = 32 := by unfold nextH; split <;> simp [zeroD, hidB_len, rootB_len]
    exact ⟨⟨by omega, by omega⟩, ⟨by omega, by omega⟩, ⟨by omega, by omega⟩, hl.1, hl.2⟩
  · rw [nextB_no (by simpa using h)]; exact noHdr_ok
def HV (xs : List Value) : Prop := xs.length = 67 ∧ ∀ u ∈ xs, u.oneCell' = true
theorem HV.len {xs : List Value} (h : HV xs) : xs.length = 67 := h.1
theorem HV.one {xs : List Value} (h : HV xs) : ∀ u ∈ xs, u.oneCell' = true := h.2
theorem hv_of {x : Hdr} (h : x.ok) : HV (hdrV x) := ⟨hdrV_length h, hdr_one x⟩
theorem len_header : (hdrV noHdr).length = 67 := hdrV_length noHdr_ok
theorem zero_header : (Tryd.prog.info? 25).map (·.zero) = some (some (.agg (hdrV noHdr).toArray)) := zero_hdr2
def LenE (xs : List Value) (n : Nat) : Prop := xs.length = n
theorem LenE.len {xs : List Value} {n : Nat} (h : LenE xs n) : xs.length = n := h
set_option maxRecDepth 100000 in
set_option maxHeartbeats 1000000 in
theorem bytes1_any {res : Bool} {A A2 : Option Addr} {n c n2 c2 : Nat} {xs ys : List UInt8} (hres : decide (xs = ys) = res) (w : World) (h1 : Sl w w.heap.size 1 A n (xs.map B)) (h2 : Sl w w.heap.size 1 A2 n2 (ys.map B)) (hn : n ≤ 1000000) :
    Calls Tryd.prog 18 #[.slice A n c, .slice A2 n2 c2] w fun e w' => e = .returned (.bool res) ∧ Below w.heap.size w w' := by
  have H1 := Lib.hid h1; have H2 := Lib.hid h2
  have HL1 := Lib.hid (show xs.length = n by have := h1.len; simpa using this)
  have HL2 := Lib.hid (show ys.length = n2 by have := h2.len; simpa using this)
  have HRES := Lib.hid hres
  clear h1 h2 hres
  by_cases hnn : n = n2
  · subst hnn
    have z1 : ((n : Int) != (n : Int)) = false := by simp
    go_enter Tryd.func18, Tryd.ntmps18
    go_wp2_with fail
    go_loopw [5] (fun i wr => ∃ k : Nat, k ≤ n ∧ i = .int .i64 k ∧ Hid (xs.take k = ys.take k) ∧ Hid (Below w.heap.size w wr)) (fun i _ => n - (intOf i).toNat)
    case atStart => exact ⟨0, by omega, rfl, Lib.hid (by simp), Lib.hid (Below.refl _ _)⟩
    case round =>
      obtain ⟨k, hk, rfl, heq, hbw⟩ := hrel
      by_cases hlt : k < n
      · have HB := hbw
        have H1A := Lib.hid ((H1.out.below HB.out).more HB.out.size)
        have H2A := Lib.hid ((H2.out.below HB.out).more HB.out.size)
        obtain ⟨x, hx⟩ : ∃ x, xs[k]? = some x := ⟨_, List.getElem?_eq_getElem (by rw [HL1.out]; exact hlt)⟩
        obtain ⟨y, hy⟩ : ∃ y, ys[k]? = some y := ⟨_, List.getElem?_eq_getElem (by rw [HL2.out]; exact hlt)⟩
        have HX := Lib.hid hx; have HY := Lib.hid hy
        clear hx hy
        by_cases hxy : x = y
        · subst hxy
          try go_wp2_with fail
          repeat' (first | (with_reducible refine wp_plan (id := 6) Grow [0,0,0,2,0,0,0,2,0] (.get 0 (.get 1 (.get 2 (.get 3 (.get 4 (.get 5 (.get 6 (.get 7 (.get 8 .done))))))))) (by kernel_rfl) (by kernel_rfl) Grow.refl Grow.trans ?_) | go_values | go_skip | go_guarded | go_step | go_upon | go_back)
          intro w_ hd_
          have hb_ := hd_.grow
          have HB_ := Lib.hid (HB.out.grow' hb_)
          clear HB
          have HB := HB_
          clear HB_
          have H1A_ := Lib.hid (H1A.out.grow hb_)
          clear H1A
          have H1A := H1A_
          clear H1A_
          have H2A_ := Lib.hid (H2A.out.grow hb_)
          clear H2A
          have H2A := H2A_
          clear H2A_
          clear hb_ hd_
          obtain ⟨b1, o1, u1, rfl, hb1, hu1, hc1⟩ := H1A.out.at_ hlt
          obtain ⟨b2, o2, u2, rfl, hb2, hu2, hc2⟩ := H2A.out.at_ hlt
          obtain rfl : u1 = .int .u8 (b8 x) := by rw [List.getElem?_map, HX.out] at hu1; exact (Option.some.inj hu1).symm
          obtain rfl : u2 = .int .u8 (b8 x) := by rw [List.getElem?_map, HY.out] at hu2; exact (Option.some.inj hu2).symm
          clear hb1 hb2 hu1 hu2
          repeat (first | (refine pl_calm rfl rfl (by first | exact wanted_none rfl | (go_simp; done) | rfl) (fun w_ => by first | (go_simp; rfl) | (go_simp; done) | rfl) (fun K hK => ?_); go_simp; refine hK _ _ ?_; clear hK K) | (refine pl_skip rfl (by first | (go_simp; done) | rfl) (fun K hK => ?_); go_simp; refine hK _ _ ?_; clear hK K) | (refine pl_skipa rfl (by first | (go_simp; done) | rfl) (fun K hK => ?_); go_simp; refine hK _ _ ?_; clear hK K) | (refine pl_load rfl rfl (by first | exact wanted_none rfl | (go_simp; done) | rfl) rfl (by first | rfl | (go_simp; rfl)) (by kernel_rfl) (by first | exact hc1 | exact hc2) (fun K hK => ?_); go_simp; refine hK _ _ ?_; clear hK K) | (refine pl_loadnow rfl rfl (by first | exact wanted_none rfl | (go_simp; done) | rfl) rfl (by first | rfl | (go_simp; rfl)) (by kernel_rfl) (by first | exact hc1 | exact hc2) (fun K hK => ?_); go_simp; refine hK _ _ ?_; clear hK K))
          refine pl_done ?_
          clear hc1 hc2
          have HE := Lib.hid (show xs.take (k + 1) = ys.take (k + 1) by rw [List.take_add_one, List.take_add_one, heq.out, HX.out, HY.out])
          go_wp2_with fail
          go_roundw
          case rel => exact ⟨k + 1, by omega, by go_num, HE, HB⟩
          case measure => simp [intOf]; omega
        · have hbb : ((b8 x) != (b8 y)) = true := by
            have : b8 x ≠ b8 y := fun h => hxy (b8_inj h)
            simpa using this
          have HF := Lib.hid (show res = false by
            rw [← HRES.out]
            have : xs ≠ ys := fun h => by
              subst h
              have h1 := HX.out
              rw [HY.out] at h1
              exact hxy (Option.some.inj h1).symm
            simpa using this)
          have hne : b8 x ≠ b8 y := fun h => hxy (b8_inj h)
          have hq := eq_false hne
          clear hxy
          try go_wp2_with fail
          repeat' (first | (with_reducible refine wp_plan (id := 6) Grow [0,0,0,2,0,0,0,2,0] (.get 0 (.get 1 (.get 2 (.get 3 (.get 4 (.get 5 (.get 6 (.get 7 (.get 8 .done))))))))) (by kernel_rfl) (by kernel_rfl) Grow.refl Grow.trans ?_) | go_values | go_skip | go_guarded | go_step | go_upon | go_back)
          intro w_ hd_
          have hb_ := hd_.grow
          have HB_ := Lib.hid (HB.out.grow' hb_)
          clear HB
          have HB := HB_
          clear HB_
          have H1A_ := Lib.hid (H1A.out.grow hb_)
          clear H1A
          have H1A := H1A_
          clear H1A_
          have H2A_ := Lib.hid (H2A.out.grow hb_)
          clear H2A
          have H2A := H2A_
          clear H2A_
          clear hb_ hd_
          obtain ⟨b1, o1, u1, rfl, hb1, hu1, hc1⟩ := H1A.out.at_ hlt
          obtain ⟨b2, o2, u2, rfl, hb2, hu2, hc2⟩ := H2A.out.at_ hlt
          obtain rfl : u1 = .int .u8 (b8 x) := by rw [List.getElem?_map, HX.out] at hu1; exact (Option.some.inj hu1).symm
          obtain rfl : u2 = .int .u8 (b8 y) := by rw [List.getElem?_map, HY.out] at hu2; exact (Option.some.inj hu2).symm
          clear hb1 hb2 hu1 hu2
          repeat (first | (refine pl_calm rfl rfl (by first | exact wanted_none rfl | (go_simp; done) | rfl) (fun w_ => by first | (go_simp; rfl) | (go_simp; done) | rfl) (fun K hK => ?_); go_simp; refine hK _ _ ?_; clear hK K) | (refine pl_skip rfl (by first | (go_simp; done) | rfl) (fun K hK => ?_); go_simp; refine hK _ _ ?_; clear hK K) | (refine pl_skipa rfl (by first | (go_simp; done) | rfl) (fun K hK => ?_); go_simp; refine hK _ _ ?_; clear hK K) | (refine pl_load rfl rfl (by first | exact wanted_none rfl | (go_simp; done) | rfl) rfl (by first | rfl | (go_simp; rfl)) (by kernel_rfl) (by first | exact hc1 | exact hc2) (fun K hK => ?_); go_simp; refine hK _ _ ?_; clear hK K) | (refine pl_loadnow rfl rfl (by first | exact wanted_none rfl | (go_simp; done) | rfl) rfl (by first | rfl | (go_simp; rfl)) (by kernel_rfl) (by first | exact hc1 | exact hc2) (fun K hK => ?_); go_simp; refine hK _ _ ?_; clear hK K))
          refine pl_done ?_
          clear hc1 hc2
          go_wp2_with fail
          go_ret
          exact ⟨by rw [HF.out]; rfl, HB.out⟩
      · obtain rfl : k = n := by omega
        have HT := Lib.hid (show res = true by
          rw [← HRES.out]
          have h := heq.out
          rw [List.take_of_length_le (by rw [HL1.out]; exact Nat.le_refl _), List.take_of_length_le (by rw [HL2.out]; exact Nat.le_refl _)] at h
          simpa using h)
        go_wp2_with fail
        go_ret
        exact ⟨by rw [HT.out]; rfl, hbw.out⟩
  · have z1 : ((n : Int) != (n2 : Int)) = true := by simp; omega
    have HF := Lib.hid (show res = false by
      rw [← HRES.out]
      have : xs ≠ ys := fun h => by subst h; exact hnn (by rw [← HL1.out, ← HL2.out])
      simpa using this)
    have hz : ¬ ((n : Int) = (n2 : Int)) := by omega
    have hzq := eq_false hz
    go_enter Tryd.func18, Tryd.ntmps18
    go_wp2_with fail
    go_ret
    exact ⟨by rw [HF.out]; rfl, Below.refl _ _⟩
end Go.Proofs.YtphmefhnffoafaaDoor

/- The walk of HeaderReads. -/
namespace Go.Proofs.YtphmefhnffoafaaDoor
open Go.RowKit Go.Shelf
set_option linter.unusedVariables false
theorem hdr_self (x : Hdr) (h : x.ok) : ∀ w, (Op.equalIn 10000 25 (.agg (hdrV x).toArray) (.agg (hdrV x).toArray)).run Tryd.prog w = .ok true w := by
  obtain ⟨n4, hn4⟩ := types_3
  obtain ⟨r, hr, hq⟩ := eql_deep key_header (m := 3) (by omega) (by kernel_rfl) (by kernel_rfl) (by kernel_rfl) (hdrV x) (hdrV x) (by rw [hdrV_length h, cells_header]) (by rw [hdrV_length h, cells_header]) (by rw [hn4]; exact lits_hdr (n4 + 1) _ h) (by rw [hn4]; exact lits_hdr (n4 + 1) _ h)
  obtain rfl := hr.2 rfl
  exact hq
set_option maxRecDepth 100000 in
set_option maxHeartbeats 4000000 in
theorem hdrReads_walk (A : Option Addr) (n c : Nat) (bs : List UInt8) (w : World) (hs : Sl w w.heap.size 1 A n (bs.map B)) (hc : n ≤ c) (hm : c ≤ maxLen) (ht : Tabs w) :
    Calls Tryd.prog 9 #[.slice A n c] w fun e w' => e = .returned (.bool true) ∧ Below w.heap.size w w' := by
  have HS := Lib.hid hs
  have HT0 := Lib.hid ht
  obtain ⟨w_, hw⟩ : ∃ x, x = w := ⟨_, rfl⟩
  have HB := Lib.hid (show Below w.heap.size w w_ by rw [hw]; exact Below.refl _ _)
  suffices H : Calls Tryd.prog 9 #[.slice A n c] w_ fun e w' => e = .returned (.bool true) ∧ Below w.heap.size w w' by rw [hw] at H; exact H
  clear hw hs ht hm
  by_cases h100 : n ≤ 100
  · have g1 : decide (100 < (n : Int)) = false := by simp; omega
    have HR := Lib.hid (fun w hs => hread_any (A := A) (n := n) (c := c) (l := bs) w hs (by omega))
    have HRR := Lib.hid (fun w hs => rhread_any (A := A) (n := n) (c := c) (l := bs) w hs hc (by omega))
    have HQ := hdr_self _ (hdrOf_ok bs)
    have HD := Lib.hid (hv_of (hdrOf_ok bs))
    obtain ⟨hv, hhv⟩ : ∃ v, v = hdrV (hdrOf (readH bs)) := ⟨_, rfl⟩
    obtain ⟨er, her⟩ : ∃ v, v = errOf (readH bs) := ⟨_, rfl⟩
    rw [← hhv] at HQ HD
    rw [← hhv, ← her] at HR HRR
    clear hhv her
    go_enter Tryd.func9, Tryd.ntmps9
    go_wp2_with fail
    refine (HR.out _ (HS.out.grow HB.out)).mono ?_
    rintro e w_ ⟨rfl, hb_⟩
    have HB_ := Lib.hid (HB.out.grow' hb_)
    clear HB
    have HB := HB_
    clear HB_
    clear hb_
    go_wp2_with (first | (with_reducible refine wpl_alloc (o := ⟨some 3, _, _, _, _, _⟩) rfl rfl zero_hd ?_))
    intro w1_ hb1_ hbw1_ hsz1_
    have HB1_ := Lib.hid (at_mk hb1_ len_hd)
    have HBW1_ := Lib.hid hbw1_
    have HZ1_ := Lib.hid hsz1_
    clear hb1_ hbw1_ hsz1_
    go_wp2_with (first | (with_reducible refine wpl_storeb (o := ⟨none, .store _ _ _, _, _, _, _⟩) rfl rfl row_hd HB1_.out.blk rfl rfl HB1_.out.len HD.out.len HD.out.one ?_))
    intro w2_ hb2_ hg2_ hsz2_
    have hb_ := var_grow HBW1_.out HZ1_.out hg2_
    have HX_ := Lib.hid (at_mk hb2_ HD.out.len)
    clear hb2_ hg2_ hsz2_ HB1_ HBW1_ HZ1_
    have HB_ := Lib.hid (HB.out.grow' hb_)
    clear HB
    have HB := HB_
    clear HB_
    generalize hg_ : w_.heap.size = g3 at HX_ ⊢
    clear hg_
    have HX := HX_
    clear hb_ HX_
    clear w1_
    try clear w_
    rename World => w_
    go_wp2_with fail
    refine (HRR.out _ (HS.out.grow HB.out)).mono ?_
    rintro e w_ ⟨rfl, hb_⟩
    have HB_ := Lib.hid (HB.out.grow' hb_)
    clear HB
    have HB := HB_
    clear HB_
    have HX_ := Lib.hid (HX.out.grow hb_)
    clear HX
    have HX := HX_
    clear HX_
    clear hb_
    go_wp2_with (first | (with_reducible refine wpl_alloc (o := ⟨some 5, _, _, _, _, _⟩) rfl rfl zero_hd ?_))
    intro w1_ hb1_ hbw1_ hsz1_
    have HB1_ := Lib.hid (at_mk hb1_ len_hd)
    have HBW1_ := Lib.hid hbw1_
    have HZ1_ := Lib.hid hsz1_
    clear hb1_ hbw1_ hsz1_
    go_wp2_with (first | (with_reducible refine wpl_storeb (o := ⟨none, .store _ _ _, _, _, _, _⟩) rfl rfl row_hd HB1_.out.blk rfl rfl HB1_.out.len HD.out.len HD.out.one ?_))
    intro w2_ hb2_ hg2_ hsz2_
    have hb_ := var_grow HBW1_.out HZ1_.out hg2_
    have HX_ := Lib.hid (at_mk hb2_ HD.out.len)
    clear hb2_ hg2_ hsz2_ HB1_ HBW1_ HZ1_
    have HB_ := Lib.hid (HB.out.grow' hb_)
    clear HB
    have HB := HB_
    clear HB_
    have HX_ := Lib.hid (HX.out.grow hb_)
    clear HX
    have HX := HX_
    clear HX_
    generalize hg_ : w_.heap.size = g5 at HX_ ⊢
    clear hg_
    have HY := HX_
    clear hb_ HX_
    clear w1_
    try clear w_
    rename World => w_
    have HT := Lib.hid (HT0.out.grow HB.out)
    go_wp2_with (first | (with_reducible refine wpl_loadb (o := ⟨_, .load _ _, _, _, _, _⟩) rfl rfl row_hd HX.out.blk rfl HX.out.len ?_) | (with_reducible refine wpl_loadw (o := ⟨_, .load _ _, _, _, _, _⟩) (by first | rfl | (go_simp; done) | fail) rfl row_hd HX.out.blk rfl HX.out.len ?_) | (with_reducible refine wpl_loadb (o := ⟨_, .load _ _, _, _, _, _⟩) rfl rfl row_hd HY.out.blk rfl HY.out.len ?_) | (with_reducible refine wpl_loadw (o := ⟨_, .load _ _, _, _, _, _⟩) (by first | rfl | (go_simp; done) | fail) rfl row_hd HY.out.blk rfl HY.out.len ?_))
    go_wp2_with fail
    refine (awake10_any _ HT.out).mono ?_
    rintro e w_ ⟨rfl, hb_⟩
    have HB_ := Lib.hid (HB.out.grow' hb_)
    clear HB
    have HB := HB_
    clear HB_
    have HT_ := Lib.hid (HT.out.grow hb_)
    clear HT
    have HT := HT_
    clear HT_
    clear hb_
    go_wp2_with fail
    go_ret
    exact ⟨rfl, HB.out⟩
  · have g1 : decide (100 < (n : Int)) = true := by simp; omega
    go_enter Tryd.func9, Tryd.ntmps9
    have HT := Lib.hid (HT0.out.grow HB.out)
    go_wp2_with fail
    refine (awake10_any _ HT.out).mono ?_
    rintro e w_ ⟨rfl, hb_⟩
    have HB_ := Lib.hid (HB.out.grow' hb_)
    clear HB
    have HB := HB_
    clear HB_
    have HT_ := Lib.hid (HT.out.grow hb_)
    clear HT
    have HT := HT_
    clear HT_
    clear hb_
    go_wp2_with fail
    go_ret
    exact ⟨rfl, HB.out⟩
end Go.Proofs.YtphmefhnffoafaaDoor

/- The walk of HeaderForms. -/
namespace Go.Proofs.YtphmefhnffoafaaDoor
open Go.RowKit Go.Shelf
set_option linter.unusedVariables false
theorem hread_own {x : Hdr} (hx : x.ok) (h : rightH x = true) {A : Option Addr} {c : Nat} (w : World) (hs : Sl w w.heap.size 1 A (hformB x).length ((hformB x).map B)) :
    Calls Tryd.prog 38 #[.slice A (hformB x).length c] w fun e w' => e = .returned (.tuple #[.agg (hdrV x).toArray, .int .i64 0]) ∧ Below w.heap.size w w' := by
  have e1 : hformB x = putHB x := by unfold hformB; rw [if_pos h]
  have h1 := hread_any (A := A) (n := (hformB x).length) (c := c) (l := hformB x) w hs (by rw [e1]; have := putHB_len hx h; omega)
  have e2 : readH (hformB x) = .ok x := by rw [e1]; exact readH_put hx h
  rw [e2] at h1
  exact h1
set_option maxRecDepth 100000 in
set_option maxHeartbeats 8000000 in
theorem hdrForms_any (x : Hdr) (w : World) (hx : x.ok) (ht : Tabs w) :
    Calls Tryd.prog 8 #[.agg (hdrV x).toArray] w fun e w' => e = .returned (.bool true) ∧ Below w.heap.size w w' := by
  have HT0 := Lib.hid ht
  obtain ⟨w_, hw⟩ : ∃ x, x = w := ⟨_, rfl⟩
  have HB := Lib.hid (show Below w.heap.size w w_ by rw [hw]; exact Below.refl _ _)
  obtain ⟨zs, hzs⟩ : ∃ zs, Dig zs (hidB x) := ⟨(hidB x).map B, rfl, hidB_len x⟩
  have HP := Lib.hid (fun w => hput_any x w hx)
  have HRP := Lib.hid (fun w h => rhput_any x w hx h)
  have HR := Lib.hid (fun w => hright_any x w hx)
  have HRR := Lib.hid (fun w => rhright_any x w hx)
  have HI := Lib.hid (fun w ht => hid_any x hzs w hx ht)
  have HRI := Lib.hid (fun w => rhid_any x hzs w hx)
  have HQ := hdr_self _ hx
  have HD := Lib.hid (hv_of hx)
  have HRD := Lib.hid (fun h : rightH x = true => readH_put hx h)
  have HPL := Lib.hid (fun h : rightH x = true => putHB_len hx h)
  have HFY := Lib.hid (show rightH x = true → hformB x = putHB x from fun h => by unfold hformB; rw [if_pos h])
  have HFN := Lib.hid (show rightH x = false → hformB x = [] from fun h => by unfold hformB; rw [if_neg (by simp [h])])
  have HRR2 := Lib.hid (fun h A c w hs => hread_own (A := A) (c := c) hx h w hs)
  have q3 := hzs.neq_b hzs (d := true) (by simp)
  obtain ⟨r, hr⟩ : ∃ r, r = rightH x := ⟨_, rfl⟩
  rw [← hr] at HP HRP HR HRR HRD HPL HFY HFN HRR2
  have HRE := Lib.hid hr
  obtain ⟨hv, hhv⟩ : ∃ v, v = hdrV x := ⟨_, rfl⟩
  have HHV := Lib.hid hhv
  rw [← hhv] at HP HRP HR HRR HI HRI HQ HD HRR2 ⊢
  suffices H : Calls Tryd.prog 8 #[.agg hv.toArray] w_ fun e w' => e = .returned (.bool true) ∧ Below w.heap.size w w' by rw [hw] at H; exact H
  clear hw ht hr hhv hzs hx
  go_enter Tryd.func8, Tryd.ntmps8
  go_wp2_with (first | (with_reducible refine wpl_box (o := ⟨some 1, _, _, _, _, _⟩) rfl rfl rfl ?_))
  intro w2_ hb2_ hb_ hsz2_
  have HX_ := Lib.hid (at_mk hb2_ HD.out.len)
  clear hb2_ hsz2_
  have HG_ := Lib.hid HB.out.size
  have HB_ := Lib.hid (HB.out.grow' hb_)
  clear HB
  have HB := HB_
  clear HB_
  generalize hg_ : w_.heap.size = g1 at HX_ HG_ ⊢
  clear hg_
  have HX_g := HG_
  clear HG_
  have HX := HX_
  clear hb_ HX_
  try clear w_
  rename World => w_
  go_wp2_with (first | (with_reducible refine wpl_loadb (o := ⟨some 8, _, _, _, _, _⟩) rfl rfl row_hd HX.out.blk rfl HX.out.len ?_))
  refine (HP.out _).mono ?_
  rintro e w2_ ⟨A3, c3, rfl, hs3, hc3, hb_⟩
  have HS3 := Lib.hid hs3
  have HX_ := Lib.hid (HX.out.grow hb_); have HB_ := Lib.hid (HB.out.grow' hb_)
  clear hs3 hb_ HX HB HP
  have HX := HX_; have HB := HB_
  clear HX_ HB_
  try clear w_
  rename World => w_
  try go_wp2_with fail
  repeat' (first | (with_reducible refine wp_plan (id := 2) Grow [0,2,3,0,0,2,3,0,0,0,0,2,4,1,3,0,0] (.get 0 (.get 1 (.act 2 (.get 3 (.get 4 (.get 5 (.get 7 (.act 6 (.get 8 (.get 9 (.get 10 (.get 11 (.get 13 (.act 12 (.act 14 (.get 15 (.get 16 .done))))))))))))))))) (by kernel_rfl) (by kernel_rfl) Grow.refl Grow.trans ?_) | go_values | go_skip | go_guarded | go_step | go_upon | go_back)
  intro w_ hd_
  have hb_ := hd_.grow
  have HB_ := Lib.hid (HB.out.grow' hb_)
  clear HB
  have HB := HB_
  clear HB_
  have HX_ := Lib.hid (HX.out.grow hb_)
  clear HX
  have HX := HX_
  clear HX_
  have HS3_ := Lib.hid (HS3.out.grow hb_)
  clear HS3
  have HS3 := HS3_
  clear HS3_
  clear hb_ hd_
  repeat (first | (refine pl_loadb rfl rfl (by first | exact wanted_none rfl | (go_simp; done) | rfl) rfl row_hd HX.out.blk (by first | rfl | (go_simp; done) | rfl) HX.out.len (fun K hK => ?_); go_simp; refine hK _ _ ?_; clear hK K) | (refine pl_loadbnow rfl rfl (by first | exact wanted_none rfl | (go_simp; done) | rfl) rfl row_hd HX.out.blk (by first | rfl | (go_simp; done) | rfl) HX.out.len (fun K hK => ?_); go_simp; refine hK _ _ ?_; clear hK K) | (refine pl_calm rfl rfl (by first | exact wanted_none rfl | (go_simp; done) | rfl) (fun w_ => by first | (go_simp; rfl) | (go_simp; done) | rfl) (fun K hK => ?_); go_simp; refine hK _ _ ?_; clear hK K) | (refine pl_skip rfl (by first | (go_simp; done) | rfl) (fun K hK => ?_); go_simp; refine hK _ _ ?_; clear hK K) | (refine pl_skipa rfl (by first | (go_simp; done) | rfl) (fun K hK => ?_); go_simp; refine hK _ _ ?_; clear hK K))
  refine pl_act rfl (by first | exact wanted_none rfl | (go_simp; done) | rfl) (fun K hK => ?_)
  go_wp2_with fail
  refine (HRR.out _).mono ?_
  rintro e w_ ⟨rfl, hb_⟩
  go_wp2_with fail
  refine hK _ _ (fun _ => hb_) ?_
  clear hK K
  have HB_ := Lib.hid (HB.out.grow' hb_)
  clear HB
  have HB := HB_
  clear HB_
  have HX_ := Lib.hid (HX.out.grow hb_)
  clear HX
  have HX := HX_
  clear HX_
  have HS3_ := Lib.hid (HS3.out.grow hb_)
  clear HS3
  have HS3 := HS3_
  clear HS3_
  clear hb_
  repeat (first | (refine pl_loadb rfl rfl (by first | exact wanted_none rfl | (go_simp; done) | rfl) rfl row_hd HX.out.blk (by first | rfl | (go_simp; done) | rfl) HX.out.len (fun K hK => ?_); go_simp; refine hK _ _ ?_; clear hK K) | (refine pl_loadbnow rfl rfl (by first | exact wanted_none rfl | (go_simp; done) | rfl) rfl row_hd HX.out.blk (by first | rfl | (go_simp; done) | rfl) HX.out.len (fun K hK => ?_); go_simp; refine hK _ _ ?_; clear hK K) | (refine pl_calm rfl rfl (by first | exact wanted_none rfl | (go_simp; done) | rfl) (fun w_ => by first | (go_simp; rfl) | (go_simp; done) | rfl) (fun K hK => ?_); go_simp; refine hK _ _ ?_; clear hK K) | (refine pl_skip rfl (by first | (go_simp; done) | rfl) (fun K hK => ?_); go_simp; refine hK _ _ ?_; clear hK K) | (refine pl_skipa rfl (by first | (go_simp; done) | rfl) (fun K hK => ?_); go_simp; refine hK _ _ ?_; clear hK K))
  refine pl_act rfl (by first | exact wanted_none rfl | (go_simp; done) | rfl) (fun K hK => ?_)
  go_wp2_with fail
  refine (HR.out _).mono ?_
  rintro e w_ ⟨rfl, hb_⟩
  go_wp2_with fail
  refine hK _ _ (fun _ => hb_) ?_
  clear hK K
  have HB_ := Lib.hid (HB.out.grow' hb_)
  clear HB
  have HB := HB_
  clear HB_
  have HX_ := Lib.hid (HX.out.grow hb_)
  clear HX
  have HX := HX_
  clear HX_
  have HS3_ := Lib.hid (HS3.out.grow hb_)
  clear HS3
  have HS3 := HS3_
  clear HS3_
  clear hb_
  repeat (first | (refine pl_loadb rfl rfl (by first | exact wanted_none rfl | (go_simp; done) | rfl) rfl row_hd HX.out.blk (by first | rfl | (go_simp; done) | rfl) HX.out.len (fun K hK => ?_); go_simp; refine hK _ _ ?_; clear hK K) | (refine pl_loadbnow rfl rfl (by first | exact wanted_none rfl | (go_simp; done) | rfl) rfl row_hd HX.out.blk (by first | rfl | (go_simp; done) | rfl) HX.out.len (fun K hK => ?_); go_simp; refine hK _ _ ?_; clear hK K) | (refine pl_calm rfl rfl (by first | exact wanted_none rfl | (go_simp; done) | rfl) (fun w_ => by first | (go_simp; rfl) | (go_simp; done) | rfl) (fun K hK => ?_); go_simp; refine hK _ _ ?_; clear hK K) | (refine pl_skip rfl (by first | (go_simp; done) | rfl) (fun K hK => ?_); go_simp; refine hK _ _ ?_; clear hK K) | (refine pl_skipa rfl (by first | (go_simp; done) | rfl) (fun K hK => ?_); go_simp; refine hK _ _ ?_; clear hK K))
  refine pl_act rfl (by first | exact wanted_none rfl | (go_simp; done) | rfl) (fun K hK => ?_)
  go_wp2_with fail
  refine (HI.out _ (HT0.out.grow HB.out)).mono ?_
  rintro e w_ ⟨rfl, hb_⟩
  go_wp2_with fail
  refine hK _ _ (fun _ => hb_) ?_
  clear hK K
  have HB_ := Lib.hid (HB.out.grow' hb_)
  clear HB
  have HB := HB_
  clear HB_
  have HX_ := Lib.hid (HX.out.grow hb_)
  clear HX
  have HX := HX_
  clear HX_
  have HS3_ := Lib.hid (HS3.out.grow hb_)
  clear HS3
  have HS3 := HS3_
  clear HS3_
  clear hb_
  repeat (first | (refine pl_loadb rfl rfl (by first | exact wanted_none rfl | (go_simp; done) | rfl) rfl row_hd HX.out.blk (by first | rfl | (go_simp; done) | rfl) HX.out.len (fun K hK => ?_); go_simp; refine hK _ _ ?_; clear hK K) | (refine pl_loadbnow rfl rfl (by first | exact wanted_none rfl | (go_simp; done) | rfl) rfl row_hd HX.out.blk (by first | rfl | (go_simp; done) | rfl) HX.out.len (fun K hK => ?_); go_simp; refine hK _ _ ?_; clear hK K) | (refine pl_calm rfl rfl (by first | exact wanted_none rfl | (go_simp; done) | rfl) (fun w_ => by first | (go_simp; rfl) | (go_simp; done) | rfl) (fun K hK => ?_); go_simp; refine hK _ _ ?_; clear hK K) | (refine pl_skip rfl (by first | (go_simp; done) | rfl) (fun K hK => ?_); go_simp; refine hK _ _ ?_; clear hK K) | (refine pl_skipa rfl (by first | (go_simp; done) | rfl) (fun K hK => ?_); go_simp; refine hK _ _ ?_; clear hK K))
  refine pl_act rfl (by first | exact wanted_none rfl | (go_simp; done) | rfl) (fun K hK => ?_)
  go_wp2_with fail
  refine (HRI.out _).mono ?_
  rintro e w_ ⟨rfl, hb_⟩
  go_wp2_with fail
  refine hK _ _ (fun _ => hb_) ?_
  clear hK K
  have HB_ := Lib.hid (HB.out.grow' hb_)
  clear HB
  have HB := HB_
  clear HB_
  have HX_ := Lib.hid (HX.out.grow hb_)
  clear HX
  have HX := HX_
  clear HX_
  have HS3_ := Lib.hid (HS3.out.grow hb_)
  clear HS3
  have HS3 := HS3_
  clear HS3_
  clear hb_
  repeat (first | (refine pl_loadb rfl rfl (by first | exact wanted_none rfl | (go_simp; done) | rfl) rfl row_hd HX.out.blk (by first | rfl | (go_simp; done) | rfl) HX.out.len (fun K hK => ?_); go_simp; refine hK _ _ ?_; clear hK K) | (refine pl_loadbnow rfl rfl (by first | exact wanted_none rfl | (go_simp; done) | rfl) rfl row_hd HX.out.blk (by first | rfl | (go_simp; done) | rfl) HX.out.len (fun K hK => ?_); go_simp; refine hK _ _ ?_; clear hK K) | (refine pl_calm rfl rfl (by first | exact wanted_none rfl | (go_simp; done) | rfl) (fun w_ => by first | (go_simp; rfl) | (go_simp; done) | rfl) (fun K hK => ?_); go_simp; refine hK _ _ ?_; clear hK K) | (refine pl_skip rfl (by first | (go_simp; done) | rfl) (fun K hK => ?_); go_simp; refine hK _ _ ?_; clear hK K) | (refine pl_skipa rfl (by first | (go_simp; done) | rfl) (fun K hK => ?_); go_simp; refine hK _ _ ?_; clear hK K))
  refine pl_done ?_
  cases r with
  | false =>
    have HE := HFN.out (by first | trivial | rfl)
    rw [HE]
    have HT := Lib.hid (HT0.out.grow HB.out)
    go_wp2_with fail
    refine (awake10_any _ HT.out).mono ?_
    rintro e w2_ ⟨rfl, hb_⟩
    have HB_ := Lib.hid (HB.out.grow' hb_)
    clear hb_ HB
    go_wp2_with fail
    go_ret
    exact ⟨rfl, HB_.out⟩
  | true =>
    have HFE := Lib.hid (HFY.out (by first | trivial | rfl))
    have HN91 := Lib.hid (show (hformB x).length ≤ 91 by rw [HFE.out]; exact HPL.out (by first | trivial | rfl))
    go_wp2_with fail
    refine (HRR2.out (by first | trivial | rfl) _ _ _ HS3.out).mono ?_
    rintro e w_ ⟨rfl, hb_⟩
    have HB_ := Lib.hid (HB.out.grow' hb_)
    clear HB
    have HB := HB_
    clear HB_
    have HX_ := Lib.hid (HX.out.grow hb_)
    clear HX
    have HX := HX_
    clear HX_
    have HS3_ := Lib.hid (HS3.out.grow hb_)
    clear HS3
    have HS3 := HS3_
    clear HS3_
    clear hb_
    go_wp2_with (first | (with_reducible refine wpl_alloc (o := ⟨some 5, _, _, _, _, _⟩) rfl rfl zero_hd ?_))
    intro w1_ hb1_ hbw1_ hsz1_
    have HB1_ := Lib.hid (at_mk hb1_ len_hd)
    have HBW1_ := Lib.hid hbw1_
    have HZ1_ := Lib.hid hsz1_
    clear hb1_ hbw1_ hsz1_
    go_wp2_with (first | (with_reducible refine wpl_storeb (o := ⟨none, .store _ _ _, _, _, _, _⟩) rfl rfl row_hd HB1_.out.blk rfl rfl HB1_.out.len HD.out.len HD.out.one ?_))
    intro w2_ hb2_ hg2_ hsz2_
    have hb_ := var_grow HBW1_.out HZ1_.out hg2_
    have HX_ := Lib.hid (at_mk hb2_ HD.out.len)
    clear hb2_ hg2_ hsz2_ HB1_ HBW1_ HZ1_
    have HB_ := Lib.hid (HB.out.grow' hb_)
    clear HB
    have HB := HB_
    clear HB_
    have HX_ := Lib.hid (HX.out.grow hb_)
    clear HX
    have HX := HX_
    clear HX_
    have HS3_ := Lib.hid (HS3.out.grow hb_)
    clear HS3
    have HS3 := HS3_
    clear HS3_
    generalize hg_ : w_.heap.size = g5 at HX_ ⊢
    clear hg_
    have HY := HX_
    clear hb_ HX_
    clear w1_
    try clear w_
    rename World => w_
    go_wp2_with (first | (with_reducible refine wpl_loadb (o := ⟨some 43, _, _, _, _, _⟩) rfl rfl row_hd HX.out.blk rfl HX.out.len ?_))
    refine (HRP.out _ (by first | trivial | rfl)).mono ?_
    rintro e w2_ ⟨A4, c4, rfl, hs4, hc4, hb_⟩
    have HS4 := Lib.hid hs4
    clear hs4 hc4
    have hb_ := hb_
    clear hb_
    have HB_ := Lib.hid (HB.out.grow' hb_)
    clear HB
    have HB := HB_
    clear HB_
    have HX_ := Lib.hid (HX.out.grow hb_)
    clear HX
    have HX := HX_
    clear HX_
    have HY_ := Lib.hid (HY.out.grow hb_)
    clear HY
    have HY := HY_
    clear HY_
    have HS3_ := Lib.hid (HS3.out.grow hb_)
    clear HS3
    have HS3 := HS3_
    clear HS3_
    clear hb_
    try clear w_
    rename World => w_
    go_wp2_with fail
    refine (bytes1_any (res := true) (by rw [HFE.out]; simp) _ HS3.out HS4.out (by have := HN91.out; omega)).mono ?_
    rintro e w2_ ⟨rfl, hb_⟩
    clear HS3 HS4 HN91
    have hb_ := hb_
    clear hb_
    have HB_ := Lib.hid (HB.out.grow' hb_)
    clear HB
    have HB := HB_
    clear HB_
    have HX_ := Lib.hid (HX.out.grow hb_)
    clear HX
    have HX := HX_
    clear HX_
    have HY_ := Lib.hid (HY.out.grow hb_)
    clear HY
    have HY := HY_
    clear HY_
    clear hb_
    try clear w_
    rename World => w_
    go_wp2_with (first | (with_reducible refine wpl_loadb (o := ⟨_, .load _ _, _, _, _, _⟩) rfl rfl row_hd HX.out.blk rfl HX.out.len ?_) | (with_reducible refine wpl_loadw (o := ⟨_, .load _ _, _, _, _, _⟩) (by first | rfl | (go_simp; done) | fail) rfl row_hd HX.out.blk rfl HX.out.len ?_) | (with_reducible refine wpl_loadb (o := ⟨_, .load _ _, _, _, _, _⟩) rfl rfl row_hd HY.out.blk rfl HY.out.len ?_) | (with_reducible refine wpl_loadw (o := ⟨_, .load _ _, _, _, _, _⟩) (by first | rfl | (go_simp; done) | fail) rfl row_hd HY.out.blk rfl HY.out.len ?_))
    have HT := Lib.hid (HT0.out.grow HB.out)
    go_wp2_with fail
    refine (awake10_any _ HT.out).mono ?_
    rintro e w_ ⟨rfl, hb_⟩
    have HB_ := Lib.hid (HB.out.grow' hb_)
    clear HB
    have HB := HB_
    clear HB_
    have HT_ := Lib.hid (HT.out.grow hb_)
    clear HT
    have HT := HT_
    clear HT_
    clear hb_
    go_wp2_with fail
    go_ret
    exact ⟨rfl, HB.out⟩
theorem hdrForms_walk (e : Hdr) (w : World) (he : e.ok) (ht : Tabs w) : Calls Tryd.prog 8 #[.agg (hdrV e).toArray] w fun e w' => e = .returned (.bool true) ∧ Below w.heap.size w w' := hdrForms_any e w he ht
end Go.Proofs.YtphmefhnffoafaaDoor

/- The given card HeaderFormsCardSaid, out of the walk hdrForms_walk: for every input the law returns true, and each argument reads as it did; the tables of package sha are tied to the program's text. No condition. -/
namespace Go.Proofs.YtphmefhnffoafaaDoor.lawHeaderForms
open Go.ChangeShapes Go.WideShapes Go.ChangeAt Go.RowKit
open Go.ChangeMaps (open_string shut_string)
set_option linter.unusedVariables false

theorem laidOut : laidOutB Tryd.prog = true := laid_out
set_option maxRecDepth 100000 in
theorem contract (H : Type) (enc : TypeId × Value → H) (W : World) (base : Nat) (args : Array Value) (ds gs : List (DataW H)) (before : List MemPlace)
    (hval0 : ∀ (j : Nat) t v, Tryd.f8.params[j]? = some t → args[j]? = some v → Value.okWide Tryd.prog W .any base t v)
    (hW : DataW.Whole enc Tryd.prog Tryd.f8.params.toList Rows.headerFormsSpec.vars false W args.toList ds gs before) (hL : laidMetH Tryd.prog Rows.headerFormsRow.laid W) :
    Calls Tryd.prog 8 args W fun e W' => ∃ v, e = .returned v ∧ Rows.headerFormsSpec.post enc Tryd.prog Tryd.f8 false true false false W args v W' := by
  have hval : ∀ (j : Nat) t v, Tryd.f8.params[j]? = some t → args[j]? = some v → Value.okWide Tryd.prog W .any base t v := hval0
  have hW' := hW
  obtain ⟨p, q, hA0, hV, rfl, hfz, hnd⟩ := hW
  have hA : DataW.TrodAll enc Tryd.prog W 0 (fun _ => true) true Tryd.f8.params.toList args.toList ds p := hA0
  rw [Tryd.params8] at hA hval
  obtain ⟨v0, vs0, d0, ds0, p0, q0, hargs, rfl, rfl, h0, r0⟩ := trodAll_cons hA
  obtain ⟨rfl, rfl, rfl⟩ := trodAll_nil r0
  obtain rfl : args = #[v0] := by cases args; simp_all
  obtain ⟨rfl, rfl⟩ := trodVars_none hV
  have k0 := h0
  have lt0 : ∀ x ∈ p0, x.block < W.heap.size := by obtain ⟨m, hm⟩ := k0; exact DataW.trod_lt m _ _ _ hm
  obtain ⟨x0_0, rfl, f0_0⟩ := open_hdr (hval 0 25 v0 rfl rfl) h0
  have htabs : Tabs W := tabs_of hL
  clear hA0 hval0 hL
  refine (hdrForms_walk x0_0 W f0_0 htabs).mono fun e W' ⟨he, bel⟩ => ?_
  subst he
  exact ⟨_, rfl, _, _, _, [], _, [], hW', trodAll_mk1 (shut_bool Tryd.underlying4 _), (trodAll_cons_mk (Below.trod laidOut (by kernel_rfl) (of_decide_eq_true (by kernel_rfl)) k0 bel lt0) trodAll_mk0), rfl, bel.frame _, fun h => by cases h⟩

theorem laid_met (os : Os) : laidMet Tryd.prog Rows.headerFormsRow.laid ((laidWorld os).forCall (fun _ _ => 0) ⟨#[], #[.agg (hdrV noHdr).toArray], []⟩).memory :=
  laidMet_of_run' 8 (by kernel_rfl) (by kernel_rfl)
theorem reads (os : Os) {H : Type} (enc : TypeId × Value → H) : ∃ ds places, DataW.whole enc Tryd.prog ((laidWorld os).forCall (fun _ _ => 0) ⟨#[], #[.agg (hdrV noHdr).toArray], []⟩).memory Tryd.f8.params.toList Rows.headerFormsSpec.vars false #[.agg (hdrV noHdr).toArray].toList 8 = some (ds, [], places) := by
  obtain ⟨⟨ds, gs, pl⟩, h, e⟩ := Option.map_eq_some_iff.1 (show (DataW.whole enc Tryd.prog ((laidWorld os).forCall (fun _ _ => 0) ⟨#[], #[.agg (hdrV noHdr).toArray], []⟩).memory Tryd.f8.params.toList Rows.headerFormsSpec.vars false #[.agg (hdrV noHdr).toArray].toList 8).map (fun x => x.2.1) = some [] by kernel_rfl)
  simp only at e
  subst e
  exact ⟨ds, pl, h⟩

set_option maxRecDepth 100000 in
theorem lifted (os : Os) (started : os.Started) (H : Type) (enc : TypeId × Value → H) (F : Stop.Interp) :
    ReturnsInHanded {} Tryd.checked os 8 .any ((OpenSpec.ofChange Rows.headerFormsSpec).preRow enc Tryd.prog Tryd.f8 Rows.headerFormsRow.domain false Rows.headerFormsRow.laid) (((OpenSpec.ofChange Rows.headerFormsSpec).at F).post enc Tryd.prog Tryd.f8 false true false false) := by
  obtain ⟨ds, places, hx⟩ := reads os enc
  refine returnsInHanded_of_row (C := Tryd.checked) (s := OpenSpec.ofChange Rows.headerFormsSpec) own_knob started (by kernel_rfl) Tryd.func8
    (witness_row_at (enc := enc) (C := Tryd.checked) false (laidWorld os) #[.agg (hdrV noHdr).toArray] rfl (by kernel_rfl) (by kernel_rfl) (by kernel_rfl)
      (OpenSpec.preRow_of_cond 8 hx (by kernel_rfl) (fun k hk => by cases hk) (by kernel_rfl) (laid_met os))) ?_
  intro W base args ds gs before hval hW _ _ _ hL _ _
  exact contract H enc W base args ds gs before hval hW hL

theorem said : Rows.HeaderFormsSaid :=
  OpenClaim.holds_of_cond 8 Tryd.f8 rfl rfl rfl rfl rfl rfl rfl ⟨rfl, rfl, rfl, rfl, rfl⟩ rfl rfl rfl rfl rfl (by kernel_rfl) Tryd.func8 (by kernel_rfl)
    (of_decide_eq_true (by kernel_rfl)) (by unfold Func.isWrapper; first | (rw [if_pos (by decide +kernel)]; kernel_rfl) | (rw [if_neg (by decide +kernel)]; exact ⟨rfl, rfl⟩))
    (fun os started H enc _ F => by rw [OpenClaim.pre_eq_preRow]; exact lifted os started H enc F)

theorem plain (f : FuncId) (fn : Func) (hf : Tryd.pinned.checked.prog.funcNamed "seisin/seisinlaw10.HeaderForms" = some f) (hfn : Tryd.pinned.checked.prog.funcs[f]? = some fn) :
    true = Tryd.pinned.checked.prog.looks [] ∧ ∀ (j : Nat) t, fn.params[j]? = some t → Tryd.pinned.checked.prog.wantsStandIn t = false := by
  obtain rfl : f = 8 := Option.some.inj ((show Tryd.prog.funcNamed "seisin/seisinlaw10.HeaderForms" = some 8 by kernel_rfl).symm.trans hf) |>.symm
  obtain rfl : fn = Tryd.f8 := (Option.some.inj (Tryd.func8.symm.trans hfn)).symm
  refine ⟨by kernel_rfl, fun j t ht => ?_⟩
  rw [Tryd.params8] at ht
  have hm : t ∈ [25] := by simpa using Array.mem_of_getElem? ht
  have hall : ([25].all fun u => !Tryd.prog.wantsStandIn u) = true := by kernel_rfl
  exact (show Tryd.prog.wantsStandIn t = false by simpa using List.all_eq_true.1 hall t hm)

theorem proved : Rows.HeaderFormsCardSaid :=
  Claim7.holds_tied_plain_at .later [] _ _ _ _ said (fun _ h => by cases h) (by kernel_rfl) (fun _ h => by cases h) headerForms_row_tie rfl ⟨rfl, rfl⟩ (by kernel_rfl) rfl plain (by kernel_rfl)
#print axioms proved
end Go.Proofs.YtphmefhnffoafaaDoor.lawHeaderForms

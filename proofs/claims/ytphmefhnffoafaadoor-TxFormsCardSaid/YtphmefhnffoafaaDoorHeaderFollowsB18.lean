/- The contract of header.Next. Printed by mknext.py. -/
import Derived.Test.YtphmefhnffoafaaDoorHeaderFollowsB17
set_option linter.unusedSimpArgs false
/- The contract of header.Next. Printed by mknext.py. -/
namespace Go.Proofs.YtphmefhnffoafaaDoor
open Go.RowKit Go.Shelf
set_option linter.unusedVariables false
set_option maxRecDepth 100000 in
set_option maxHeartbeats 40000000 in
theorem next_any (p : Hdr) (first : Bool) (A : Option Addr) (n c : Nat) (ls : List (List UInt8)) (s ep : Int) (w : World) (hp : p.ok) (hl : LS w A n c ls) (hn : n = ls.length) (hnm : n ≤ 1000000) (hlm : ∀ l ∈ ls, l.length ≤ 1000000) (hs : I64 s) (hep : I64 ep) (ht : Tabs w) :
    Calls Tryd.prog 19 #[.agg (hdrV p).toArray, .bool first, .slice A n c, .int .i64 s, .int .i64 ep] w fun e w' => e = .returned (.tuple #[.agg (hdrV (nextB p first ls s ep)).toArray, .bool (nextOK p first ls s ep)]) ∧ Below w.heap.size w w' := by
  have HPO := Lib.hid hp; have HS := Lib.hid hl; have HT := Lib.hid ht; have HTW := Lib.hid ht; have HLM := Lib.hid hlm; have HNN := Lib.hid hn; have HSI := Lib.hid hs; have HEI := Lib.hid hep
  obtain ⟨rs, hrs⟩ := dig_root ls
  have HRS := Lib.hid hrs
  obtain ⟨zs, hzs⟩ : ∃ zs, Dig zs (hidB p) := ⟨(hidB p).map B, rfl, hidB_len p⟩
  have HZ := Lib.hid hzs
  have HRP := Lib.hid (fun w => hright_any p w hp)
  have IP := Lib.hid (hdr_at hp)
  have LP := Lib.hid (hdrV_length hp)
  have LZ := Lib.hid (hdrV_length noHdr_ok)
  have OZ := Lib.hid (hdr_one noHdr)
  have T0 := Lib.hid built_hdrE
  have T4 := Lib.hid (built_hdr4 (s := s) (ep := ep) (rootB_len ls))
  rw [← hrs.1] at T4
  have L4 := Lib.hid (hdrV_length (e := ⟨s, 1, ep, zeroD, rootB ls⟩) ⟨hs, by simp [I64], hep, by simp [zeroD], rootB_len ls⟩)
  have O4 := Lib.hid (hdr_one ⟨s, 1, ep, zeroD, rootB ls⟩)
  obtain ⟨h4, hh4⟩ : ∃ v, v = hdrV ⟨s, 1, ep, zeroD, rootB ls⟩ := ⟨_, rfl⟩
  have E4 := Lib.hid hh4
  rw [← hh4] at T4 L4 O4
  obtain ⟨nz, hnz⟩ : ∃ v, v = hdrV noHdr := ⟨_, rfl⟩
  have HNZ := Lib.hid hnz.symm
  rw [← hnz] at LZ OZ T0
  have Z2 := Lib.hid zero_hdr2
  rw [← hnz] at Z2
  obtain ⟨rp, hrp⟩ : ∃ r, r = rightH p := ⟨_, rfl⟩
  have HRPE := Lib.hid hrp.symm
  rw [← hrp] at HRP
  obtain ⟨pv, hpv⟩ : ∃ v, v = hdrV p := ⟨_, rfl⟩
  have HPV := Lib.hid hpv
  have HID := Lib.hid (fun w ht => hid_any p hzs w hp ht)
  rw [← hpv] at HRP IP LP HID ⊢
  clear hrs hzs hh4 hnz hrp hpv hl ht hlm hp hn hs hep
  have HB := Lib.hid (Below.refl w.heap.size w)
  obtain ⟨gp, hgp⟩ : ∃ g, g = w.heap.size := ⟨_, rfl⟩
  have HGP := Lib.hid hgp
  go_enter Tryd.func19, Tryd.ntmps19
  go_wp2_with (first | (with_reducible refine wpl_box (o := ⟨some 5, _, _, _, _, _⟩) rfl rfl rfl ?_))
  intro w1 hb1 hbw1 hsz1
  rw [← hgp] at hb1 hbw1 hsz1 ⊢
  clear hgp
  obtain ⟨gr, hgr⟩ : ∃ g, g = gp + 1 := ⟨_, rfl⟩
  have HGR := Lib.hid hgr
  go_wp2_with (first | (with_reducible refine wpl_alloc (o := ⟨some 10, _, _, _, _, _⟩) rfl rfl Z2.out ?_))
  intro w_ hb2 hbw2 hsz2
  have HPB := Lib.hid (hb1.below hbw2 (by omega))
  have HV := Lib.hid (show Blk w_ gr 25 nz by rw [HGR.out]; first | exact hb2 | (rw [hsz1] at hb2; exact hb2))
  have HB_ := Lib.hid (show Grow w w_ by rw [HGP.out] at hbw1; exact Below.trans hbw1 (hbw2.mono (by have := HGP.out; omega)))
  have HT_ := Lib.hid (HT.out.grow HB_.out)
  have HS_ := Lib.hid (HS.out.grow HB_.out)
  have HGV := Lib.hid (show w.heap.size ≤ gr by have := HGP.out; have := HGR.out; omega)
  try rw [← hgr]
  clear hb1 hb2 hbw1 hbw2 hsz1 hsz2 HB HT HS hgr
  have HB := HB_; have HT := HT_; have HS := HS_
  clear HB_ HT_ HS_
  try clear w1
  by_cases h3 : n = 3
  · subst h3
    cases first with
    | true =>
      go_wp2_with fail
      refine (ls_root_any HS.out HRS.out (by omega) HLM.out HT.out).mono ?_
      rintro e w2_ ⟨rfl, hb_⟩
      have HPB_ := Lib.hid (HPB.out.grow hb_)
      have HV_ := Lib.hid (HV.out.grow hb_)
      have HT_ := Lib.hid (HT.out.grow hb_)
      have HB_ := Lib.hid (HB.out.grow' hb_)
      clear HB HPB HV HT
      have HPB := HPB_
      have HV := HV_
      have HT := HT_
      have HB := HB_
      clear HB_ HPB_ HV_ HT_
      clear hb_
      try clear w_
      rename World => w_
      try clear HS
      go_wp2_with (first | (refine wpl_build (o := ⟨some 36, _, _, _, _, _⟩) rfl rfl T4.out ?_) | (with_reducible refine wpl_alloc (o := ⟨some 12, _, _, _, _, _⟩) rfl rfl Z2.out ?_))
      intro w2_ hb2 hb_ hs2
      obtain ⟨gv, hgv⟩ : ∃ g, g = w_.heap.size := ⟨_, rfl⟩
      rw [← hgv] at hb2 hs2 ⊢
      have HX := Lib.hid hb2
      have HGX := Lib.hid (show gv ≠ gp ∧ gv ≠ gr ∧ w.heap.size ≤ gv by have h1 := HPB.out.lt; have h2 := HV.out.lt; have h3 := HB.out.size; omega)
      clear hb2 hs2 hgv
      have HPB_ := Lib.hid (HPB.out.grow hb_)
      have HV_ := Lib.hid (HV.out.grow hb_)
      have HT_ := Lib.hid (HT.out.grow hb_)
      have HB_ := Lib.hid (HB.out.grow' hb_)
      clear HB HPB HV HT
      have HPB := HPB_
      have HV := HV_
      have HT := HT_
      have HB := HB_
      clear HB_ HPB_ HV_ HT_
      clear hb_
      try clear w_
      rename World => w_
      go_wp2_with (first | (with_reducible refine wpl_storeb (o := ⟨none, .store _ _ _, _, _, _, _⟩) rfl rfl row_header HX.out rfl rfl LZ.out L4.out O4.out ?_))
      intro w2_ hb2 hg2 hs2
      have HX_ := Lib.hid hb2
      have HPB_ := Lib.hid (HPB.out.grown hg2 (by simpa using HGX.out.1.symm))
      have HV_ := Lib.hid (HV.out.grown hg2 (by simpa using HGX.out.2.1.symm))
      have HB_ := Lib.hid (put_below HB.out HGX.out.2.2 hg2)
      have HT_ := Lib.hid (HTW.out.grow HB_.out)
      clear hb2 hg2 hs2 HX HPB HV HB HT
      have HX := HX_; have HPB := HPB_; have HV := HV_; have HB := HB_; have HT := HT_
      clear HX_ HPB_ HV_ HB_ HT_
      try clear w_
      rename World => w_
      have HNV := Lib.hid (show h4 = hdrV (nextH p true ls s ep) from E4.out)
      rw [HNV.out] at HX
      have HNO_ := Lib.hid (show (nextH p true ls s ep).ok from ⟨HSI.out, by simp [I64, nextH], HEI.out, by simp [nextH, zeroD], rootB_len ls⟩)
      have HOKE := Lib.hid (show nextOK p true ls s ep = rightH (nextH p true ls s ep) by unfold nextOK; rw [← HNN.out]; simp)
      have LN := Lib.hid (hdrV_length HNO_.out)
      have ON := Lib.hid (hdr_one (nextH p true ls s ep))
      have HRN := Lib.hid (fun w => hright_any (nextH p true ls s ep) w HNO_.out)
      rw [← HOKE.out] at HRN
      obtain ⟨ok, hok⟩ : ∃ o, o = nextOK p true ls s ep := ⟨_, rfl⟩
      have HK := Lib.hid hok.symm
      rw [← hok] at HRN
      clear hok
      obtain ⟨hv, hhv⟩ : ∃ v, v = hdrV (nextH p true ls s ep) := ⟨_, rfl⟩
      have EHV := Lib.hid hhv
      rw [← hhv] at HX LN ON HRN
      clear hhv
      go_wp2_with (first | (with_reducible refine wpl_loadb (o := ⟨some 49, _, _, _, _, _⟩) rfl rfl row_header HX.out rfl LN.out ?_))
      refine (HRN.out _).mono ?_
      rintro e w2_ ⟨rfl, hb_⟩
      try clear HT
      have HPB_ := Lib.hid (HPB.out.grow hb_)
      have HV_ := Lib.hid (HV.out.grow hb_)
      have HX_ := Lib.hid (HX.out.grow hb_)
      have HB_ := Lib.hid (HB.out.grow' hb_)
      clear HB HPB HV HX
      have HPB := HPB_
      have HV := HV_
      have HX := HX_
      have HB := HB_
      clear HB_ HPB_ HV_ HX_
      clear hb_
      try clear w_
      rename World => w_
      cases ok with
      | false =>
        have HNO := HK
        go_wp2_with (first | (refine wpl_build (o := ⟨some 52, _, _, _, _, _⟩) rfl rfl T0.out ?_) | (with_reducible refine wpl_storeb (o := ⟨none, .store _ _ _, _, _, _, _⟩) rfl rfl row_header HV.out rfl rfl LZ.out LZ.out OZ.out ?_))
        intro w9 hb9 hg9 hs9
        have HB9 := Lib.hid hb9
        have HBB := Lib.hid (put_below HB.out HGV.out hg9)
        clear hb9 hg9 hs9
        go_wp2_with fail
        refine ret_cell_tmp rfl row_header HB9.out rfl LZ.out rfl rfl ?_
        exact ⟨by rw [nextB_no HNO.out, HNO.out, HNZ.out]; try rfl, HBB.out⟩
      | true =>
        go_wp2_with (first | (with_reducible refine wpl_loadb (o := ⟨some 53, _, _, _, _, _⟩) rfl rfl row_header HX.out rfl LN.out ?_) | (with_reducible refine wpl_storeb (o := ⟨none, .store _ _ _, _, _, _, _⟩) rfl rfl row_header HV.out rfl rfl LZ.out LN.out ON.out ?_))
        intro w9 hb9 hg9 hs9
        have HB9 := Lib.hid hb9
        have HBB := Lib.hid (put_below HB.out HGV.out hg9)
        clear hb9 hg9 hs9
        go_wp2_with fail
        refine ret_cell_tmp rfl row_header HB9.out rfl LN.out rfl rfl ?_
        exact ⟨by rw [nextB_yes HK.out, HK.out, EHV.out]; try rfl, HBB.out⟩
    | false =>
      go_wp2_with (first | (with_reducible refine wpl_loadw (o := ⟨some 20, _, _, _, _, _⟩) (by first | rfl | (go_simp; done) | fail) rfl row_header HPB.out rfl LP.out ?_))
      refine (HRP.out _).mono ?_
      rintro e w2_ ⟨rfl, hb_⟩
      have HPB_ := Lib.hid (HPB.out.grow hb_)
      have HV_ := Lib.hid (HV.out.grow hb_)
      have HT_ := Lib.hid (HT.out.grow hb_)
      have HS_ := Lib.hid (HS.out.grow hb_)
      have HB_ := Lib.hid (HB.out.grow' hb_)
      clear HB HPB HV HT HS
      have HPB := HPB_
      have HV := HV_
      have HT := HT_
      have HS := HS_
      have HB := HB_
      clear HB_ HPB_ HV_ HT_ HS_
      clear hb_
      try clear w_
      rename World => w_
      cases rp with
      | false =>
        have HNO := Lib.hid (show nextOK p false ls s ep = false by unfold nextOK; rw [HRPE.out]; simp)
        go_wp2_with (first | (refine wpl_build (o := ⟨some 31, _, _, _, _, _⟩) rfl rfl T0.out ?_) | (with_reducible refine wpl_storeb (o := ⟨none, .store _ _ _, _, _, _, _⟩) rfl rfl row_header HV.out rfl rfl LZ.out LZ.out OZ.out ?_))
        intro w9 hb9 hg9 hs9
        have HB9 := Lib.hid hb9
        have HBB := Lib.hid (put_below HB.out HGV.out hg9)
        clear hb9 hg9 hs9
        go_wp2_with fail
        refine ret_cell_tmp rfl row_header HB9.out rfl LZ.out rfl rfl ?_
        exact ⟨by rw [nextB_no HNO.out, HNO.out, HNZ.out]; try rfl, HBB.out⟩
      | true =>
        have c2 := HPB.out.at_ IP.out.2.2
        have hrb := rightH_iff.1 HRPE.out
        have v1 : IntKind.i64.wrap (p.height + 1) = p.height + 1 := IntWalk.i64_in _ (by omega)
        have v2 : RowKit.wrap64 (p.height + 1) = p.height + 1 := wrap64_in _ (by omega)
        by_cases he : ep < p.epoch
        · have d1 : decide (ep < p.epoch) = true := by simpa using he
          have HNO := Lib.hid (show nextOK p false ls s ep = false by unfold nextOK; rw [show decide (p.epoch ≤ ep) = false by simp; omega]; simp)
          go_wp2_with (first | (refine wpl_build (o := ⟨some 31, _, _, _, _, _⟩) rfl rfl T0.out ?_) | (with_reducible refine wpl_storeb (o := ⟨none, .store _ _ _, _, _, _, _⟩) rfl rfl row_header HV.out rfl rfl LZ.out LZ.out OZ.out ?_))
          intro w9 hb9 hg9 hs9
          have HB9 := Lib.hid hb9
          have HBB := Lib.hid (put_below HB.out HGV.out hg9)
          clear hb9 hg9 hs9
          go_wp2_with fail
          refine ret_cell_tmp rfl row_header HB9.out rfl LZ.out rfl rfl ?_
          exact ⟨by rw [nextB_no HNO.out, HNO.out, HNZ.out]; try rfl, HBB.out⟩
        · have d1 : decide (ep < p.epoch) = false := by simpa using he
          have hrb2 := HRPE.out
          go_wp2_with fail
          refine (ls_root_any HS.out HRS.out (by omega) HLM.out HT.out).mono ?_
          rintro e w2_ ⟨rfl, hb_⟩
          have HPB_ := Lib.hid (HPB.out.grow hb_)
          have HV_ := Lib.hid (HV.out.grow hb_)
          have HT_ := Lib.hid (HT.out.grow hb_)
          have HB_ := Lib.hid (HB.out.grow' hb_)
          clear HB HPB HV HT
          have HPB := HPB_
          have HV := HV_
          have HT := HT_
          have HB := HB_
          clear HB_ HPB_ HV_ HT_
          clear hb_
          try clear w_
          rename World => w_
          try clear HS
          go_wp2_with (first | (refine wpl_build (o := ⟨some 36, _, _, _, _, _⟩) rfl rfl T4.out ?_) | (with_reducible refine wpl_alloc (o := ⟨some 12, _, _, _, _, _⟩) rfl rfl Z2.out ?_))
          intro w2_ hb2 hb_ hs2
          obtain ⟨gv, hgv⟩ : ∃ g, g = w_.heap.size := ⟨_, rfl⟩
          rw [← hgv] at hb2 hs2 ⊢
          have HX := Lib.hid hb2
          have HGX := Lib.hid (show gv ≠ gp ∧ gv ≠ gr ∧ w.heap.size ≤ gv by have h1 := HPB.out.lt; have h2 := HV.out.lt; have h3 := HB.out.size; omega)
          clear hb2 hs2 hgv
          have HPB_ := Lib.hid (HPB.out.grow hb_)
          have HV_ := Lib.hid (HV.out.grow hb_)
          have HT_ := Lib.hid (HT.out.grow hb_)
          have HB_ := Lib.hid (HB.out.grow' hb_)
          clear HB HPB HV HT
          have HPB := HPB_
          have HV := HV_
          have HT := HT_
          have HB := HB_
          clear HB_ HPB_ HV_ HT_
          clear hb_
          try clear w_
          rename World => w_
          go_wp2_with (first | (with_reducible refine wpl_storeb (o := ⟨none, .store _ _ _, _, _, _, _⟩) rfl rfl row_header HX.out rfl rfl LZ.out L4.out O4.out ?_))
          intro w2_ hb2 hg2 hs2
          have HX_ := Lib.hid hb2
          have HPB_ := Lib.hid (HPB.out.grown hg2 (by simpa using HGX.out.1.symm))
          have HV_ := Lib.hid (HV.out.grown hg2 (by simpa using HGX.out.2.1.symm))
          have HB_ := Lib.hid (put_below HB.out HGX.out.2.2 hg2)
          have HT_ := Lib.hid (HTW.out.grow HB_.out)
          clear hb2 hg2 hs2 HX HPB HV HB HT
          have HX := HX_; have HPB := HPB_; have HV := HV_; have HB := HB_; have HT := HT_
          clear HX_ HPB_ HV_ HB_ HT_
          try clear w_
          rename World => w_
          repeat' (first | (with_reducible refine wp_plan (id := 5) (Kp2 gp gp) [0, 1, 0, 1, 0, 2, 4, 0, 4, 0, 3, 0, 3] (.get 0 (.get 1 (.get 2 (.get 3 (.get 4 (.get 5 (.get 7 (.act 6 (.act 8 (.get 9 (.act 10 (.get 11 (.act 12 .done))))))))))))) (by kernel_rfl) (by kernel_rfl) (kp2_refl gp gp) kp2_trans ?_) | go_values | go_skip | go_guarded | go_step | go_upon | go_back)
          intro w2_ hd_
          have hb_ := hd_.grow
          clear hd_
          have HPB_ := Lib.hid (HPB.out.grow hb_)
          have HV_ := Lib.hid (HV.out.grow hb_)
          have HX_ := Lib.hid (HX.out.grow hb_)
          have HT_ := Lib.hid (HT.out.grow hb_)
          have HB_ := Lib.hid (HB.out.grow' hb_)
          clear HB HPB HV HX HT
          have HPB := HPB_
          have HV := HV_
          have HX := HX_
          have HT := HT_
          have HB := HB_
          clear HB_ HPB_ HV_ HX_ HT_
          clear hb_
          try clear w_
          rename World => w_
          have HC0 := Lib.hid (HPB.out.at_ IP.out.1)
          have HC1 := Lib.hid (HPB.out.at_ IP.out.2.1)
          repeat (first | (refine pl_loadbnow rfl rfl (by first | exact wanted_none rfl | (go_simp; done) | rfl) rfl row_header HPB.out (by first | rfl | (go_simp; done) | rfl) LP.out (fun K hK => ?_); go_simp; refine hK _ _ ?_; clear hK K) | (refine pl_loadF rfl rfl (by first | exact wanted_none rfl | (go_simp; done) | rfl) rfl (by first | rfl | (go_simp; rfl)) (by kernel_rfl) HC0.out (fun w2_ h => h.1) (fun K hK => ?_); go_simp; refine hK _ _ ?_; clear hK K) | (refine pl_loadF rfl rfl (by first | exact wanted_none rfl | (go_simp; done) | rfl) rfl (by first | rfl | (go_simp; rfl)) (by kernel_rfl) HC1.out (fun w2_ h => h.1) (fun K hK => ?_); go_simp; refine hK _ _ ?_; clear hK K) | (refine pl_calm rfl rfl (by first | exact wanted_none rfl | (go_simp; done) | rfl) (fun w_ => by first | (go_simp; rfl) | (go_simp; done) | rfl) (fun K hK => ?_); go_simp; refine hK _ _ ?_; clear hK K))
          refine pl_act rfl (by exact wanted_none rfl) (fun K hK => ?_)
          go_wp2_with fail
          refine (HID.out _ HT.out).mono ?_
          rintro e w2_ ⟨rfl, hb_⟩
          go_wp2_with fail
          refine hK _ _ (fun _ => ⟨hb_.block gp HPB.out.lt, hb_.block gp HPB.out.lt⟩) ?_
          clear hK K HC0 HC1
          have HPB_ := Lib.hid (HPB.out.grow hb_)
          have HV_ := Lib.hid (HV.out.grow hb_)
          have HX_ := Lib.hid (HX.out.grow hb_)
          have HT_ := Lib.hid (HT.out.grow hb_)
          have HB_ := Lib.hid (HB.out.grow' hb_)
          clear HB HPB HV HX HT
          have HPB := HPB_
          have HV := HV_
          have HX := HX_
          have HT := HT_
          have HB := HB_
          clear HB_ HPB_ HV_ HX_ HT_
          clear hb_
          try clear w_
          rename World => w_
          refine pl_act rfl (by exact wanted_none rfl) (fun K hK => ?_)
          have k0 := HX.out.at_ (show h4[0]? = some (.int .i64 s) by rw [E4.out]; rfl)
          have f0 := HX.out.frozen 0
          have HX1 := Lib.hid (HX.out.set_ 0 (.int .i64 p.shard))
          have HP1 := Lib.hid (HPB.out.far (p := ⟨gv, 0, none⟩) HGX.out.1.symm (.int .i64 p.shard))
          have HV1 := Lib.hid (HV.out.far (p := ⟨gv, 0, none⟩) HGX.out.2.1.symm (.int .i64 p.shard))
          have HB1 := Lib.hid (show Grow w (w_.setCell ⟨gv, 0, none⟩ (.int .i64 p.shard)) from Below.setCell HB.out HGX.out.2.2 _)
          go_wp2_with fail
          refine hK _ _ (fun _ => ⟨Below.heap_setCell w_ ⟨gv, 0, none⟩ _ gp HGX.out.1.symm, Below.heap_setCell w_ ⟨gv, 0, none⟩ _ gp HGX.out.1.symm⟩) ?_
          clear hK K k0 f0 HX HPB HV HB HT
          generalize w_.setCell ⟨gv, 0, none⟩ (.int .i64 p.shard) = w3_ at HX1 HP1 HV1 HB1 ⊢
          try clear w_
          rename World => w_
          repeat (first | (refine pl_calm rfl rfl (by first | exact wanted_none rfl | (go_simp; done) | rfl) (fun w_ => by first | (go_simp; rfl) | (go_simp; done) | rfl) (fun K hK => ?_); go_simp; refine hK _ _ ?_; clear hK K))
          refine pl_act rfl (by exact wanted_none rfl) (fun K hK => ?_)
          have k1 := HX1.out.at_ (i := 1) (v := .int .i64 1) (by rw [E4.out]; rfl)
          have f1 := HX1.out.frozen 1
          have HX := Lib.hid (HX1.out.set_ 1 (.int .i64 (p.height + 1)))
          have HPB := Lib.hid (HP1.out.far (p := ⟨gv, 1, none⟩) HGX.out.1.symm (.int .i64 (p.height + 1)))
          have HV := Lib.hid (HV1.out.far (p := ⟨gv, 1, none⟩) HGX.out.2.1.symm (.int .i64 (p.height + 1)))
          have HB := Lib.hid (show Grow w (w_.setCell ⟨gv, 1, none⟩ (.int .i64 (p.height + 1))) from Below.setCell HB1.out HGX.out.2.2 _)
          go_wp2_with fail
          refine hK _ _ (fun h => by cases h) ?_
          clear hK K k1 f1 HX1 HP1 HV1 HB1
          generalize w_.setCell ⟨gv, 1, none⟩ (.int .i64 (p.height + 1)) = w3_ at HX HPB HV HB ⊢
          try clear w_
          rename World => w_
          repeat (first | (refine pl_calm rfl rfl (by first | exact wanted_none rfl | (go_simp; done) | rfl) (fun w_ => by first | (go_simp; rfl) | (go_simp; done) | rfl) (fun K hK => ?_); go_simp; refine hK _ _ ?_; clear hK K))
          refine pl_act rfl (by exact wanted_none rfl) (fun K hK => ?_)
          refine wpl_storem rfl rfl row_id HX.out rfl rfl HZ.out.len (by simp only [List.length_set]; rw [L4.out]; omega) HZ.out.one ?_
          intro w2_ hb2 hg2 hs2
          go_wp2_with fail
          refine hK _ _ (fun h => by cases h) ?_
          clear hK K
          refine pl_done ?_
          have HX_ := Lib.hid hb2
          have HPB_ := Lib.hid (HPB.out.grown hg2 (by simpa using HGX.out.1.symm))
          have HV_ := Lib.hid (HV.out.grown hg2 (by simpa using HGX.out.2.1.symm))
          have HB_ := Lib.hid (put_below HB.out HGX.out.2.2 hg2)
          clear hb2 hg2 hs2 HX HPB HV HB
          have HX := HX_; have HPB := HPB_; have HV := HV_; have HB := HB_
          clear HX_ HPB_ HV_ HB_
          try clear w_
          rename World => w_
          rw [E4.out, HZ.out.1, hdr_next (by simp [zeroD]) (hidB_len p)] at HX
          have HX_ := Lib.hid (show Blk w_ gv 25 (hdrV (nextH p false ls s ep)) from HX.out)
          clear HX
          have HX := HX_
          clear HX_
          have HNO_ := Lib.hid (show (nextH p false ls s ep).ok from ⟨HPO.out.1, by show I64 (p.height + 1); unfold I64; omega, HEI.out, hidB_len p, rootB_len ls⟩)
          have HOKE := Lib.hid (show nextOK p false ls s ep = rightH (nextH p false ls s ep) by unfold nextOK; rw [← HNN.out, HRPE.out]; simp; omega)
          have LN := Lib.hid (hdrV_length HNO_.out)
          have ON := Lib.hid (hdr_one (nextH p false ls s ep))
          have HRN := Lib.hid (fun w => hright_any (nextH p false ls s ep) w HNO_.out)
          rw [← HOKE.out] at HRN
          obtain ⟨ok, hok⟩ : ∃ o, o = nextOK p false ls s ep := ⟨_, rfl⟩
          have HK := Lib.hid hok.symm
          rw [← hok] at HRN
          clear hok
          obtain ⟨hv, hhv⟩ : ∃ v, v = hdrV (nextH p false ls s ep) := ⟨_, rfl⟩
          have EHV := Lib.hid hhv
          rw [← hhv] at HX LN ON HRN
          clear hhv
          go_wp2_with (first | (with_reducible refine wpl_loadb (o := ⟨some 49, _, _, _, _, _⟩) rfl rfl row_header HX.out rfl LN.out ?_))
          refine (HRN.out _).mono ?_
          rintro e w2_ ⟨rfl, hb_⟩
          try clear HT
          have HPB_ := Lib.hid (HPB.out.grow hb_)
          have HV_ := Lib.hid (HV.out.grow hb_)
          have HX_ := Lib.hid (HX.out.grow hb_)
          have HB_ := Lib.hid (HB.out.grow' hb_)
          clear HB HPB HV HX
          have HPB := HPB_
          have HV := HV_
          have HX := HX_
          have HB := HB_
          clear HB_ HPB_ HV_ HX_
          clear hb_
          try clear w_
          rename World => w_
          cases ok with
          | false =>
            have HNO := HK
            go_wp2_with (first | (refine wpl_build (o := ⟨some 52, _, _, _, _, _⟩) rfl rfl T0.out ?_) | (with_reducible refine wpl_storeb (o := ⟨none, .store _ _ _, _, _, _, _⟩) rfl rfl row_header HV.out rfl rfl LZ.out LZ.out OZ.out ?_))
            intro w9 hb9 hg9 hs9
            have HB9 := Lib.hid hb9
            have HBB := Lib.hid (put_below HB.out HGV.out hg9)
            clear hb9 hg9 hs9
            go_wp2_with fail
            refine ret_cell_tmp rfl row_header HB9.out rfl LZ.out rfl rfl ?_
            exact ⟨by rw [nextB_no HNO.out, HNO.out, HNZ.out]; try rfl, HBB.out⟩
          | true =>
            go_wp2_with (first | (with_reducible refine wpl_loadb (o := ⟨some 53, _, _, _, _, _⟩) rfl rfl row_header HX.out rfl LN.out ?_) | (with_reducible refine wpl_storeb (o := ⟨none, .store _ _ _, _, _, _, _⟩) rfl rfl row_header HV.out rfl rfl LZ.out LN.out ON.out ?_))
            intro w9 hb9 hg9 hs9
            have HB9 := Lib.hid hb9
            have HBB := Lib.hid (put_below HB.out HGV.out hg9)
            clear hb9 hg9 hs9
            go_wp2_with fail
            refine ret_cell_tmp rfl row_header HB9.out rfl LN.out rfl rfl ?_
            exact ⟨by rw [nextB_yes HK.out, HK.out, EHV.out]; try rfl, HBB.out⟩
  · have d3 : ((n : Int) != 3) = true := by rw [bne_iff_ne]; omega
    have HNO := Lib.hid (show nextOK p first ls s ep = false by unfold nextOK; rw [show decide (ls.length = 3) = false by have := HNN.out; simp; omega]; simp)
    go_wp2_with (first | (refine wpl_build (o := ⟨some 31, _, _, _, _, _⟩) rfl rfl T0.out ?_) | (with_reducible refine wpl_storeb (o := ⟨none, .store _ _ _, _, _, _, _⟩) rfl rfl row_header HV.out rfl rfl LZ.out LZ.out OZ.out ?_))
    intro w9 hb9 hg9 hs9
    have HB9 := Lib.hid hb9
    have HBB := Lib.hid (put_below HB.out HGV.out hg9)
    clear hb9 hg9 hs9
    go_wp2_with fail
    refine ret_cell_tmp rfl row_header HB9.out rfl LZ.out rfl rfl ?_
    exact ⟨by rw [nextB_no HNO.out, HNO.out, HNZ.out]; try rfl, HBB.out⟩
end Go.Proofs.YtphmefhnffoafaaDoor

/- The document's example of seisinlaw10. -/
namespace Go.Proofs.YtphmefhnffoafaaDoor
open Go.RowKit Go.Shelf
set_option linter.unusedVariables false
section
variable {P : Program} {ops : Array Oper} {rest : List Oper} {o : Oper} {a : Act} {w : World} {Q : Exit → Act → World → Prop}
theorem wpl_loadmw {T : TypeId} {x : Operand} {n b off : Nat} {cs : List Value} (hw : Region.wanted o (yielded ops a.tmps) = true) (ho : o.op = .load T x) (hT : RowT P T n) (hc : ∀ j u, cs[j]? = some u → w.cell? ⟨b, off + j, none⟩ = some u) (hx : a.eval x = .pointer (some ⟨b, off, none⟩)) (hn : cs.length = n)
    (h : wpList P ops Q rest (a.put o.dst (.agg cs.toArray)) w) : wpList P ops Q (o :: rest) a w := by
  refine wpl_wanted hw fun K hK => ?_
  obtain ⟨d, hu, hd, hi⟩ := hT
  have hrun := run_loadVar_mid (P := P) w b off T cs d hc hu (by cases d <;> simp_all) (by rw [hi, hn])
  unfold Oper.wp execOp
  simp only [ho, hx, Instr.loadAt, Instr.sureAddr, Sem.run_bind, Sem.run_pure, Result.andThen_ok, hrun]
  exact hK _ _ h
theorem wpl_buildw (hw : Region.wanted o (yielded ops a.tmps) = true) {t : TypeId} {parts : Array (Nat × Operand)} (ho : o.op = .build t parts) {cells : List Value} (h : P.built t (parts.toList.map fun (i, x) => (i, a.eval x)) = some cells.toArray)
    (hk : wpList P ops Q rest (a.put o.dst (.agg cells.toArray)) w) : wpList P ops Q (o :: rest) a w := by
  refine wpl_wanted hw fun K hK => ?_
  unfold Oper.wp
  rw [exec_build ho h w]
  exact hK _ _ hk
end
def doneE : Ent := ⟨3, 0, zeroD, 0, 0, 0⟩
theorem doneE_ok : doneE.ok := by simp [doneE, Ent.ok, I64, U64, zeroD]
theorem bt_done : Tryd.prog.built 29 [(0, .int .i64 3)] = some (entV doneE).toArray := by kernel_rfl
theorem okL_done : okL doneE 5 = true := by decide
set_option maxRecDepth 100000 in
set_option maxHeartbeats 4000000 in
theorem awake10_any (w : World) (ht : Tabs w) : Calls Tryd.prog 15 #[] w fun e w' => e = .returned (.bool true) ∧ Below w.heap.size w w' := by
  have HT := Lib.hid ht
  have BE := Lib.hid bt_done
  have B0 := Lib.hid built_hdrE
  have I0 := Lib.hid built_id0
  have LE := Lib.hid (fun A n c w hs hc hn => leaves_any A n c [1] doneE 5 w hs hc hn doneE_ok (show U64 5 by simp [U64]))
  rw [okL_done] at LE
  obtain ⟨ls, hls⟩ : ∃ ls, ls = leavesB [1] doneE 5 := ⟨_, rfl⟩
  have HL3 := Lib.hid (show ls.length = 3 by rw [hls, leavesB_yes okL_done]; rfl)
  have HLM := Lib.hid (show ∀ l ∈ ls, l.length ≤ 1000000 by
    intro l hl
    rw [hls, leavesB_yes okL_done] at hl
    have h1 := putEB_len doneE_ok (by decide)
    have h2 := numB_le (n := 5) (by omega)
    simp only [List.mem_cons, List.not_mem_nil, or_false] at hl
    rcases hl with rfl | rfl | rfl
    · simp
    · omega
    · show (numB 5).length ≤ _; omega)
  rw [← hls] at LE
  clear hls
  have HOK := Lib.hid (show nextOK noHdr true ls 2 0 = true by unfold nextOK nextH; rw [HL3.out]; rfl)
  have NX := Lib.hid (fun A c w hl ht => next_any noHdr true A 3 c ls 2 0 w noHdr_ok hl HL3.out.symm (by omega) HLM.out (show I64 2 by simp [I64]) (show I64 0 by simp [I64]) ht)
  have HNB := nextB_yes HOK.out
  rw [HNB, HOK.out] at NX
  clear HNB
  have HNO := Lib.hid (show (nextH noHdr true ls 2 0).ok from ⟨by simp [I64, nextH], by simp [I64, nextH], by simp [I64, nextH], by simp [nextH, zeroD], rootB_len ls⟩)
  have HRN := Lib.hid (fun w => hright_any (nextH noHdr true ls 2 0) w HNO.out)
  have hrt : rightH (nextH noHdr true ls 2 0) = true := by unfold nextH; rfl
  rw [hrt] at HRN
  clear hrt
  have LN := Lib.hid (hdrV_length HNO.out)
  have ON := Lib.hid (hdr_one (nextH noHdr true ls 2 0))
  have LZ := Lib.hid (hdrV_length noHdr_ok)
  have IN := Lib.hid (show (hdrV (nextH noHdr true ls 2 0))[0]? = some (.int .i64 2) ∧ (hdrV (nextH noHdr true ls 2 0))[1]? = some (.int .i64 1) from ⟨rfl, rfl⟩)
  have MN := Lib.hid (fun (w : World) (g : Nat) (t : TypeId) (hb : Blk w g t (hdrV (nextH noHdr true ls 2 0))) => midP HNO.out hb)
  have DZ : Dig (zeroD.map B) zeroD := ⟨rfl, by simp [zeroD]⟩
  have qz := DZ.self
  have HDZ := Lib.hid DZ
  clear DZ
  have hpz : (nextH noHdr true ls 2 0).prev = zeroD := rfl
  rw [hpz] at MN
  clear hpz
  obtain ⟨hv, hhv⟩ : ∃ v, v = hdrV (nextH noHdr true ls 2 0) := ⟨_, rfl⟩
  rw [← hhv] at NX HRN LN ON IN MN
  obtain ⟨nz, hnz⟩ : ∃ v, v = hdrV noHdr := ⟨_, rfl⟩
  have Z2 := Lib.hid zero_hdr2
  rw [← hnz] at NX LZ B0 Z2
  obtain ⟨ev, hev⟩ : ∃ v, v = entV doneE := ⟨_, rfl⟩
  rw [← hev] at BE LE
  obtain ⟨zd, hzd⟩ : ∃ v, v = zeroD.map B := ⟨_, rfl⟩
  rw [← hzd] at I0 qz MN HDZ
  clear hhv hnz hev hzd ht
  have HB := Lib.hid (Below.refl w.heap.size w)
  go_enter Tryd.func15, Tryd.ntmps15
  go_wp2_with (first | (refine wpl_build (o := ⟨some 7, _, _, _, _, _⟩) rfl rfl BE.out ?_))
  generalize hw1 : World.alloc w _ = w1
  obtain ⟨hX, hb, hs⟩ := alloc_eq hw1
  have HX1 := Lib.hid (show Sl w1 w1.heap.size 1 (some ⟨w.heap.size, 0, none⟩) 1 (([1] : List UInt8).map B) from Blk.sl (sz := 1) (n := 1) hX rfl)
  have HB1 := Lib.hid (HB.out.grow' hb)
  have HT1 := Lib.hid (HT.out.grow hb)
  clear hX hb hs hw1 HB HT
  refine (LE.out _ 1 1 _ HX1.out (Nat.le_refl _) (by omega)).mono ?_
  rintro e w2 ⟨A2, n2, c2, rfl, hl2, hn2, hb_⟩
  rw [HL3.out] at hn2
  subst hn2
  have HL2 := Lib.hid hl2
  have HB2 := Lib.hid (HB1.out.grow' hb_)
  have HT2 := Lib.hid (HT1.out.grow hb_)
  clear hl2 hb_ HX1 HB1 HT1
  go_wp2_with (first | (refine wpl_build (o := ⟨some 12, _, _, _, _, _⟩) rfl rfl B0.out ?_))
  refine (NX.out _ _ _ HL2.out HT2.out).mono ?_
  rintro e w3 ⟨rfl, hb_⟩
  have HB3 := Lib.hid (HB2.out.grow' hb_)
  clear hb_ HL2 HB2 HT2
  go_wp2_with (first | (with_reducible refine wpl_alloc (o := ⟨some 3, _, _, _, _, _⟩) rfl rfl Z2.out ?_))
  intro w4 hb4 hbw4 hs4
  have HV4 := Lib.hid hb4
  have HG4 := Lib.hid HB3.out.size
  have HB4 := Lib.hid (HB3.out.grow' hbw4)
  clear hb4 hbw4 hs4 HB3
  go_wp2_with (first | (with_reducible refine wpl_storeb (o := ⟨none, .store _ _ _, _, _, _, _⟩) rfl rfl row_header HV4.out rfl rfl LZ.out LN.out ON.out ?_))
  intro w5 hb5 hg5 hs5
  have HV5 := Lib.hid hb5
  have HB5 := Lib.hid (put_below HB4.out HG4.out hg5)
  clear hb5 hg5 hs5 HV4 HB4
  have c1 := HV5.out.at_ IN.out.2
  have c0 := HV5.out.at_ IN.out.1
  have HM := Lib.hid (MN.out _ _ _ HV5.out)
  go_wp2_with (first | (with_reducible refine wpl_loadmw (o := ⟨some 33, _, _, _, _, _⟩) (by first | rfl | (go_simp; done) | fail) rfl row_id HM.out rfl HDZ.out.len ?_) | (refine wpl_buildw (o := ⟨some 34, _, _, _, _, _⟩) (by first | rfl | (go_simp; done) | fail) rfl I0.out ?_) | (with_reducible refine wpl_loadw (o := ⟨some 38, _, _, _, _, _⟩) (by first | rfl | (go_simp; done) | fail) rfl row_header HV5.out rfl LN.out ?_))
  refine (HRN.out _).mono ?_
  rintro e w6 ⟨rfl, hb_⟩
  have HB6 := Lib.hid (HB5.out.grow' hb_)
  clear hb_ c1 c0 HV5 HB5
  go_wp2_with fail
  go_ret
  exact ⟨rfl, HB6.out⟩
end Go.Proofs.YtphmefhnffoafaaDoor

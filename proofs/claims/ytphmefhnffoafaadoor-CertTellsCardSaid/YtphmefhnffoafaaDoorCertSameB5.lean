/- Arguments opened: digests, lists of digests. -/
import Derived.Test.YtphmefhnffoafaaDoorHeaderFollowsB7
import Derived.Test.YtphmefhnffoafaaDoorCertSameB4
import Derived.Test.YtphmefhnffoafaaDoorHeaderFollowsB17
import Derived.Test.YtphmefhnffoafaaDoorHeaderFollowsB18
import Derived.Test.YtphmefhnffoafaaDoorHeaderFollowsB1
set_option linter.unusedSimpArgs false
/- Arguments opened: digests, lists of digests. -/
namespace Go.Proofs.YtphmefhnffoafaaDoor
open Go.RowKit Go.ChangeShapes Go.WideShapes
set_option linter.unusedVariables false
set_option maxRecDepth 100000
section
variable {H : Type} {enc : TypeId × Value → H} {w : World} {r : Reach} {b0 base : Nat} {spare : Nat → Bool} {held : Bool}
theorem open_dig {v : Value} {d : DataW H} {ps : List MemPlace} (hval : Value.okWide Tryd.prog w r b0 23 v) (h : DataW.Trod enc Tryd.prog w base spare held 23 v d ps) :
    ∃ ds : List UInt8, v = .agg (ds.map B).toArray ∧ ds.length = 32 :=
  open_arr32 Tryd.underlying23 Tryd.underlying5 (by kernel_rfl) (by kernel_rfl) hval h
theorem open_digs {v : Value} {d : DataW H} {ps : List MemPlace} (hval : Value.okWide Tryd.prog w r b0 72 v) (h : DataW.Trod enc Tryd.prog w base spare held 72 v d ps) :
    ∃ A n c, ∃ l : List (List UInt8), v = .slice A n c ∧ Sl w w.heap.size 32 A n (l.flatMap (·.map B)) ∧ l.length = n ∧ (∀ x ∈ l, x.length = 32) ∧ n ≤ c ∧ c ≤ maxLen := by
  obtain ⟨A, n, c, l, h1, h2, h3, h4, h5, h6, _⟩ := open_list (fun x : List UInt8 => x.map B) (fun x => x.length = 32) Tryd.underlying72 (by kernel_rfl) (show 0 < 32 by omega) (fun fuel cs y _ h => trod_bytes Tryd.underlying23 Tryd.underlying5 (by kernel_rfl) (by kernel_rfl) h) hval h
  exact ⟨A, n, c, l, h1, h5, h2, h6, h3, h4⟩
end
end Go.Proofs.YtphmefhnffoafaaDoor

/- Certificates in memory; arguments opened. Printed by a program. -/
namespace Go.Proofs.YtphmefhnffoafaaDoor
open Go.RowKit Go.ChangeShapes Go.WideShapes
set_option linter.unusedVariables false
set_option maxRecDepth 100000
theorem cells_cert : Tryd.prog.cellsOf 74 = 137 := by kernel_rfl
theorem cells_sid : Tryd.prog.cellsOf 72 = 1 := by kernel_rfl
theorem row_cert : RowT Tryd.prog 74 137 := ⟨_, Tryd.underlying74, by kernel_rfl, by kernel_rfl⟩
section
variable {H : Type} {enc : TypeId × Value → H} {w : World} {r : Reach} {b0 base : Nat} {spare : Nat → Bool} {held : Bool}
theorem trod_hdr {fuel : Nat} {cs : List Value} {y : DataW H × List MemPlace} (hl0 : cs.length = 67) (hf : DataW.trod enc Tryd.prog w base spare held fuel 25 cs = some y) :
    ∃ x : Hdr, cs = hdrV x ∧ x.ok := by
  obtain ⟨xs, n, _, _, hl, hxs, hg⟩ := DataW.trod_struct Tryd.underlying25 hf
  replace hg := fun i f h => hg i f h
  have hxs5 : xs.length = 5 := hxs
  obtain ⟨y0, h0⟩ := got (hg 0 _ rfl) (by omega)
  obtain ⟨y1, h1⟩ := got (hg 1 _ rfl) (by omega)
  obtain ⟨y2, h2⟩ := got (hg 2 _ rfl) (by omega)
  obtain ⟨y3, h3⟩ := got (hg 3 _ rfl) (by omega)
  obtain ⟨y4, h4⟩ := got (hg 4 _ rfl) (by omega)
  replace h0 : DataW.trod enc Tryd.prog w base spare held n 3 ((cs.drop 0).take (Tryd.prog.cellsOf 3)) = some y0 := h0
  replace h1 : DataW.trod enc Tryd.prog w base spare held n 3 ((cs.drop 1).take (Tryd.prog.cellsOf 3)) = some y1 := h1
  replace h2 : DataW.trod enc Tryd.prog w base spare held n 3 ((cs.drop 2).take (Tryd.prog.cellsOf 3)) = some y2 := h2
  replace h3 : DataW.trod enc Tryd.prog w base spare held n 23 ((cs.drop 3).take (Tryd.prog.cellsOf 23)) = some y3 := h3
  replace h4 : DataW.trod enc Tryd.prog w base spare held n 23 ((cs.drop 35).take (Tryd.prog.cellsOf 23)) = some y4 := h4
  rw [cells_int] at h0
  rw [cells_int] at h1
  rw [cells_int] at h2
  rw [cells_id] at h3
  rw [cells_id] at h4
  obtain ⟨z0, e0, _, w0⟩ := DataW.trod_int Tryd.underlying3 h0
  obtain ⟨z1, e1, _, w1⟩ := DataW.trod_int Tryd.underlying3 h1
  obtain ⟨z2, e2, _, w2⟩ := DataW.trod_int Tryd.underlying3 h2
  obtain ⟨d3, e3, l3⟩ := trod_bytes Tryd.underlying23 Tryd.underlying5 cells_u8 cells_id h3
  obtain ⟨d4, e4, l4⟩ := trod_bytes Tryd.underlying23 Tryd.underlying5 cells_u8 cells_id h4
  refine ⟨⟨z0, z1, z2, d3, d4⟩, ?_, i64_of w0, i64_of w1, i64_of w2, l3, l4⟩
  have a5 : cs.drop 67 = [] := List.drop_of_length_le (by omega)
  have a4 := cut_eq e4 a5
  have a3 := cut_eq e3 a4
  have a2 := cut_eq e2 a3
  have a1 := cut_eq e1 a2
  have a0 := cut_eq e0 a1
  rw [List.drop_zero] at a0
  rw [a0]; simp [hdrV]
theorem trod_ent {fuel : Nat} {cs : List Value} {y : DataW H × List MemPlace} (hl0 : cs.length = 37) (hf : DataW.trod enc Tryd.prog w base spare held fuel 29 cs = some y) :
    ∃ x : Ent, cs = entV x ∧ x.ok := by
  obtain ⟨xs, n, _, _, hl, hxs, hg⟩ := DataW.trod_struct Tryd.underlying29 hf
  replace hg := fun i f h => hg i f h
  have hxs5 : xs.length = 6 := hxs
  obtain ⟨y0, h0⟩ := got (hg 0 _ rfl) (by omega)
  obtain ⟨y1, h1⟩ := got (hg 1 _ rfl) (by omega)
  obtain ⟨y2, h2⟩ := got (hg 2 _ rfl) (by omega)
  obtain ⟨y3, h3⟩ := got (hg 3 _ rfl) (by omega)
  obtain ⟨y4, h4⟩ := got (hg 4 _ rfl) (by omega)
  obtain ⟨y5, h5⟩ := got (hg 5 _ rfl) (by omega)
  replace h0 : DataW.trod enc Tryd.prog w base spare held n 3 ((cs.drop 0).take (Tryd.prog.cellsOf 3)) = some y0 := h0
  replace h1 : DataW.trod enc Tryd.prog w base spare held n 3 ((cs.drop 1).take (Tryd.prog.cellsOf 3)) = some y1 := h1
  replace h2 : DataW.trod enc Tryd.prog w base spare held n 23 ((cs.drop 2).take (Tryd.prog.cellsOf 23)) = some y2 := h2
  replace h3 : DataW.trod enc Tryd.prog w base spare held n 27 ((cs.drop 34).take (Tryd.prog.cellsOf 27)) = some y3 := h3
  replace h4 : DataW.trod enc Tryd.prog w base spare held n 3 ((cs.drop 35).take (Tryd.prog.cellsOf 3)) = some y4 := h4
  replace h5 : DataW.trod enc Tryd.prog w base spare held n 3 ((cs.drop 36).take (Tryd.prog.cellsOf 3)) = some y5 := h5
  rw [cells_int] at h0
  rw [cells_int] at h1
  rw [cells_id] at h2
  rw [cells_u64] at h3
  rw [cells_int] at h4
  rw [cells_int] at h5
  obtain ⟨z0, e0, _, w0⟩ := DataW.trod_int Tryd.underlying3 h0
  obtain ⟨z1, e1, _, w1⟩ := DataW.trod_int Tryd.underlying3 h1
  obtain ⟨d2, e2, l2⟩ := trod_bytes Tryd.underlying23 Tryd.underlying5 cells_u8 cells_id h2
  obtain ⟨z3, e3, _, w3⟩ := DataW.trod_int Tryd.underlying27 h3
  obtain ⟨z4, e4, _, w4⟩ := DataW.trod_int Tryd.underlying3 h4
  obtain ⟨z5, e5, _, w5⟩ := DataW.trod_int Tryd.underlying3 h5
  refine ⟨⟨z0, z1, d2, z3, z4, z5⟩, ?_, i64_of w0, i64_of w1, l2, u64_of w3, i64_of w4, i64_of w5⟩
  have a6 : cs.drop 37 = [] := List.drop_of_length_le (by omega)
  have a5 := cut_eq e5 a6
  have a4 := cut_eq e4 a5
  have a3 := cut_eq e3 a4
  have a2 := cut_eq e2 a3
  have a1 := cut_eq e1 a2
  have a0 := cut_eq e0 a1
  rw [List.drop_zero] at a0
  rw [a0]; simp [entV]
theorem open_cert {v : Value} {d : DataW H} {ps : List MemPlace} (hval : Value.okWide Tryd.prog w r b0 74 v) (h : DataW.Trod enc Tryd.prog w base spare held 74 v d ps) :
    ∃ A n c, ∃ x : Cer, v = .agg (certV (.slice A n c) x).toArray ∧ x.ok ∧ Ids w A n c x.path ∧ c ≤ maxLen := by
  obtain ⟨cs, rfl, hsz⟩ := okWide_struct Tryd.underlying74 hval
  obtain ⟨fuel, hf⟩ := h
  rw [cells_cert] at hsz
  have hls : cs.toList.length = 137 := by simpa using hsz
  obtain ⟨xs, n, _, _, hl, hxs, hg⟩ := DataW.trod_struct Tryd.underlying74 hf
  replace hg := fun i f h => hg i f h
  have hxs5 : xs.length = 4 := hxs
  obtain ⟨y0, h0⟩ := got (hg 0 _ rfl) (by omega)
  obtain ⟨y1, h1⟩ := got (hg 1 _ rfl) (by omega)
  obtain ⟨y2, h2⟩ := got (hg 2 _ rfl) (by omega)
  obtain ⟨y3, h3⟩ := got (hg 3 _ rfl) (by omega)
  replace h0 : DataW.trod enc Tryd.prog w base spare held n 29 ((cs.toList.drop 0).take (Tryd.prog.cellsOf 29)) = some y0 := h0
  replace h1 : DataW.trod enc Tryd.prog w base spare held n 72 ((cs.toList.drop 37).take (Tryd.prog.cellsOf 72)) = some y1 := h1
  replace h2 : DataW.trod enc Tryd.prog w base spare held n 25 ((cs.toList.drop 38).take (Tryd.prog.cellsOf 25)) = some y2 := h2
  replace h3 : DataW.trod enc Tryd.prog w base spare held n 23 ((cs.toList.drop 105).take (Tryd.prog.cellsOf 23)) = some y3 := h3
  rw [cells_entry] at h0
  rw [cells_sid] at h1
  rw [cells_header] at h2
  rw [cells_id] at h3
  obtain ⟨xe, e0, k0⟩ := trod_ent (by rw [List.length_take, List.length_drop]; omega) h0
  obtain ⟨A, m, c, l, e1, l1, m1, x1, s1, k1, _⟩ := open_list0 (fun x : List UInt8 => x.map B) (fun x => x.length = 32) Tryd.underlying72 cells_id (show 0 < 32 by omega) (fun fuel cs y _ h => trod_bytes Tryd.underlying23 Tryd.underlying5 cells_u8 cells_id h) h1
  obtain ⟨xh, e2, k2⟩ := trod_hdr (by rw [List.length_take, List.length_drop]; omega) h2
  obtain ⟨d3, e3, l3⟩ := trod_bytes Tryd.underlying23 Tryd.underlying5 cells_u8 cells_id h3
  refine ⟨A, m, c, ⟨xe, l, xh, d3⟩, ?_, ⟨k0, k1, k2, l3⟩, ⟨s1, l1, k1, m1⟩, x1⟩
  have : cs.toList = certV (.slice A m c) ⟨xe, l, xh, d3⟩ := by
    have a4 : cs.toList.drop 137 = [] := List.drop_of_length_le (by omega)
    have a3 := cut_eq e3 a4
    have a2 := cut_eq e2 a3
    have a1 := cut_eq e1 a2
    have a0 := cut_eq e0 a1
    rw [List.drop_zero] at a0
    rw [a0]; simp [certV]
  rw [show cs = cs.toList.toArray from rfl, this]
end
end Go.Proofs.YtphmefhnffoafaaDoor

/- The contract of the document's Next. Printed by mknext.py. -/
namespace Go.Proofs.YtphmefhnffoafaaDoor
open Go.RowKit Go.Shelf
set_option linter.unusedVariables false
set_option maxRecDepth 100000 in
set_option maxHeartbeats 40000000 in
theorem rnext_any (p : Hdr) (first : Bool) (A : Option Addr) (n c : Nat) (ls : List (List UInt8)) (s ep : Int) (w : World) (hp : p.ok) (hl : LS w A n c ls) (hn : n = ls.length) (hnm : n ≤ 1000000) (hlm : ∀ l ∈ ls, l.length ≤ 1000000) (hs : I64 s) (hep : I64 ep) (ht : Tabs w) :
    Calls Tryd.prog 20 #[.agg (hdrV p).toArray, .bool first, .slice A n c, .int .i64 s, .int .i64 ep] w fun e w' => e = .returned (.tuple #[.agg (hdrV (nextB p first ls s ep)).toArray, .bool (nextOK p first ls s ep)]) ∧ Below w.heap.size w w' := by
  have HPO := Lib.hid hp; have HS := Lib.hid hl; have HT := Lib.hid ht; have HTW := Lib.hid ht; have HLM := Lib.hid hlm; have HNN := Lib.hid hn; have HSI := Lib.hid hs; have HEI := Lib.hid hep
  obtain ⟨rs, hrs⟩ := dig_root ls
  have HRS := Lib.hid hrs
  obtain ⟨zs, hzs⟩ : ∃ zs, Dig zs (hidB p) := ⟨(hidB p).map B, rfl, hidB_len p⟩
  have HZ := Lib.hid hzs
  have HRP := Lib.hid (fun w => rhright_any p w hp)
  have IP := Lib.hid (hdr_at hp)
  have LP := Lib.hid (hdrV_length hp)
  have LZ := Lib.hid (hdrV_length noHdr_ok)
  have OZ := Lib.hid (hdr_one noHdr)
  have T0 := Lib.hid built_hdrE
  have T4 := Lib.hid (built_hdr4 (s := s) (ep := ep) (rootB_len ls))
  rw [← hrs.1] at T4
  have L4 := Lib.hid (hdrV_length (e := ⟨s, 1, ep, zeroD, rootB ls⟩) ⟨hs, by simp [I64], hep, by simp [zeroD], rootB_len ls⟩)
  have O4 := Lib.hid (hdr_one ⟨s, 1, ep, zeroD, rootB ls⟩)
  obtain ⟨h4, hh4⟩ : ∃ v, v = hdrV ⟨s, 1, ep, zeroD, rootB ls⟩ := ⟨_, rfl⟩
  have E4 := Lib.hid hh4
  rw [← hh4] at T4 L4 O4
  obtain ⟨nz, hnz⟩ : ∃ v, v = hdrV noHdr := ⟨_, rfl⟩
  have HNZ := Lib.hid hnz.symm
  rw [← hnz] at LZ OZ T0
  have Z2 := Lib.hid zero_hdr2
  rw [← hnz] at Z2
  obtain ⟨rp, hrp⟩ : ∃ r, r = rightH p := ⟨_, rfl⟩
  have HRPE := Lib.hid hrp.symm
  rw [← hrp] at HRP
  obtain ⟨pv, hpv⟩ : ∃ v, v = hdrV p := ⟨_, rfl⟩
  have HPV := Lib.hid hpv
  have HID := Lib.hid (fun w => rhid_any p hzs w hp)
  rw [← hpv] at HRP IP LP HID ⊢
  clear hrs hzs hh4 hnz hrp hpv hl ht hlm hp hn hs hep
  have HB := Lib.hid (Below.refl w.heap.size w)
  obtain ⟨gp, hgp⟩ : ∃ g, g = w.heap.size := ⟨_, rfl⟩
  have HGP := Lib.hid hgp
  go_enter Tryd.func20, Tryd.ntmps20
  go_wp2_with (first | (with_reducible refine wpl_box (o := ⟨some 5, _, _, _, _, _⟩) rfl rfl rfl ?_))
  intro w1 hb1 hbw1 hsz1
  rw [← hgp] at hb1 hbw1 hsz1 ⊢
  clear hgp
  obtain ⟨gr, hgr⟩ : ∃ g, g = gp + 1 := ⟨_, rfl⟩
  have HGR := Lib.hid hgr
  go_wp2_with (first | (with_reducible refine wpl_alloc (o := ⟨some 10, _, _, _, _, _⟩) rfl rfl Z2.out ?_))
  intro w_ hb2 hbw2 hsz2
  have HPB := Lib.hid (hb1.below hbw2 (by omega))
  have HV := Lib.hid (show Blk w_ gr 25 nz by rw [HGR.out]; first | exact hb2 | (rw [hsz1] at hb2; exact hb2))
  have HB_ := Lib.hid (show Grow w w_ by rw [HGP.out] at hbw1; exact Below.trans hbw1 (hbw2.mono (by have := HGP.out; omega)))
  have HT_ := Lib.hid (HT.out.grow HB_.out)
  have HS_ := Lib.hid (HS.out.grow HB_.out)
  have HGV := Lib.hid (show w.heap.size ≤ gr by have := HGP.out; have := HGR.out; omega)
  try rw [← hgr]
  clear hb1 hb2 hbw1 hbw2 hsz1 hsz2 HB HT HS hgr
  have HB := HB_; have HT := HT_; have HS := HS_
  clear HB_ HT_ HS_
  try clear w1
  by_cases h3 : n = 3
  · subst h3
    cases first with
    | true =>
      go_wp2_with fail
      refine (ls_rroot_any HS.out HRS.out (by omega) HLM.out HT.out).mono ?_
      rintro e w2_ ⟨rfl, hb_⟩
      have HPB_ := Lib.hid (HPB.out.grow hb_)
      have HV_ := Lib.hid (HV.out.grow hb_)
      have HT_ := Lib.hid (HT.out.grow hb_)
      have HB_ := Lib.hid (HB.out.grow' hb_)
      clear HB HPB HV HT
      have HPB := HPB_
      have HV := HV_
      have HT := HT_
      have HB := HB_
      clear HB_ HPB_ HV_ HT_
      clear hb_
      try clear w_
      rename World => w_
      try clear HS
      go_wp2_with (first | (refine wpl_build (o := ⟨some 36, _, _, _, _, _⟩) rfl rfl T4.out ?_) | (with_reducible refine wpl_alloc (o := ⟨some 12, _, _, _, _, _⟩) rfl rfl Z2.out ?_))
      intro w2_ hb2 hb_ hs2
      obtain ⟨gv, hgv⟩ : ∃ g, g = w_.heap.size := ⟨_, rfl⟩
      rw [← hgv] at hb2 hs2 ⊢
      have HX := Lib.hid hb2
      have HGX := Lib.hid (show gv ≠ gp ∧ gv ≠ gr ∧ w.heap.size ≤ gv by have h1 := HPB.out.lt; have h2 := HV.out.lt; have h3 := HB.out.size; omega)
      clear hb2 hs2 hgv
      have HPB_ := Lib.hid (HPB.out.grow hb_)
      have HV_ := Lib.hid (HV.out.grow hb_)
      have HT_ := Lib.hid (HT.out.grow hb_)
      have HB_ := Lib.hid (HB.out.grow' hb_)
      clear HB HPB HV HT
      have HPB := HPB_
      have HV := HV_
      have HT := HT_
      have HB := HB_
      clear HB_ HPB_ HV_ HT_
      clear hb_
      try clear w_
      rename World => w_
      go_wp2_with (first | (with_reducible refine wpl_storeb (o := ⟨none, .store _ _ _, _, _, _, _⟩) rfl rfl row_header HX.out rfl rfl LZ.out L4.out O4.out ?_))
      intro w2_ hb2 hg2 hs2
      have HX_ := Lib.hid hb2
      have HPB_ := Lib.hid (HPB.out.grown hg2 (by simpa using HGX.out.1.symm))
      have HV_ := Lib.hid (HV.out.grown hg2 (by simpa using HGX.out.2.1.symm))
      have HB_ := Lib.hid (put_below HB.out HGX.out.2.2 hg2)
      have HT_ := Lib.hid (HTW.out.grow HB_.out)
      clear hb2 hg2 hs2 HX HPB HV HB HT
      have HX := HX_; have HPB := HPB_; have HV := HV_; have HB := HB_; have HT := HT_
      clear HX_ HPB_ HV_ HB_ HT_
      try clear w_
      rename World => w_
      have HNV := Lib.hid (show h4 = hdrV (nextH p true ls s ep) from E4.out)
      rw [HNV.out] at HX
      have HNO_ := Lib.hid (show (nextH p true ls s ep).ok from ⟨HSI.out, by simp [I64, nextH], HEI.out, by simp [nextH, zeroD], rootB_len ls⟩)
      have HOKE := Lib.hid (show nextOK p true ls s ep = rightH (nextH p true ls s ep) by unfold nextOK; rw [← HNN.out]; simp)
      have LN := Lib.hid (hdrV_length HNO_.out)
      have ON := Lib.hid (hdr_one (nextH p true ls s ep))
      have HRN := Lib.hid (fun w => rhright_any (nextH p true ls s ep) w HNO_.out)
      rw [← HOKE.out] at HRN
      obtain ⟨ok, hok⟩ : ∃ o, o = nextOK p true ls s ep := ⟨_, rfl⟩
      have HK := Lib.hid hok.symm
      rw [← hok] at HRN
      clear hok
      obtain ⟨hv, hhv⟩ : ∃ v, v = hdrV (nextH p true ls s ep) := ⟨_, rfl⟩
      have EHV := Lib.hid hhv
      rw [← hhv] at HX LN ON HRN
      clear hhv
      go_wp2_with (first | (with_reducible refine wpl_loadb (o := ⟨some 49, _, _, _, _, _⟩) rfl rfl row_header HX.out rfl LN.out ?_))
      refine (HRN.out _).mono ?_
      rintro e w2_ ⟨rfl, hb_⟩
      try clear HT
      have HPB_ := Lib.hid (HPB.out.grow hb_)
      have HV_ := Lib.hid (HV.out.grow hb_)
      have HX_ := Lib.hid (HX.out.grow hb_)
      have HB_ := Lib.hid (HB.out.grow' hb_)
      clear HB HPB HV HX
      have HPB := HPB_
      have HV := HV_
      have HX := HX_
      have HB := HB_
      clear HB_ HPB_ HV_ HX_
      clear hb_
      try clear w_
      rename World => w_
      cases ok with
      | false =>
        have HNO := HK
        go_wp2_with (first | (refine wpl_build (o := ⟨some 52, _, _, _, _, _⟩) rfl rfl T0.out ?_) | (with_reducible refine wpl_storeb (o := ⟨none, .store _ _ _, _, _, _, _⟩) rfl rfl row_header HV.out rfl rfl LZ.out LZ.out OZ.out ?_))
        intro w9 hb9 hg9 hs9
        have HB9 := Lib.hid hb9
        have HBB := Lib.hid (put_below HB.out HGV.out hg9)
        clear hb9 hg9 hs9
        go_wp2_with fail
        refine ret_cell_tmp rfl row_header HB9.out rfl LZ.out rfl rfl ?_
        exact ⟨by rw [nextB_no HNO.out, HNO.out, HNZ.out]; try rfl, HBB.out⟩
      | true =>
        go_wp2_with (first | (with_reducible refine wpl_loadb (o := ⟨some 53, _, _, _, _, _⟩) rfl rfl row_header HX.out rfl LN.out ?_) | (with_reducible refine wpl_storeb (o := ⟨none, .store _ _ _, _, _, _, _⟩) rfl rfl row_header HV.out rfl rfl LZ.out LN.out ON.out ?_))
        intro w9 hb9 hg9 hs9
        have HB9 := Lib.hid hb9
        have HBB := Lib.hid (put_below HB.out HGV.out hg9)
        clear hb9 hg9 hs9
        go_wp2_with fail
        refine ret_cell_tmp rfl row_header HB9.out rfl LN.out rfl rfl ?_
        exact ⟨by rw [nextB_yes HK.out, HK.out, EHV.out]; try rfl, HBB.out⟩
    | false =>
      go_wp2_with (first | (with_reducible refine wpl_loadw (o := ⟨some 20, _, _, _, _, _⟩) (by first | rfl | (go_simp; done) | fail) rfl row_header HPB.out rfl LP.out ?_))
      refine (HRP.out _).mono ?_
      rintro e w2_ ⟨rfl, hb_⟩
      have HPB_ := Lib.hid (HPB.out.grow hb_)
      have HV_ := Lib.hid (HV.out.grow hb_)
      have HT_ := Lib.hid (HT.out.grow hb_)
      have HS_ := Lib.hid (HS.out.grow hb_)
      have HB_ := Lib.hid (HB.out.grow' hb_)
      clear HB HPB HV HT HS
      have HPB := HPB_
      have HV := HV_
      have HT := HT_
      have HS := HS_
      have HB := HB_
      clear HB_ HPB_ HV_ HT_ HS_
      clear hb_
      try clear w_
      rename World => w_
      cases rp with
      | false =>
        have HNO := Lib.hid (show nextOK p false ls s ep = false by unfold nextOK; rw [HRPE.out]; simp)
        go_wp2_with (first | (refine wpl_build (o := ⟨some 31, _, _, _, _, _⟩) rfl rfl T0.out ?_) | (with_reducible refine wpl_storeb (o := ⟨none, .store _ _ _, _, _, _, _⟩) rfl rfl row_header HV.out rfl rfl LZ.out LZ.out OZ.out ?_))
        intro w9 hb9 hg9 hs9
        have HB9 := Lib.hid hb9
        have HBB := Lib.hid (put_below HB.out HGV.out hg9)
        clear hb9 hg9 hs9
        go_wp2_with fail
        refine ret_cell_tmp rfl row_header HB9.out rfl LZ.out rfl rfl ?_
        exact ⟨by rw [nextB_no HNO.out, HNO.out, HNZ.out]; try rfl, HBB.out⟩
      | true =>
        have c2 := HPB.out.at_ IP.out.2.2
        have hrb := rightH_iff.1 HRPE.out
        have v1 : IntKind.i64.wrap (p.height + 1) = p.height + 1 := IntWalk.i64_in _ (by omega)
        have v2 : RowKit.wrap64 (p.height + 1) = p.height + 1 := wrap64_in _ (by omega)
        by_cases he : ep < p.epoch
        · have d1 : decide (ep < p.epoch) = true := by simpa using he
          have HNO := Lib.hid (show nextOK p false ls s ep = false by unfold nextOK; rw [show decide (p.epoch ≤ ep) = false by simp; omega]; simp)
          go_wp2_with (first | (refine wpl_build (o := ⟨some 31, _, _, _, _, _⟩) rfl rfl T0.out ?_) | (with_reducible refine wpl_storeb (o := ⟨none, .store _ _ _, _, _, _, _⟩) rfl rfl row_header HV.out rfl rfl LZ.out LZ.out OZ.out ?_))
          intro w9 hb9 hg9 hs9
          have HB9 := Lib.hid hb9
          have HBB := Lib.hid (put_below HB.out HGV.out hg9)
          clear hb9 hg9 hs9
          go_wp2_with fail
          refine ret_cell_tmp rfl row_header HB9.out rfl LZ.out rfl rfl ?_
          exact ⟨by rw [nextB_no HNO.out, HNO.out, HNZ.out]; try rfl, HBB.out⟩
        · have d1 : decide (ep < p.epoch) = false := by simpa using he
          have hrb2 := HRPE.out
          go_wp2_with fail
          refine (ls_rroot_any HS.out HRS.out (by omega) HLM.out HT.out).mono ?_
          rintro e w2_ ⟨rfl, hb_⟩
          have HPB_ := Lib.hid (HPB.out.grow hb_)
          have HV_ := Lib.hid (HV.out.grow hb_)
          have HT_ := Lib.hid (HT.out.grow hb_)
          have HB_ := Lib.hid (HB.out.grow' hb_)
          clear HB HPB HV HT
          have HPB := HPB_
          have HV := HV_
          have HT := HT_
          have HB := HB_
          clear HB_ HPB_ HV_ HT_
          clear hb_
          try clear w_
          rename World => w_
          try clear HS
          go_wp2_with (first | (refine wpl_build (o := ⟨some 36, _, _, _, _, _⟩) rfl rfl T4.out ?_) | (with_reducible refine wpl_alloc (o := ⟨some 12, _, _, _, _, _⟩) rfl rfl Z2.out ?_))
          intro w2_ hb2 hb_ hs2
          obtain ⟨gv, hgv⟩ : ∃ g, g = w_.heap.size := ⟨_, rfl⟩
          rw [← hgv] at hb2 hs2 ⊢
          have HX := Lib.hid hb2
          have HGX := Lib.hid (show gv ≠ gp ∧ gv ≠ gr ∧ w.heap.size ≤ gv by have h1 := HPB.out.lt; have h2 := HV.out.lt; have h3 := HB.out.size; omega)
          clear hb2 hs2 hgv
          have HPB_ := Lib.hid (HPB.out.grow hb_)
          have HV_ := Lib.hid (HV.out.grow hb_)
          have HT_ := Lib.hid (HT.out.grow hb_)
          have HB_ := Lib.hid (HB.out.grow' hb_)
          clear HB HPB HV HT
          have HPB := HPB_
          have HV := HV_
          have HT := HT_
          have HB := HB_
          clear HB_ HPB_ HV_ HT_
          clear hb_
          try clear w_
          rename World => w_
          go_wp2_with (first | (with_reducible refine wpl_storeb (o := ⟨none, .store _ _ _, _, _, _, _⟩) rfl rfl row_header HX.out rfl rfl LZ.out L4.out O4.out ?_))
          intro w2_ hb2 hg2 hs2
          have HX_ := Lib.hid hb2
          have HPB_ := Lib.hid (HPB.out.grown hg2 (by simpa using HGX.out.1.symm))
          have HV_ := Lib.hid (HV.out.grown hg2 (by simpa using HGX.out.2.1.symm))
          have HB_ := Lib.hid (put_below HB.out HGX.out.2.2 hg2)
          have HT_ := Lib.hid (HTW.out.grow HB_.out)
          clear hb2 hg2 hs2 HX HPB HV HB HT
          have HX := HX_; have HPB := HPB_; have HV := HV_; have HB := HB_; have HT := HT_
          clear HX_ HPB_ HV_ HB_ HT_
          try clear w_
          rename World => w_
          have c0 := HPB.out.at_ IP.out.1
          have k0 := HX.out.at_ (show h4[0]? = some (.int .i64 s) by rw [E4.out]; rfl)
          have f0 := HX.out.frozen 0
          have HX1 := Lib.hid (HX.out.set_ 0 (.int .i64 p.shard))
          have HP1 := Lib.hid (HPB.out.far (p := ⟨gv, 0, none⟩) HGX.out.1.symm (.int .i64 p.shard))
          have c1 := HP1.out.at_ IP.out.2.1
          have k1 := HX1.out.at_ (i := 1) (v := .int .i64 1) (by rw [E4.out]; rfl)
          have f1 := HX1.out.frozen 1
          have HX2 := Lib.hid (HX1.out.set_ 1 (.int .i64 (p.height + 1)))
          have HP2 := Lib.hid (HP1.out.far (p := ⟨gv, 1, none⟩) HGX.out.1.symm (.int .i64 (p.height + 1)))
          have HV2 := Lib.hid ((HV.out.far (p := ⟨gv, 0, none⟩) HGX.out.2.1.symm (.int .i64 p.shard)).far (p := ⟨gv, 1, none⟩) HGX.out.2.1.symm (.int .i64 (p.height + 1)))
          have HB2 := Lib.hid (show Grow w ((w_.setCell ⟨gv, 0, none⟩ (.int .i64 p.shard)).setCell ⟨gv, 1, none⟩ (.int .i64 (p.height + 1))) from Below.setCell (Below.setCell HB.out HGX.out.2.2 _) HGX.out.2.2 _)
          go_wp2_with (first | (with_reducible refine wpl_loadb (o := ⟨some 46, _, _, _, _, _⟩) rfl rfl row_header HP2.out rfl LP.out ?_))
          clear c0 k0 f0 c1 k1 f1 HX HPB HV HB HX1 HP1
          generalize (w_.setCell ⟨gv, 0, none⟩ (.int .i64 p.shard)).setCell ⟨gv, 1, none⟩ (.int .i64 (p.height + 1)) = w3_ at HX2 HP2 HV2 HB2 ⊢
          have HX := HX2; have HPB := HP2; have HV := HV2; have HB := HB2
          clear HX2 HP2 HV2 HB2
          refine (HID.out _).mono ?_
          rintro e w2_ ⟨rfl, hb_⟩
          clear HT
          try clear w_
          obtain ⟨w_, hww⟩ : ∃ k : World, k = w3_ := ⟨_, rfl⟩
          subst hww
          have HPB_ := Lib.hid (HPB.out.grow hb_)
          have HV_ := Lib.hid (HV.out.grow hb_)
          have HX_ := Lib.hid (HX.out.grow hb_)
          have HB_ := Lib.hid (HB.out.grow' hb_)
          clear HB HPB HV HX
          have HPB := HPB_
          have HV := HV_
          have HX := HX_
          have HB := HB_
          clear HB_ HPB_ HV_ HX_
          clear hb_
          try clear w_
          rename World => w_
          go_wp2_with (first | (with_reducible refine wpl_storem (o := ⟨none, .store _ _ _, _, _, _, _⟩) rfl rfl row_id HX.out rfl rfl HZ.out.len (by simp only [List.length_set]; rw [L4.out]; omega) HZ.out.one ?_))
          intro w2_ hb2 hg2 hs2
          have HX_ := Lib.hid hb2
          have HPB_ := Lib.hid (HPB.out.grown hg2 (by simpa using HGX.out.1.symm))
          have HV_ := Lib.hid (HV.out.grown hg2 (by simpa using HGX.out.2.1.symm))
          have HB_ := Lib.hid (put_below HB.out HGX.out.2.2 hg2)
          clear hb2 hg2 hs2 HX HPB HV HB
          have HX := HX_; have HPB := HPB_; have HV := HV_; have HB := HB_
          clear HX_ HPB_ HV_ HB_
          try clear w_
          rename World => w_
          rw [E4.out, HZ.out.1, hdr_next (by simp [zeroD]) (hidB_len p)] at HX
          have HX_ := Lib.hid (show Blk w_ gv 25 (hdrV (nextH p false ls s ep)) from HX.out)
          clear HX
          have HX := HX_
          clear HX_
          have HNO_ := Lib.hid (show (nextH p false ls s ep).ok from ⟨HPO.out.1, by show I64 (p.height + 1); unfold I64; omega, HEI.out, hidB_len p, rootB_len ls⟩)
          have HOKE := Lib.hid (show nextOK p false ls s ep = rightH (nextH p false ls s ep) by unfold nextOK; rw [← HNN.out, HRPE.out]; simp; omega)
          have LN := Lib.hid (hdrV_length HNO_.out)
          have ON := Lib.hid (hdr_one (nextH p false ls s ep))
          have HRN := Lib.hid (fun w => rhright_any (nextH p false ls s ep) w HNO_.out)
          rw [← HOKE.out] at HRN
          obtain ⟨ok, hok⟩ : ∃ o, o = nextOK p false ls s ep := ⟨_, rfl⟩
          have HK := Lib.hid hok.symm
          rw [← hok] at HRN
          clear hok
          obtain ⟨hv, hhv⟩ : ∃ v, v = hdrV (nextH p false ls s ep) := ⟨_, rfl⟩
          have EHV := Lib.hid hhv
          rw [← hhv] at HX LN ON HRN
          clear hhv
          go_wp2_with (first | (with_reducible refine wpl_loadb (o := ⟨some 49, _, _, _, _, _⟩) rfl rfl row_header HX.out rfl LN.out ?_))
          refine (HRN.out _).mono ?_
          rintro e w2_ ⟨rfl, hb_⟩
          try clear HT
          have HPB_ := Lib.hid (HPB.out.grow hb_)
          have HV_ := Lib.hid (HV.out.grow hb_)
          have HX_ := Lib.hid (HX.out.grow hb_)
          have HB_ := Lib.hid (HB.out.grow' hb_)
          clear HB HPB HV HX
          have HPB := HPB_
          have HV := HV_
          have HX := HX_
          have HB := HB_
          clear HB_ HPB_ HV_ HX_
          clear hb_
          try clear w_
          rename World => w_
          cases ok with
          | false =>
            have HNO := HK
            go_wp2_with (first | (refine wpl_build (o := ⟨some 52, _, _, _, _, _⟩) rfl rfl T0.out ?_) | (with_reducible refine wpl_storeb (o := ⟨none, .store _ _ _, _, _, _, _⟩) rfl rfl row_header HV.out rfl rfl LZ.out LZ.out OZ.out ?_))
            intro w9 hb9 hg9 hs9
            have HB9 := Lib.hid hb9
            have HBB := Lib.hid (put_below HB.out HGV.out hg9)
            clear hb9 hg9 hs9
            go_wp2_with fail
            refine ret_cell_tmp rfl row_header HB9.out rfl LZ.out rfl rfl ?_
            exact ⟨by rw [nextB_no HNO.out, HNO.out, HNZ.out]; try rfl, HBB.out⟩
          | true =>
            go_wp2_with (first | (with_reducible refine wpl_loadb (o := ⟨some 53, _, _, _, _, _⟩) rfl rfl row_header HX.out rfl LN.out ?_) | (with_reducible refine wpl_storeb (o := ⟨none, .store _ _ _, _, _, _, _⟩) rfl rfl row_header HV.out rfl rfl LZ.out LN.out ON.out ?_))
            intro w9 hb9 hg9 hs9
            have HB9 := Lib.hid hb9
            have HBB := Lib.hid (put_below HB.out HGV.out hg9)
            clear hb9 hg9 hs9
            go_wp2_with fail
            refine ret_cell_tmp rfl row_header HB9.out rfl LN.out rfl rfl ?_
            exact ⟨by rw [nextB_yes HK.out, HK.out, EHV.out]; try rfl, HBB.out⟩
  · have d3 : ((n : Int) != 3) = true := by rw [bne_iff_ne]; omega
    have HNO := Lib.hid (show nextOK p first ls s ep = false by unfold nextOK; rw [show decide (ls.length = 3) = false by have := HNN.out; simp; omega]; simp)
    go_wp2_with (first | (refine wpl_build (o := ⟨some 31, _, _, _, _, _⟩) rfl rfl T0.out ?_) | (with_reducible refine wpl_storeb (o := ⟨none, .store _ _ _, _, _, _, _⟩) rfl rfl row_header HV.out rfl rfl LZ.out LZ.out OZ.out ?_))
    intro w9 hb9 hg9 hs9
    have HB9 := Lib.hid hb9
    have HBB := Lib.hid (put_below HB.out HGV.out hg9)
    clear hb9 hg9 hs9
    go_wp2_with fail
    refine ret_cell_tmp rfl row_header HB9.out rfl LZ.out rfl rfl ?_
    exact ⟨by rw [nextB_no HNO.out, HNO.out, HNZ.out]; try rfl, HBB.out⟩
end Go.Proofs.YtphmefhnffoafaaDoor

/- The document's answer of layer 1 (the same bytes), and lists of lists of bytes that were handed back. -/
namespace Go.Proofs.YtphmefhnffoafaaDoor
open Go.RowKit Go.Shelf
set_option linter.unusedVariables false
def KeepC (w : World) (a : Addr) (v : Value) : Prop := w.cell? a = some v
theorem KeepC.grow {w w' : World} {a : Addr} {v : Value} (h : KeepC w a v) (k : Grow w w') : KeepC w' a v := by
  unfold KeepC at *
  rw [k.cell (World.block_lt_of_cell? w _ h)]; exact h
theorem LS.at_ {w : World} {A : Option Addr} {n c : Nat} {ls : List (List UInt8)} (h : LS w A n c ls) {k : Nat} (hk : k < n) :
    ∃ b off A2 n2 c2 bs, A = some ⟨b, off, none⟩ ∧ ls[k]? = some bs ∧ KeepC w ⟨b, off + k, none⟩ (.slice A2 n2 c2) ∧ n2 = bs.length ∧ Sl w w.heap.size 1 A2 n2 (bs.map B) := by
  obtain ⟨ps, hp, hl, _⟩ := h
  obtain ⟨b, off, A2, c2, bs, e, hps, hc, hcc, hs⟩ := hp.at_ hk
  refine ⟨b, off, A2, bs.length, c2, bs, e, ?_, hc, rfl, hs⟩
  rw [← hl, List.getElem?_map, hps]; rfl
theorem nextB_ok {p : Hdr} {first : Bool} {ls : List (List UInt8)} {s ep : Int} : (nextB p first ls s ep).ok := by
  by_cases h : nextOK p first ls s ep = true
  · rw [nextB_yes h]
    have hr : rightH (nextH p first ls s ep) = true := by unfold nextOK at h; simp only [Bool.and_eq_true] at h; exact h.2
    have hb := rightH_iff.1 hr
    have hl : (nextH p first ls s ep).prev.length = 32 ∧ (nextH p first ls s ep).root.length = 32 := by unfold nextH; split <;> simp [zeroD, hidB_len, rootB_len]
    exact ⟨⟨by omega, by omega⟩, ⟨by omega, by omega⟩, ⟨by omega, by omega⟩, hl.1, hl.2⟩
  · rw [nextB_no (by simpa using h)]; exact noHdr_ok
def HV (xs : List Value) : Prop := xs.length = 67 ∧ ∀ u ∈ xs, u.oneCell' = true
theorem HV.len {xs : List Value} (h : HV xs) : xs.length = 67 := h.1
theorem HV.one {xs : List Value} (h : HV xs) : ∀ u ∈ xs, u.oneCell' = true := h.2
theorem hv_of {x : Hdr} (h : x.ok) : HV (hdrV x) := ⟨hdrV_length h, hdr_one x⟩
theorem len_header : (hdrV noHdr).length = 67 := hdrV_length noHdr_ok
theorem zero_header : (Tryd.prog.info? 25).map (·.zero) = some (some (.agg (hdrV noHdr).toArray)) := zero_hdr2
def LenE (xs : List Value) (n : Nat) : Prop := xs.length = n
theorem LenE.len {xs : List Value} {n : Nat} (h : LenE xs n) : xs.length = n := h
set_option maxRecDepth 100000 in
set_option maxHeartbeats 1000000 in
theorem bytes1_any {res : Bool} {A A2 : Option Addr} {n c n2 c2 : Nat} {xs ys : List UInt8} (hres : decide (xs = ys) = res) (w : World) (h1 : Sl w w.heap.size 1 A n (xs.map B)) (h2 : Sl w w.heap.size 1 A2 n2 (ys.map B)) (hn : n ≤ 1000000) :
    Calls Tryd.prog 18 #[.slice A n c, .slice A2 n2 c2] w fun e w' => e = .returned (.bool res) ∧ Below w.heap.size w w' := by
  have H1 := Lib.hid h1; have H2 := Lib.hid h2
  have HL1 := Lib.hid (show xs.length = n by have := h1.len; simpa using this)
  have HL2 := Lib.hid (show ys.length = n2 by have := h2.len; simpa using this)
  have HRES := Lib.hid hres
  clear h1 h2 hres
  by_cases hnn : n = n2
  · subst hnn
    have z1 : ((n : Int) != (n : Int)) = false := by simp
    go_enter Tryd.func18, Tryd.ntmps18
    go_wp2_with fail
    go_loopw [5] (fun i wr => ∃ k : Nat, k ≤ n ∧ i = .int .i64 k ∧ Hid (xs.take k = ys.take k) ∧ Hid (Below w.heap.size w wr)) (fun i _ => n - (intOf i).toNat)
    case atStart => exact ⟨0, by omega, rfl, Lib.hid (by simp), Lib.hid (Below.refl _ _)⟩
    case round =>
      obtain ⟨k, hk, rfl, heq, hbw⟩ := hrel
      by_cases hlt : k < n
      · have HB := hbw
        have H1A := Lib.hid ((H1.out.below HB.out).more HB.out.size)
        have H2A := Lib.hid ((H2.out.below HB.out).more HB.out.size)
        obtain ⟨x, hx⟩ : ∃ x, xs[k]? = some x := ⟨_, List.getElem?_eq_getElem (by rw [HL1.out]; exact hlt)⟩
        obtain ⟨y, hy⟩ : ∃ y, ys[k]? = some y := ⟨_, List.getElem?_eq_getElem (by rw [HL2.out]; exact hlt)⟩
        have HX := Lib.hid hx; have HY := Lib.hid hy
        clear hx hy
        by_cases hxy : x = y
        · subst hxy
          try go_wp2_with fail
          repeat' (first | (with_reducible refine wp_plan (id := 6) Grow [0,0,0,2,0,0,0,2,0] (.get 0 (.get 1 (.get 2 (.get 3 (.get 4 (.get 5 (.get 6 (.get 7 (.get 8 .done))))))))) (by kernel_rfl) (by kernel_rfl) Grow.refl Grow.trans ?_) | go_values | go_skip | go_guarded | go_step | go_upon | go_back)
          intro w_ hd_
          have hb_ := hd_.grow
          have HB_ := Lib.hid (HB.out.grow' hb_)
          clear HB
          have HB := HB_
          clear HB_
          have H1A_ := Lib.hid (H1A.out.grow hb_)
          clear H1A
          have H1A := H1A_
          clear H1A_
          have H2A_ := Lib.hid (H2A.out.grow hb_)
          clear H2A
          have H2A := H2A_
          clear H2A_
          clear hb_ hd_
          obtain ⟨b1, o1, u1, rfl, hb1, hu1, hc1⟩ := H1A.out.at_ hlt
          obtain ⟨b2, o2, u2, rfl, hb2, hu2, hc2⟩ := H2A.out.at_ hlt
          obtain rfl : u1 = .int .u8 (b8 x) := by rw [List.getElem?_map, HX.out] at hu1; exact (Option.some.inj hu1).symm
          obtain rfl : u2 = .int .u8 (b8 x) := by rw [List.getElem?_map, HY.out] at hu2; exact (Option.some.inj hu2).symm
          clear hb1 hb2 hu1 hu2
          repeat (first | (refine pl_calm rfl rfl (by first | exact wanted_none rfl | (go_simp; done) | rfl) (fun w_ => by first | (go_simp; rfl) | (go_simp; done) | rfl) (fun K hK => ?_); go_simp; refine hK _ _ ?_; clear hK K) | (refine pl_skip rfl (by first | (go_simp; done) | rfl) (fun K hK => ?_); go_simp; refine hK _ _ ?_; clear hK K) | (refine pl_skipa rfl (by first | (go_simp; done) | rfl) (fun K hK => ?_); go_simp; refine hK _ _ ?_; clear hK K) | (refine pl_load rfl rfl (by first | exact wanted_none rfl | (go_simp; done) | rfl) rfl (by first | rfl | (go_simp; rfl)) (by kernel_rfl) (by first | exact hc1 | exact hc2) (fun K hK => ?_); go_simp; refine hK _ _ ?_; clear hK K) | (refine pl_loadnow rfl rfl (by first | exact wanted_none rfl | (go_simp; done) | rfl) rfl (by first | rfl | (go_simp; rfl)) (by kernel_rfl) (by first | exact hc1 | exact hc2) (fun K hK => ?_); go_simp; refine hK _ _ ?_; clear hK K))
          refine pl_done ?_
          clear hc1 hc2
          have HE := Lib.hid (show xs.take (k + 1) = ys.take (k + 1) by rw [List.take_add_one, List.take_add_one, heq.out, HX.out, HY.out])
          go_wp2_with fail
          go_roundw
          case rel => exact ⟨k + 1, by omega, by go_num, HE, HB⟩
          case measure => simp [intOf]; omega
        · have hbb : ((b8 x) != (b8 y)) = true := by
            have : b8 x ≠ b8 y := fun h => hxy (b8_inj h)
            simpa using this
          have HF := Lib.hid (show res = false by
            rw [← HRES.out]
            have : xs ≠ ys := fun h => by
              subst h
              have h1 := HX.out
              rw [HY.out] at h1
              exact hxy (Option.some.inj h1).symm
            simpa using this)
          have hne : b8 x ≠ b8 y := fun h => hxy (b8_inj h)
          have hq := eq_false hne
          clear hxy
          try go_wp2_with fail
          repeat' (first | (with_reducible refine wp_plan (id := 6) Grow [0,0,0,2,0,0,0,2,0] (.get 0 (.get 1 (.get 2 (.get 3 (.get 4 (.get 5 (.get 6 (.get 7 (.get 8 .done))))))))) (by kernel_rfl) (by kernel_rfl) Grow.refl Grow.trans ?_) | go_values | go_skip | go_guarded | go_step | go_upon | go_back)
          intro w_ hd_
          have hb_ := hd_.grow
          have HB_ := Lib.hid (HB.out.grow' hb_)
          clear HB
          have HB := HB_
          clear HB_
          have H1A_ := Lib.hid (H1A.out.grow hb_)
          clear H1A
          have H1A := H1A_
          clear H1A_
          have H2A_ := Lib.hid (H2A.out.grow hb_)
          clear H2A
          have H2A := H2A_
          clear H2A_
          clear hb_ hd_
          obtain ⟨b1, o1, u1, rfl, hb1, hu1, hc1⟩ := H1A.out.at_ hlt
          obtain ⟨b2, o2, u2, rfl, hb2, hu2, hc2⟩ := H2A.out.at_ hlt
          obtain rfl : u1 = .int .u8 (b8 x) := by rw [List.getElem?_map, HX.out] at hu1; exact (Option.some.inj hu1).symm
          obtain rfl : u2 = .int .u8 (b8 y) := by rw [List.getElem?_map, HY.out] at hu2; exact (Option.some.inj hu2).symm
          clear hb1 hb2 hu1 hu2
          repeat (first | (refine pl_calm rfl rfl (by first | exact wanted_none rfl | (go_simp; done) | rfl) (fun w_ => by first | (go_simp; rfl) | (go_simp; done) | rfl) (fun K hK => ?_); go_simp; refine hK _ _ ?_; clear hK K) | (refine pl_skip rfl (by first | (go_simp; done) | rfl) (fun K hK => ?_); go_simp; refine hK _ _ ?_; clear hK K) | (refine pl_skipa rfl (by first | (go_simp; done) | rfl) (fun K hK => ?_); go_simp; refine hK _ _ ?_; clear hK K) | (refine pl_load rfl rfl (by first | exact wanted_none rfl | (go_simp; done) | rfl) rfl (by first | rfl | (go_simp; rfl)) (by kernel_rfl) (by first | exact hc1 | exact hc2) (fun K hK => ?_); go_simp; refine hK _ _ ?_; clear hK K) | (refine pl_loadnow rfl rfl (by first | exact wanted_none rfl | (go_simp; done) | rfl) rfl (by first | rfl | (go_simp; rfl)) (by kernel_rfl) (by first | exact hc1 | exact hc2) (fun K hK => ?_); go_simp; refine hK _ _ ?_; clear hK K))
          refine pl_done ?_
          clear hc1 hc2
          go_wp2_with fail
          go_ret
          exact ⟨by rw [HF.out]; rfl, HB.out⟩
      · obtain rfl : k = n := by omega
        have HT := Lib.hid (show res = true by
          rw [← HRES.out]
          have h := heq.out
          rw [List.take_of_length_le (by rw [HL1.out]; exact Nat.le_refl _), List.take_of_length_le (by rw [HL2.out]; exact Nat.le_refl _)] at h
          simpa using h)
        go_wp2_with fail
        go_ret
        exact ⟨by rw [HT.out]; rfl, hbw.out⟩
  · have z1 : ((n : Int) != (n2 : Int)) = true := by simp; omega
    have HF := Lib.hid (show res = false by
      rw [← HRES.out]
      have : xs ≠ ys := fun h => by subst h; exact hnn (by rw [← HL1.out, ← HL2.out])
      simpa using this)
    have hz : ¬ ((n : Int) = (n2 : Int)) := by omega
    have hzq := eq_false hz
    go_enter Tryd.func18, Tryd.ntmps18
    go_wp2_with fail
    go_ret
    exact ⟨by rw [HF.out]; rfl, Below.refl _ _⟩
end Go.Proofs.YtphmefhnffoafaaDoor

/- Rows of headers: the chain that HeaderRow lays (plain), and slices of headers. -/
namespace Go.Proofs.YtphmefhnffoafaaDoor
open Go.RowKit Go.Shelf
set_option linter.unusedVariables false
def entK (k : Nat) : Ent := ⟨3, 0, zeroD, 0, 0, (k : Int)⟩
theorem entK_ok {k : Nat} (h : k ≤ 1000) : (entK k).ok := by
  simp only [entK, Ent.ok, I64, U64]
  exact ⟨by omega, by omega, by simp [zeroD], by omega, by omega, by omega⟩
theorem okK {k : Nat} (h : k ≤ 1000) : okL (entK k) (k : Int) = true := by
  unfold okL
  rw [rightE_iff.2 (by simp only [entK]; omega)]
  simp; omega
def lvK (l : List UInt8) (k : Nat) : List (List UInt8) := leavesB l (entK k) (k : Int)
theorem lvK_len {l : List UInt8} {k : Nat} (h : k ≤ 1000) : (lvK l k).length = 3 := by unfold lvK; rw [leavesB_yes (okK h)]; rfl
theorem lvK_le {l : List UInt8} {k : Nat} (h : k ≤ 1000) (hl : l.length ≤ 1000) : ∀ q ∈ lvK l k, q.length ≤ 1000000 := by
  intro q hq
  unfold lvK at hq
  rw [leavesB_yes (okK h)] at hq
  have hr : rightE (entK k) = true := by have := okK h; unfold okL at this; simp only [Bool.and_eq_true] at this; exact this.1
  have h1 := putEB_len (entK_ok h) hr
  have h2 := numB_le (n := (k : Int).toNat) (by omega)
  simp only [List.mem_cons, List.not_mem_nil, or_false] at hq
  rcases hq with rfl | rfl | rfl <;> omega
/-- The chain: the header behind k rounds. -/
def rowH (ls : List (List UInt8)) : Nat → Hdr
  | 0 => noHdr
  | k + 1 => nextB (rowH ls k) (decide (k = 0)) (lvK (ls.getD k []) k) 5 (k : Int)
theorem row_all (ls : List (List UInt8)) : ∀ k, k ≤ 1000 → nextOK (rowH ls k) (decide (k = 0)) (lvK (ls.getD k []) k) 5 (k : Int) = true ∧ (rowH ls (k + 1)).shard = 5 ∧ (rowH ls (k + 1)).height = (k : Int) + 1 ∧ (rowH ls (k + 1)).epoch = (k : Int)
  | 0, h => by
    have e : nextOK (rowH ls 0) (decide ((0 : Nat) = 0)) (lvK (ls.getD 0 []) 0) 5 ((0 : Nat) : Int) = true := by
      unfold nextOK
      rw [lvK_len (by omega), show rightH (nextH (rowH ls 0) (decide ((0 : Nat) = 0)) (lvK (ls.getD 0 []) 0) 5 ((0 : Nat) : Int)) = true from rightH_iff.2 (by unfold nextH; simp)]; simp
    refine ⟨e, ?_⟩
    show (nextB _ _ _ _ _).shard = 5 ∧ (nextB _ _ _ _ _).height = _ ∧ (nextB _ _ _ _ _).epoch = _
    rw [nextB_yes e]; simp [nextH]
  | k + 1, h => by
    obtain ⟨_, h1, h2, h3⟩ := row_all ls k (by omega)
    have hf : decide (k + 1 = 0) = false := by simp
    have e : nextOK (rowH ls (k + 1)) (decide (k + 1 = 0)) (lvK (ls.getD (k + 1) []) (k + 1)) 5 ((k + 1 : Nat) : Int) = true := by
      unfold nextOK
      rw [lvK_len (by omega), hf, show rightH (rowH ls (k + 1)) = true from rightH_iff.2 (by rw [h1, h2, h3]; omega), show rightH (nextH (rowH ls (k + 1)) false (lvK (ls.getD (k + 1) []) (k + 1)) 5 ((k + 1 : Nat) : Int)) = true from rightH_iff.2 (by unfold nextH; simp only [Bool.false_eq_true, if_false, h1, h2]; omega)]
      simp [h3]; omega
    refine ⟨e, ?_⟩
    show (nextB _ _ _ _ _).shard = 5 ∧ (nextB _ _ _ _ _).height = _ ∧ (nextB _ _ _ _ _).epoch = _
    rw [nextB_yes e, hf]; simp only [nextH, Bool.false_eq_true, if_false, h1, h2]; simp
theorem rowH_ok {ls : List (List UInt8)} : ∀ k, (rowH ls k).ok
  | 0 => noHdr_ok
  | k + 1 => nextB_ok
theorem row_follows {ls : List (List UInt8)} {k : Nat} (h : k + 1 ≤ 1000) : followsB (rowH ls (k + 1)) (rowH ls (k + 2)) = true := by
  have e := (row_all ls (k + 1) h).1
  rw [show decide (k + 1 = 0) = false by simp] at e
  have := next_follows e
  show followsB _ (nextB _ _ _ _ _) = true
  rw [show decide (k + 1 = 0) = false by simp]; exact this
/-- Another header in the place of the row's k-th: its successor in the row does not follow it, unless their digests are the same. -/
theorem row_else {ls : List (List UInt8)} {k : Nat} {o : Hdr} (h : k + 1 ≤ 1000) (hd : hidB o ≠ hidB (rowH ls (k + 1))) : followsB o (rowH ls (k + 2)) = false := by
  cases hf : followsB o (rowH ls (k + 2)) with
  | false => rfl
  | true => exact absurd (follows_one hf (row_follows h)) hd
def hdrsV (hs : List Hdr) : List Value := hs.flatMap hdrV
theorem hdrsV_snoc {hs : List Hdr} {h : Hdr} : hdrsV (hs ++ [h]) = hdrsV hs ++ hdrV h := by simp [hdrsV]
def rowUp (ls : List (List UInt8)) (k : Nat) : List Hdr := (List.range k).map fun i => rowH ls (i + 1)
theorem rowUp_succ {ls : List (List UInt8)} {k : Nat} : rowUp ls (k + 1) = rowUp ls k ++ [rowH ls (k + 1)] := by simp [rowUp, List.range_succ]
theorem hdrsV_len : ∀ (hs : List Hdr), (∀ h ∈ hs, h.ok) → (hdrsV hs).length = 67 * hs.length
  | [], _ => rfl
  | h :: hs, hk => by
    show (hdrV h ++ hdrsV hs).length = _
    rw [List.length_append, hdrV_length (hk h (List.mem_cons_self ..)), hdrsV_len hs fun x hx => hk x (List.mem_cons_of_mem _ hx), List.length_cons]; omega
theorem hdrsV_at : ∀ (hs : List Hdr) (i j : Nat) (h : Hdr) (u : Value), (∀ h ∈ hs, h.ok) → hs[i]? = some h → (hdrV h)[j]? = some u → (hdrsV hs)[67 * i + j]? = some u
  | [], i, j, h, u, _, hi, _ => by simp at hi
  | x :: xs, 0, j, h, u, hk, hi, hu => by
    simp only [List.getElem?_cons_zero, Option.some.injEq] at hi
    subst hi
    show (hdrV x ++ hdrsV xs)[67 * 0 + j]? = some u
    rw [List.getElem?_append_left (by have := (List.getElem?_eq_some_iff.1 hu).1; omega), Nat.mul_zero, Nat.zero_add]; exact hu
  | x :: xs, i + 1, j, h, u, hk, hi, hu => by
    rw [List.getElem?_cons_succ] at hi
    show (hdrV x ++ hdrsV xs)[67 * (i + 1) + j]? = some u
    rw [List.getElem?_append_right (by rw [hdrV_length (hk x (List.mem_cons_self ..))]; omega), hdrV_length (hk x (List.mem_cons_self ..)), show 67 * (i + 1) + j - 67 = 67 * i + j by omega]
    exact hdrsV_at xs i j h u (fun y hy => hk y (List.mem_cons_of_mem _ hy)) hi hu
theorem info_header : (Tryd.prog.info? 25).map (fun i => (i.zero, i.size, i.bytes)) = some (some (.agg zeroHdr), 67, 88) := by kernel_rfl
theorem el_header : ElemT Tryd.prog 43 25 67 88 := elemT Tryd.underlying43 info_header rfl (by omega)
theorem u64_keep {k : Nat} (h : k ≤ 1000) : IntKind.u64.wrap (k : Int) = (k : Int) := IntWalk.u64_in _ (by omega)
theorem built_ent0 (parts : List (Nat × Value)) : Tryd.prog.built 29 parts = Instr.fill (fun i => (#[(0, 1), (1, 1), (2, 32), (34, 1), (35, 1), (36, 1)] : Array (Nat × Nat))[i]?) (entV noEnt).toArray parts := by kernel_rfl
theorem built_entK {k : Nat} : Tryd.prog.built 29 [(0, .int .i64 3), (5, .int .i64 (k : Int))] = some (entV (entK k)).toArray := by
  rw [built_ent0, fill_cons (off := 0) (s := 1) (cs := [.int .i64 3]) rfl rfl rfl (by simp [entV, noEnt]), fill_cons (off := 36) (s := 1) (cs := [.int .i64 (k : Int)]) rfl rfl rfl (by simp [entV, noEnt, splice]), fill_nil]
  rfl
theorem LS.at2 {w : World} {A : Option Addr} {n c : Nat} {ls : List (List UInt8)} (h : LS w A n c ls) {k : Nat} (hk : k < n) :
    ∃ b off A2 n2 c2 bs, A = some ⟨b, off, none⟩ ∧ ls[k]? = some bs ∧ KeepC w ⟨b, off + k, none⟩ (.slice A2 n2 c2) ∧ n2 = bs.length ∧ n2 ≤ c2 ∧ Sl w w.heap.size 1 A2 n2 (bs.map B) := by
  obtain ⟨ps, hp, hl, _⟩ := h
  obtain ⟨b, off, A2, c2, bs, e, hps, hc, hcc, hs⟩ := hp.at_ hk
  refine ⟨b, off, A2, bs.length, c2, bs, e, ?_, hc, rfl, hcc, hs⟩
  rw [← hl, List.getElem?_map, hps]; rfl
theorem leavesK_any {A : Option Addr} {n c k : Nat} {bs : List UInt8} {ev : List Value} (he : ev = entV (entK k)) (hk : k ≤ 1000) (hc : n ≤ c) (hn : n ≤ 1000) (w : World) (hs : Sl w w.heap.size 1 A n (bs.map B)) :
    Calls Tryd.prog 16 #[.slice A n c, .agg ev.toArray, .int .u64 (k : Int)] w fun e w' => ∃ A' c', e = .returned (.tuple #[.slice A' 3 c', .bool true]) ∧ LS w' A' 3 c' (lvK bs k) ∧ Grow w w' := by
  subst he
  refine (leaves_any A n c bs (entK k) (k : Int) w hs hc (by omega) (entK_ok hk) ⟨by omega, by omega⟩).mono fun e w' ⟨A', n', c', he, hl, hn', hg⟩ => ?_
  have h3 : n' = 3 := hn'.trans (lvK_len hk)
  subst h3
  rw [okK hk] at he
  exact ⟨A', c', he, hl, hg⟩
theorem rleavesK_any {A : Option Addr} {n c k : Nat} {bs : List UInt8} {ev : List Value} (he : ev = entV (entK k)) (hk : k ≤ 1000) (hc : n ≤ c) (hn : n ≤ 1000) (w : World) (hs : Sl w w.heap.size 1 A n (bs.map B)) :
    Calls Tryd.prog 17 #[.slice A n c, .agg ev.toArray, .int .u64 (k : Int)] w fun e w' => ∃ A' c', e = .returned (.slice A' 3 c') ∧ LS w' A' 3 c' (lvK bs k) ∧ Grow w w' := by
  subst he
  refine (rleaves_any A n c bs (entK k) (k : Int) w hs hc (by omega) (entK_ok hk) ⟨by omega, by omega⟩).mono fun e w' ⟨A', n', c', he, hl, hn', hg⟩ => ?_
  have h3 : n' = 3 := hn'.trans (lvK_len hk)
  subst h3
  exact ⟨A', c', he, hl, hg⟩
/-- The successor of the row's k-th header over the k-th list (or another list of bytes in its place). -/
theorem nextK_any {ls : List (List UInt8)} {k : Nat} {l : List UInt8} {pv hv : List Value} {first : Bool} (hp : pv = hdrV (rowH ls k)) (hh : hv = hdrV (nextB (rowH ls k) (decide (k = 0)) (lvK l k) 5 (k : Int))) (hf : first = decide (k = 0)) (hk : k ≤ 900) (hl : l.length ≤ 1000)
    (w : World) {A : Option Addr} {c : Nat} (hs : LS w A 3 c (lvK l k)) (ht : Tabs w) :
    Calls Tryd.prog 19 #[.agg pv.toArray, .bool first, .slice A 3 c, .int .i64 5, .int .i64 (k : Int)] w fun e w' => e = .returned (.tuple #[.agg hv.toArray, .bool true]) ∧ Below w.heap.size w w' := by
  subst hp hh hf
  have h := next_any (rowH ls k) (decide (k = 0)) A 3 c (lvK l k) 5 (k : Int) w (rowH_ok k) hs (lvK_len (by omega)).symm (by omega) (lvK_le (by omega) hl) ⟨by omega, by omega⟩ ⟨by omega, by omega⟩ ht
  have ho : nextOK (rowH ls k) (decide (k = 0)) (lvK l k) 5 (k : Int) = true := by
    have h1 := (row_all ls k (by omega)).1
    unfold nextOK at h1 ⊢
    rw [lvK_len (by omega)] at h1 ⊢
    simp only [Bool.and_eq_true, rightH_iff] at h1 ⊢
    unfold nextH at h1 ⊢
    split at h1 <;> simp_all
  rw [ho] at h
  exact h
theorem rnextK_any {ls : List (List UInt8)} {k : Nat} {l : List UInt8} {pv hv : List Value} {first : Bool} (hp : pv = hdrV (rowH ls k)) (hh : hv = hdrV (nextB (rowH ls k) (decide (k = 0)) (lvK l k) 5 (k : Int))) (hf : first = decide (k = 0)) (hk : k ≤ 900) (hl : l.length ≤ 1000)
    (w : World) {A : Option Addr} {c : Nat} (hs : LS w A 3 c (lvK l k)) (ht : Tabs w) :
    Calls Tryd.prog 20 #[.agg pv.toArray, .bool first, .slice A 3 c, .int .i64 5, .int .i64 (k : Int)] w fun e w' => e = .returned (.tuple #[.agg hv.toArray, .bool true]) ∧ Below w.heap.size w w' := by
  subst hp hh hf
  have h := rnext_any (rowH ls k) (decide (k = 0)) A 3 c (lvK l k) 5 (k : Int) w (rowH_ok k) hs (lvK_len (by omega)).symm (by omega) (lvK_le (by omega) hl) ⟨by omega, by omega⟩ ⟨by omega, by omega⟩ ht
  have ho : nextOK (rowH ls k) (decide (k = 0)) (lvK l k) 5 (k : Int) = true := by
    have h1 := (row_all ls k (by omega)).1
    unfold nextOK at h1 ⊢
    rw [lvK_len (by omega)] at h1 ⊢
    simp only [Bool.and_eq_true, rightH_iff] at h1 ⊢
    unfold nextH at h1 ⊢
    split at h1 <;> simp_all
  rw [ho] at h
  exact h
theorem fold_setH_aux : ∀ (ys : List Value) (k : Nat) (z : Array Value), z.size = k + ys.length → ((ys.zipIdx k).foldl (fun cs x => cs.setIfInBounds x.2 x.1) z).toList = z.toList.take k ++ ys
  | [], k, z, h => by
    simp only [List.zipIdx_nil, List.foldl_nil, List.append_nil]
    rw [List.take_of_length_le (by simpa using Nat.le_of_eq h)]
  | y :: ys, k, z, h => by
    rw [List.zipIdx_cons, List.foldl_cons, fold_setH_aux ys (k + 1) _ (by simp only [Array.size_setIfInBounds, List.length_cons] at *; omega)]
    simp only [Array.toList_setIfInBounds]
    have hk : k < z.toList.length := by simp only [List.length_cons, Array.length_toList] at *; omega
    rw [List.take_add_one, List.getElem?_set_self hk, Option.toList_some, List.take_set_of_le (Nat.le_refl _), List.append_assoc]
    rfl
theorem fold_setH (z : Array Value) (ys : List Value) (h : z.size = ys.length) : (ys.zipIdx.foldl (fun cs x => cs.setIfInBounds x.2 x.1) z).toList = ys := by
  have := fold_setH_aux ys 0 z (by omega)
  simpa using this
def OwnH (w : World) (base : Nat) (A : Option Addr) (n c : Nat) (hs : List Value) : Prop := w.ownsRow base 25 67 (.slice A n c) n hs
theorem OwnH.grow {w w' : World} {base n c : Nat} {A : Option Addr} {hs : List Value} (h : OwnH w base A n c hs) (k : Grow w w') : OwnH w' base A n c hs := own_below h k
theorem OwnH.far {w w' : World} {g n c : Nat} {A : Option Addr} {hs : List Value} (h : OwnH w (g + 1) A n c hs) (k : w.grownBy w' (some g)) : OwnH w' (g + 1) A n c hs :=
  own_kept h k fun g' e he => by
    have h1 := own_from h g' (by rw [e]; rfl)
    simp only [Option.some.injEq] at he
    omega
theorem rowUp_at {ls : List (List UInt8)} {n i : Nat} (h : i < n) : (rowUp ls n)[i]? = some (rowH ls (i + 1)) := by simp [rowUp, h]
theorem OwnH.mid {w : World} {base g n c i : Nat} {ls : List (List UInt8)} (h : OwnH w base (some ⟨g, 0, none⟩) n c (hdrsV (rowUp ls n))) (hi : i < n) : ∀ j u, (hdrV (rowH ls (i + 1)))[j]? = some u → w.cell? ⟨g, 0 + i * 67 + j, none⟩ = some u := by
  intro j u hu
  have hj : j < 67 := by have := (List.getElem?_eq_some_iff.1 hu).1; rw [hdrV_length (rowH_ok _)] at this; exact this
  have hc := World.ownsRow.cellAt (show World.ownsRow _ _ _ _ _ _ _ from h) (0 + i * 67 + j) (by omega)
  rw [hc, show 0 + i * 67 + j = 67 * i + j by omega]
  exact hdrsV_at (rowUp ls n) i j _ u (fun x hx => by
    obtain ⟨q, hq⟩ := List.getElem?_of_mem hx
    have hqn : q < n := by have := (List.getElem?_eq_some_iff.1 hq).1; simpa [rowUp] using this
    rw [rowUp_at hqn] at hq
    cases hq; exact rowH_ok _) (rowUp_at hi) hu
theorem map_B_injH : ∀ {a b : List UInt8}, a.map B = b.map B → a = b
  | [], [], _ => rfl
  | [], _ :: _, h => by simp at h
  | _ :: _, [], h => by simp at h
  | x :: a, y :: b, h => by
    simp only [List.map_cons, List.cons.injEq] at h
    have h1 : x = y := by have := h.1; unfold B at this; exact b8_inj (by injection this)
    rw [h1, map_B_injH h.2]
theorem hdrV_inj {x y : Hdr} (hx : x.ok) (hy : y.ok) (h : hdrV x = hdrV y) : x = y := by
  obtain ⟨a1, a2, a3, p, r⟩ := x
  obtain ⟨b1, b2, b3, q, s⟩ := y
  have h0 : [Value.int .i64 a1, .int .i64 a2, .int .i64 a3] ++ (p.map B ++ r.map B) = [Value.int .i64 b1, .int .i64 b2, .int .i64 b3] ++ (q.map B ++ s.map B) := by
    simpa [hdrV] using h
  obtain ⟨h1, h2⟩ := List.append_inj h0 rfl
  obtain ⟨h3, h4⟩ := List.append_inj h2 (by rw [List.length_map, List.length_map]; exact hx.2.2.2.1.trans hy.2.2.2.1.symm)
  have e1 := map_B_injH h3
  have e2 := map_B_injH h4
  simp only [List.cons.injEq, Value.int.injEq, true_and, and_true] at h1
  obtain ⟨rfl, rfl, rfl⟩ := h1
  rw [e1, e2]
end Go.Proofs.YtphmefhnffoafaaDoor

/- The walk's halt at one operation: what follows is done by hand. No program in sight. -/
namespace Go.Proofs.YtphmefhnffoafaaDoor
open Go.RowKit
set_option linter.unusedVariables false
def StopT (p : Prop) : Prop := p
theorem wpl_stop {P : Program} {ops : Array Oper} {rest : List Oper} {o : Oper} {a : Act} {w : World} {Q : Exit → Act → World → Prop} (h : StopT (wpList P ops Q (o :: rest) a w)) : wpList P ops Q (o :: rest) a w := h
theorem stop_go {p : Prop} (h : p) : StopT p := h
end Go.Proofs.YtphmefhnffoafaaDoor

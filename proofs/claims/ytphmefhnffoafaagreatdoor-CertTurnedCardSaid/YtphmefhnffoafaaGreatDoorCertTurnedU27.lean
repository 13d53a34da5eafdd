/- The contract of cert.Read. -/
import Derived.Test.YtphmefhnffoafaaGreatDoorCertTurnedU26
import Derived.Test.YtphmefhnffoafaaGreatDoorCertTurnedU22
import Derived.Test.YtphmefhnffoafaaGreatDoorCertTurnedU23
set_option linter.unusedSimpArgs false
namespace Go.Proofs.YtphmefhnffoafaaGreatDoor
open Go.RowKit Go.Shelf
set_option linter.unusedVariables false
theorem idsR_errn : ∀ (n : Nat) {l : List UInt8} {x : Nat}, idsR n l = .error x → x ≠ 0
 | 0, l, x, h => by cases h
 | n + 1, l, x, h => by
  unfold idsR at h
  split at h
  ·rename_i h1; injection h with h; subst h; exact idsR_errn n h1
  ·split at h
   ·rename_i h2; injection h with h; subst h; exact takeR_err h2
   ·cases h
theorem lookC_err {l : List UInt8} {x : Nat} (h : lookC l = .error x) : x ≠ 0 := by
 unfold lookC at h
 split at h
 ·rename_i h1; injection h with h; subst h; exact textR_err h1
 split at h
 ·rename_i h1; injection h with h; subst h; exact numR_err h1
 split at h
 ·rename_i h1; injection h with h; subst h; exact idsR_errn _ h1
 split at h
 ·rename_i h1; injection h with h; subst h; exact textR_err h1
 split at h
 ·rename_i h1; injection h with h; subst h; exact takeR_err h1
 cases h
theorem readE_nz {l : List UInt8} {x : Nat} (h : readE l = .error x) : x ≠ 0 := by
 unfold readE at h
 split at h
 ·rename_i h1; injection h with h; subst h; exact lookE_err h1
 ·split at h
  ·cases h
  ·injection h with h; omega
theorem readH_nz {l : List UInt8} {x : Nat} (h : readH l = .error x) : x ≠ 0 := by
 unfold readH at h
 split at h
 ·rename_i h1; injection h with h; subst h; exact lookH_err h1
 ·split at h
  ·cases h
  ·injection h with h; omega
theorem readC_cases (l : List UInt8) : (∃ x, eyeErr (restOf (lookC l)) = x ∧ x ≠ 0 ∧ readC l = .error x) ∨ (∃ r, eyeErr (restOf (lookC l)) = 0 ∧ lookC l = .ok (r, []) ∧ readC l = readW r) := by
 cases h : lookC l with
 | error x => exact .inl ⟨x, rfl, lookC_err h, by unfold readC; rw [h]⟩
 | ok p =>
  obtain ⟨r, t⟩ := p
  cases t with
  | nil => exact .inr ⟨r, rfl, rfl, by unfold readC; rw [h]; simp⟩
  | cons a t => exact .inl ⟨3, rfl, by omega, by unfold readC; rw [h]; simp⟩
theorem readW_cases (r : Raw) : (∃ x, errOf (readE r.eb) = x ∧ x ≠ 0 ∧ readW r = .error x) ∨ (∃ e x, readE r.eb = .ok e ∧ errOf (readH r.hb) = x ∧ x ≠ 0 ∧ readW r = .error x) ∨ (∃ e h, readE r.eb = .ok e ∧ readH r.hb = .ok h ∧ readW r = .ok ⟨e, r.path, h, r.tag⟩) := by
 cases h : readE r.eb with
 | error x => exact .inl ⟨x, rfl, readE_nz h, by unfold readW; rw [h]⟩
 | ok e =>
  cases h2 : readH r.hb with
  | error x => exact .inr (.inl ⟨e, x, rfl, rfl, readH_nz h2, by unfold readW; rw [h]; simp only; rw [h2]⟩)
  | ok hh => exact .inr (.inr ⟨e, hh, rfl, rfl, by unfold readW; rw [h]; simp only; rw [h2]⟩)
theorem sl_offg {w w' : World} {A : Option Addr} {n g : Nat} {xs : List Value} (h : Sl w w.heap.size 1 A n xs) (hg : w.grownBy w' (some g)) (hA : ∀ k, A.map Addr.block = some k → g < k) : Sl w' w'.heap.size 1 A n xs := by
 refine ⟨h.1, fun hn => ?_⟩
 obtain ⟨b, off, e, hb, hc⟩ := h.2 hn
 refine ⟨b, off, e, Nat.lt_of_lt_of_le hb hg.size, fun j u hu => (World.cell?_of_block (a := ⟨b, off + j, none⟩) (hg.block b hb (fun q => by have := hA b (by rw [e]; rfl); injection q with q; omega))).trans (hc j u hu)⟩
set_option maxRecDepth 100000 in
set_option maxHeartbeats 4000000 in
theorem cread_any {A : Option Addr} {n c : Nat} {l : List UInt8} (w : World) (hs : Sl w w.heap.size 1 A n (l.map B)) (hn : n ≤ 1000000) :
  Calls Tryz.prog 12 #[.slice A n c] w fun e w' => ∃ A' n' c', e = .returned (.tuple #[.agg (certV (.slice A' n' c') (cerOf (readC l))).toArray, .int .i64 (errOf (readC l) : Int)]) ∧ Ids w' A' n' c' (cerOf (readC l)).path ∧ n' ≤ 1000 ∧ Below w.heap.size w w' := by
 have HS := kp hs
 have HCZ := kp (cert_cl (v := .slice none 0 0) rfl noCer_ok)
 have BE := kp built_certE
 obtain ⟨out, hout⟩ : ∃ q, q = readC l := ⟨_, rfl⟩
 have HOUT := kp hout
 have HN3 := kp (show (cerOf out).path.length ≤ 32 by rw [hout]; exact cerOf_path l)
 rw [← hout]
 obtain ⟨w_, hw⟩ : ∃ x, x = w := ⟨_, rfl⟩
 have HB := kp (show Below w.heap.size w w_ by rw [hw]; exact Below.refl _ _)
 suffices H : Calls Tryz.prog 12 #[.slice A n c] w_ fun e w' => ∃ A' n' c', e = .returned (.tuple #[.agg (certV (.slice A' n' c') (cerOf out)).toArray, .int .i64 (errOf out : Int)]) ∧ Ids w' A' n' c' (cerOf out).path ∧ n' ≤ 1000 ∧ Below w.heap.size w w' by rw [hw] at H; exact H
 clear hw hs hout
 obtain ⟨zc, hzc⟩ : ∃ v, v = certV (.slice none 0 0) noCer := ⟨_, rfl⟩
 have HZC := kp hzc
 have ZC := kp zero_cert
 have LC := kp len_cert
 rw [← hzc] at HCZ BE ZC LC
 clear hzc
 go_enter Tryz.func12, Tryz.ntmps12
 go_wp2_with (first | (with_reducible refine wpl_alloc (o := ⟨some 2, _, _, _, _, _⟩) rfl rfl ZC.out ?_))
 intro w2_ hb2_ hb_ hsz2_
 have HV := kp (at_mk hb2_ LC.out)
 have HVG := kp HB.out.size
 generalize hg_ : w_.heap.size = g2 at HV HVG ⊢
 clear hb2_ hsz2_ hg_
 have hb_ := hb_
 clear hb_
 replace HB := kp (HB.out.grow' hb_)
 clear hb_
 try clear w_
 rename World => w_
 go_wp2_with (first | (with_reducible refine wpl_alloc (o := ⟨some 4, _, _, _, _, _⟩) rfl rfl ZC.out ?_))
 intro w2_ hb2_ hb_ hsz2_
 have HH := kp (at_mk hb2_ LC.out)
 have HLT := kp HV.out.lt
 generalize hg_ : w_.heap.size = g4 at HH HLT ⊢
 clear hb2_ hsz2_ hg_
 have hb_ := hb_
 clear hb_
 replace HB := kp (HB.out.grow' hb_)
 replace HV := kp (HV.out.grow hb_)
 clear hb_
 try clear w_
 rename World => w_
 go_wp2_with fail
 generalize hw1 : World.alloc w_ _ = w1_
 obtain ⟨hX1, hb1, hs1⟩ := alloc_eq hw1
 generalize hw2 : World.alloc w1_ _ = w2_
 obtain ⟨hX2, hb2, hs2⟩ := alloc_eq hw2
 have HX1 := kp (hX1.grow hb2)
 rw [hs1] at hX2 hs2
 have HX2 := kp hX2
 have hb_ := Grow.trans _ _ _ hb1 hb2
 have H45 := kp HH.out.lt
 have HSZ := kp hs2
 generalize hg_ : w_.heap.size = g5 at HX1 HX2 H45 HSZ ⊢
 clear hX1 hX2 hb1 hb2 hs1 hs2 hw1 hw2 hg_
 have hb_ := hb_
 clear hb_
 replace HB := kp (HB.out.grow' hb_)
 replace HV := kp (HV.out.grow hb_)
 replace HH := kp (HH.out.grow hb_)
 clear hb_
 try clear w_
 rename World => w_
 refine (fread2_any A n c l 39 #[.pointer (some ⟨g5, 0, none⟩), .pointer (some ⟨g4, 0, none⟩), .pointer (some ⟨g5 + 1, 0, none⟩)] (restOf (lookC l)) (fun w2 => Below g4 w_ w2 ∧ ∀ r t, lookC l = .ok (r, t) → CGot w2 (w_.heap.size + 1) g4 g5 (g5 + 1) r) _ (HS.out.grow HB.out) hn (fun _ _ => rfl) (fun w1 Bd g hw hg he => (cread1_any w_ w1 ⟨H45.out, by omega, by have := HSZ.out; omega, by have := he.lo; omega, by have := he.lo; have := he.lt; omega, he.lt, hw⟩ (by rw [← HZC.out]; exact HH.out.blk) HX1.out HX2.out he).mono fun e w2 h => ⟨h.1, h.2.1, h.2.2.1, h.2.2.2⟩)).mono ?_
 rintro e w5_ ⟨rfl, w2_, ⟨hlow, hgot⟩, hgr⟩
 have HV_ := kp (show At w5_ g2 35 137 zc from ⟨(hgr.block g2 (Nat.lt_of_lt_of_le (by have := HLT.out; have := HH.out.lt; omega) hlow.size) (fun e => by injection e with e; have := HLT.out; have := HH.out.lt; omega)).trans ((hlow.block g2 HLT.out).trans HV.out.blk), HV.out.len⟩)
 have HB_ := kp (show Below w.heap.size w w5_ from ⟨hgr.os.trans (hlow.os.trans HB.out.os), hgr.tape.trans (hlow.tape.trans HB.out.tape), hgr.output.trans (hlow.output.trans HB.out.output), Nat.le_trans HB.out.size (Nat.le_trans hlow.size hgr.size), fun k hk => by
  have h1 := HVG.out; have h2 := HLT.out; have h3 := HH.out.lt
  exact (hgr.block k (by have := hlow.size; omega) (fun e => by injection e with e; omega)).trans ((hlow.block k (by omega)).trans (HB.out.block k hk))⟩)
 have HGOT := kp (show ∀ r t, lookC l = .ok (r, t) → CGot w5_ (g5 + 2) g4 g5 (g5 + 1) r from fun r t h => by
  obtain ⟨A1, n1, c1, A5, c5, A6, c6, k1, k2, k3, k4, k5, k6, k7, k8, k9⟩ := hgot r t h
  have h3 := HH.out.lt; have h4 := HSZ.out; have h5 := H45.out
  refine ⟨A1, n1, c1, A5, c5, A6, c6, k1.grown hgr (fun e => by injection e with e; omega), k2.off hgr (fun k hk => by have := k3 k hk; omega), (fun k hk => by have := k3 k hk; omega), k4.grown hgr (fun e => by injection e with e; omega), sl_offg k5 hgr (fun k hk => by have := k6 k hk; omega), (fun k hk => by have := k6 k hk; omega), k7.grown hgr (fun e => by injection e with e; omega), sl_offg k8 hgr (fun k hk => by have := k9 k hk; omega), (fun k hk => by have := k9 k hk; omega)⟩)
 clear hlow hgot hgr HV HB HX1 HX2 HSZ HH
 have HV := HV_; have HB := HB_
 clear HV_ HB_
 try clear w2_
 try clear w_
 rename World => w_
 have HW0 := kp (show ∀ er : Nat, er ≠ 0 → out = .error er → cerOf out = noCer ∧ errOf out = er from fun er h0 h1 => by rw [h1]; exact ⟨rfl, rfl⟩)
 rcases readC_cases l with ⟨er, her, her0, hrd⟩ | ⟨r, her, hlk, hrd⟩
 ·rw [her]
  rw [← HOUT.out] at hrd
  obtain ⟨h1, h2⟩ := HW0.out er her0 hrd
  have HF1 := kp h1; have HF2 := kp h2
  have d0 : ((er : Int) == 0) = false := by simp; omega
  have d1 : ((er : Int) != 0) = true := by simp; omega
  clear her her0 hrd h1 h2
  go_wp2_with (first | (with_reducible refine wpl_stop (o := ⟨some 29, _, _, _, _, _⟩) ?_))
  refine stop_go ?_
  refine wpl_build rfl rfl BE.out ?_
  go_wp2_with (first | (with_reducible refine wpl_storeb (o := ⟨none, .store _ _ _, _, _, _, _⟩) rfl rfl row_cert HV.out.blk rfl rfl HV.out.len HCZ.out.len HCZ.out.one ?_))
  intro w2_ hb2_ hg2_ hsz2_
  have HV_ := kp hb2_
  have HB_ := kp (put_below HB.out HVG.out hg2_)
  clear hb2_ hg2_ hsz2_
  go_wp2_with fail
  refine ret_cell2 rfl row_cert HV_.out rfl HCZ.out.len rfl rfl ?_
  exact ⟨none, 0, 0, by rw [HF1.out, HF2.out, HZC.out]; rfl, by rw [HF1.out]; exact Ids.none_ _, by omega, HB_.out⟩
 ·rw [her]
  rw [← HOUT.out] at hrd
  obtain ⟨A1, n1, c1, A5, c5, A6, c6, k1, k2, k3, k4, k5, k6, k7, k8, k9⟩ := HGOT.out r [] hlk
  have hlk2 := lookC_ok hlk
  have HOK0 := kp (show (⟨noEnt, r.path, noHdr, r.tag⟩ : Cer).ok from ⟨noEnt_ok, hlk2.2.2.2.1, noHdr_ok, hlk2.2.2.2.2⟩)
  have HH := kp k1; have HI := kp k2; have HAI := kp k3; have HB5 := kp k4; have HS5 := kp k5; have HA5 := kp k6; have HB6 := kp k7; have HS6 := kp k8; have HA6 := kp k9
  have HL5 := kp hlk2.1; have HL6 := kp hlk2.2.1
  have HN1 := kp (show n1 ≤ 32 by rw [← k2.2.1]; exact hlk2.2.2.1)
  have HRD := kp hrd
  clear k1 k2 k3 k4 k5 k6 k7 k8 k9 hlk hlk2 her hrd HGOT
  have c5 := HB5.out.at_ (i := 0) rfl
  go_wp2_with fail
  refine (eread_any _ HS5.out (by have := HL5.out; omega)).mono ?_
  rintro e w2_ ⟨rfl, hb_⟩
  clear c5 HS5 HB5
  replace HI := kp (HI.out.grow hb_)
  replace HB6 := kp (HB6.out.grow hb_)
  replace HS6 := kp (HS6.out.grow hb_)
  replace HV := kp (HV.out.grow hb_)
  replace HH := kp (HH.out.grow hb_)
  replace HB := kp (HB.out.grow' hb_)
  clear hb_
  try clear w_
  rename World => w_
  obtain ⟨ee, hee⟩ : ∃ q, q = entOf (readE r.eb) := ⟨_, rfl⟩
  have HEE := kp hee
  have HEO := kp (show ee.ok by rw [hee]; exact entOf_ok _)
  have HEC := kp (ent_cl HEO.out)
  have HSPL := kp (splice_c1 (v := .slice A1 n1 c1) HOK0.out HEO.out)
  have HOK1 := kp (show (⟨ee, r.path, noHdr, r.tag⟩ : Cer).ok from ⟨HEO.out, HOK0.out.2.1, noHdr_ok, HOK0.out.2.2.2⟩)
  obtain ⟨er, her⟩ : ∃ q, q = errOf (readE r.eb) := ⟨_, rfl⟩
  have HER := kp her
  rw [← hee, ← her]
  obtain ⟨ev, hev⟩ : ∃ q, q = entV ee := ⟨_, rfl⟩
  rw [← hev] at HEC HSPL ⊢
  clear hee her hev
  have hcl := certV_len (v := .slice A1 n1 c1) HOK0.out
  go_wp2_with (first | (with_reducible refine wpl_storem (o := ⟨none, .store _ _ _, _, _, _, _⟩) (off := 0) rfl rfl row_entry HH.out rfl rfl HEC.out.len (by rw [hcl]; omega) HEC.out.one ?_))
  intro w2_ hb2_ hg_ hsz2_
  replace HI := kp (HI.out.off hg_ (fun k hk => by have := HAI.out k hk; have := H45.out; omega))
  replace HB6 := kp (HB6.out.grown hg_ (fun e => by injection e with e; have := H45.out; omega))
  replace HS6 := kp (sl_offg HS6.out hg_ (fun k hk => by have := HA6.out k hk; have := H45.out; omega))
  replace HV := kp (At.off HV.out hg_ (Nat.ne_of_lt HLT.out))
  replace HH := kp (show Blk w2_ g4 35 (certV (.slice A1 n1 c1) ⟨ee, r.path, noHdr, r.tag⟩) by rw [HSPL.out] at hb2_; exact hb2_)
  replace HB := kp (put_below HB.out (Nat.le_trans HVG.out (Nat.le_of_lt HLT.out)) hg_)
  clear hb2_ hg_ hsz2_ hcl HSPL
  try clear w_
  rename World => w_
  by_cases he0 : er = 0
  ·subst he0
   have c6 := HB6.out.at_ (i := 0) rfl
   go_wp2_with fail
   refine (hread_any _ HS6.out (by have := HL6.out; omega)).mono ?_
   rintro e w2_ ⟨rfl, hb_⟩
   clear c6 HS6 HB6
   replace HI := kp (HI.out.grow hb_)
   replace HV := kp (HV.out.grow hb_)
   replace HH := kp (HH.out.grow hb_)
   replace HB := kp (HB.out.grow' hb_)
   clear hb_
   try clear w_
   rename World => w_
   obtain ⟨hh, hhh⟩ : ∃ q, q = hdrOf (readH r.hb) := ⟨_, rfl⟩
   have HHE := kp hhh
   have HHO := kp (show hh.ok by rw [hhh]; exact hdrOf_ok _)
   have HHC := kp (hdr_cl HHO.out)
   have HSPL := kp (splice_c3 (v := .slice A1 n1 c1) HOK1.out HHO.out)
   have HOK2 := kp (show (⟨ee, r.path, hh, r.tag⟩ : Cer).ok from ⟨HEO.out, HOK0.out.2.1, HHO.out, HOK0.out.2.2.2⟩)
   obtain ⟨ex, hex⟩ : ∃ q, q = errOf (readH r.hb) := ⟨_, rfl⟩
   have HEX := kp hex
   rw [← hhh, ← hex]
   obtain ⟨hv, hhv⟩ : ∃ q, q = hdrV hh := ⟨_, rfl⟩
   rw [← hhv] at HHC HSPL ⊢
   clear hhh hex hhv
   have hcl := certV_len (v := .slice A1 n1 c1) HOK1.out
   go_wp2_with (first | (with_reducible refine wpl_storem (o := ⟨none, .store _ _ _, _, _, _, _⟩) (off := 38) rfl rfl row_header HH.out rfl rfl HHC.out.len (by rw [hcl]; omega) HHC.out.one ?_))
   intro w2_ hb2_ hg_ hsz2_
   replace HI := kp (HI.out.off hg_ (fun k hk => by have := HAI.out k hk; have := H45.out; omega))
   replace HV := kp (At.off HV.out hg_ (Nat.ne_of_lt HLT.out))
   replace HH := kp (show Blk w2_ g4 35 (certV (.slice A1 n1 c1) ⟨ee, r.path, hh, r.tag⟩) by rw [HSPL.out] at hb2_; exact hb2_)
   replace HB := kp (put_below HB.out (Nat.le_trans HVG.out (Nat.le_of_lt HLT.out)) hg_)
   clear hb2_ hg_ hsz2_ hcl HSPL
   try clear w_
   rename World => w_
   have HSOK := kp (show ex = 0 → out = .ok ⟨ee, r.path, hh, r.tag⟩ from fun h0 => by
    rcases readW_cases r with ⟨x, h1, h2, h3⟩ | ⟨e, x, h1, h2, h3, h4⟩ | ⟨e, h, h1, h2, h3⟩
    ·exact absurd (h1.symm.trans HER.out.symm) (fun h => h2 h)
    ·exact absurd ((h2.symm.trans HEX.out.symm).trans h0) h3
    ·rw [HRD.out, h3, HEE.out, HHE.out, h1, h2]; rfl)
   have HSNO := kp (show ex ≠ 0 → out = .error ex from fun h0 => by
    rcases readW_cases r with ⟨x, h1, h2, h3⟩ | ⟨e, x, h1, h2, h3, h4⟩ | ⟨e, h, h1, h2, h3⟩
    ·exact absurd (h1.symm.trans HER.out.symm) (fun h => h2 h)
    ·rw [HRD.out, h4, HEX.out, h2]
    ·exact absurd (HEX.out.trans (by rw [h2]; rfl)) h0)
   by_cases hx0 : ex = 0
   ·have hok := HSOK.out hx0
    subst hx0
    have HCL := kp (cert_cl (v := .slice A1 n1 c1) rfl HOK2.out)
    have HFIN := kp (show cerOf out = ⟨ee, r.path, hh, r.tag⟩ ∧ errOf out = 0 by rw [hok]; exact ⟨rfl, rfl⟩)
    obtain ⟨cv, hcv⟩ : ∃ q, q = certV (.slice A1 n1 c1) ⟨ee, r.path, hh, r.tag⟩ := ⟨_, rfl⟩
    have HCV := kp hcv
    rw [← hcv] at HH HCL
    clear hok hcv
    go_wp2_with (first | (with_reducible refine wpl_loadb (o := ⟨some 31, _, _, _, _, _⟩) rfl rfl row_cert HH.out rfl HCL.out.len ?_) | (with_reducible refine wpl_storeb (o := ⟨none, .store _ _ _, _, _, _, _⟩) rfl rfl row_cert HV.out.blk rfl rfl HV.out.len HCL.out.len HCL.out.one ?_))
    intro w2_ hb2_ hg2_ hsz2_
    have HV_ := kp hb2_
    have HI_ := kp (HI.out.off hg2_ (fun k hk => by have := HAI.out k hk; have := H45.out; have := HLT.out; omega))
    have HB_ := kp (put_below HB.out HVG.out hg2_)
    clear hb2_ hg2_ hsz2_
    go_wp2_with fail
    refine ret_cell2 rfl row_cert HV_.out rfl HCL.out.len rfl rfl ?_
    exact ⟨A1, n1, c1, by rw [HFIN.out.1, HFIN.out.2, ← HCV.out]; rfl, by rw [HFIN.out.1]; exact HI_.out, by have := HN1.out; omega, HB_.out⟩
   ·have hno := HSNO.out hx0
    obtain ⟨h1, h2⟩ := HW0.out ex hx0 hno
    have HF1 := kp h1; have HF2 := kp h2
    have d0 : ((ex : Int) == 0) = false := by simp; omega
    have d1 : ((ex : Int) != 0) = true := by simp; omega
    clear hno h1 h2 hx0
    go_wp2_with (first | (with_reducible refine wpl_stop (o := ⟨some 29, _, _, _, _, _⟩) ?_))
    refine stop_go ?_
    refine wpl_build rfl rfl BE.out ?_
    go_wp2_with (first | (with_reducible refine wpl_storeb (o := ⟨none, .store _ _ _, _, _, _, _⟩) rfl rfl row_cert HV.out.blk rfl rfl HV.out.len HCZ.out.len HCZ.out.one ?_))
    intro w2_ hb2_ hg2_ hsz2_
    have HV_ := kp hb2_
    have HB_ := kp (put_below HB.out HVG.out hg2_)
    clear hb2_ hg2_ hsz2_
    go_wp2_with fail
    refine ret_cell2 rfl row_cert HV_.out rfl HCZ.out.len rfl rfl ?_
    exact ⟨none, 0, 0, by rw [HF1.out, HF2.out, HZC.out]; rfl, by rw [HF1.out]; exact Ids.none_ _, by omega, HB_.out⟩
  ·have hno : out = .error er := by
    rcases readW_cases r with ⟨x, h1, h2, h3⟩ | ⟨e, x, h1, h2, h3, h4⟩ | ⟨e, h, h1, h2, h3⟩
    ·rw [HRD.out, h3, HER.out, h1]
    ·exact absurd (HER.out.trans (by rw [h1]; rfl)) he0
    ·exact absurd (HER.out.trans (by rw [h1]; rfl)) he0
   obtain ⟨h1, h2⟩ := HW0.out er he0 hno
   have HF1 := kp h1; have HF2 := kp h2
   have d0 : ((er : Int) == 0) = false := by simp; omega
   have d1 : ((er : Int) != 0) = true := by simp; omega
   clear hno h1 h2 he0
   go_wp2_with (first | (with_reducible refine wpl_stop (o := ⟨some 29, _, _, _, _, _⟩) ?_))
   refine stop_go ?_
   refine wpl_build rfl rfl BE.out ?_
   go_wp2_with (first | (with_reducible refine wpl_storeb (o := ⟨none, .store _ _ _, _, _, _, _⟩) rfl rfl row_cert HV.out.blk rfl rfl HV.out.len HCZ.out.len HCZ.out.one ?_))
   intro w2_ hb2_ hg2_ hsz2_
   have HV_ := kp hb2_
   have HB_ := kp (put_below HB.out HVG.out hg2_)
   clear hb2_ hg2_ hsz2_
   go_wp2_with fail
   refine ret_cell2 rfl row_cert HV_.out rfl HCZ.out.len rfl rfl ?_
   exact ⟨none, 0, 0, by rw [HF1.out, HF2.out, HZC.out]; rfl, by rw [HF1.out]; exact Ids.none_ _, by omega, HB_.out⟩
theorem upto_id {l : List UInt8} {i : Nat} {x : UInt8} {k n : Int} {b : Value} (hl : 32 ≤ l.length) (hi : i < 32) (hx : l[i]? = some x) (f : List UInt8 → List Value) (hf : ∀ d, f d = fieldV k n b d) (e : Int) (left : Value) :
  (gotV (f (l.take i ++ List.replicate (32 - i) 0)) e left).set (3 + i) (B x) = gotV (f (l.take (i + 1) ++ List.replicate (32 - (i + 1)) 0)) e left := by
 rw [hf, hf]
 have h0 : (l.take i).length = i := by rw [List.length_take]; omega
 have hr : List.replicate (32 - i) (0 : UInt8) = 0 :: List.replicate (32 - (i + 1)) 0 := by rw [show 32 - i = (32 - (i + 1)) + 1 by omega, List.replicate_succ]
 have e1 : gotV (fieldV k n b (l.take i ++ List.replicate (32 - i) 0)) e left = ([.int .i64 k, .int .u64 n, b] ++ (l.take i).map B) ++ (B 0 :: ((List.replicate (32 - (i + 1)) 0).map B ++ [.int .i64 e, left])) := by
  rw [hr]; simp [gotV, fieldV]
 have e2 : gotV (fieldV k n b (l.take (i + 1) ++ List.replicate (32 - (i + 1)) 0)) e left = ([.int .i64 k, .int .u64 n, b] ++ (l.take i).map B) ++ (B x :: ((List.replicate (32 - (i + 1)) 0).map B ++ [.int .i64 e, left])) := by
  rw [take_snoc hx]; simp [gotV, fieldV]
 have hp : ([.int .i64 k, .int .u64 n, b] ++ (l.take i).map B).length = 3 + i := by simp [h0]; omega
 rw [e1, e2, ← hp]
 simp
set_option maxRecDepth 100000 in
set_option maxHeartbeats 4000000 in
theorem rtake_id {Bd : Nat} {A : Option Addr} {n c : Nat} {l : List UInt8} {m : Int} (w : World) (hs : Sl w Bd 1 A n (l.map B)) (hbd : Bd ≤ w.heap.size) (hc : n ≤ c) (hn : n ≤ 1000000) :
  Calls Tryz.prog 30 #[.slice A n c, .agg (fieldV 2 m nilS zeroD).toArray] w fun e w' => GotR (takeR 32 l) idF Bd w w' e := by
 have HS := kp hs
 have HBD := kp hbd
 clear hbd
 have hln : l.length = n := by have := hs.len; simpa using this
 have HLN := kp hln
 have HFC := kp (show Cl 35 (fieldV 2 m nilS zeroD) from fieldV_cl rfl (by simp [zeroD]))
 have IF := kp (show (fieldV 2 m nilS zeroD)[0]? = some (.int .i64 2) from rfl)
 obtain ⟨fv, hfv⟩ : ∃ v, v = fieldV 2 m nilS zeroD := ⟨_, rfl⟩
 rw [← hfv] at HFC IF ⊢
 obtain ⟨nf, hnf⟩ : ∃ v, v = noF := ⟨_, rfl⟩
 obtain ⟨z0, hz0⟩ : ∃ v, v = gotV noF 0 nilS := ⟨_, rfl⟩
 obtain ⟨gz, hgz⟩ : ∃ v, v = gotV noF 2 nilS := ⟨_, rfl⟩
 have HGZ := kp (show Cl 37 gz by rw [hgz]; exact gotV_cl noF_cl rfl)
 have TE := kp (show Tryz.prog.built 75 [(1, .int .i64 2)] = some gz.toArray by rw [hgz]; exact bt_gote)
 have HZE := kp hgz
 obtain ⟨w_, hw⟩ : ∃ x, x = w := ⟨_, rfl⟩
 have HB := kp (show Below w.heap.size w w_ by rw [hw]; exact Below.refl _ _)
 suffices H : Calls Tryz.prog 30 #[.slice A n c, .agg fv.toArray] w_ fun e w' => GotR (takeR 32 l) idF Bd w w' e by rw [hw] at H; exact H
 clear hw hs hln hfv hnf hz0 hgz
 by_cases h32 : n < 32
 ·have d1 : decide ((n : Int) < 32) = true := by simp; omega
  go_enter Tryz.func30, Tryz.ntmps30
  go_wp2_with (first | (with_reducible refine wpl_box (o := ⟨some 3, _, _, _, _, _⟩) rfl rfl rfl ?_))
  intro w2_ hb2_ hb_ hsz2_
  have HX_ := kp (at_mk hb2_ HFC.out.len)
  clear hb2_ hsz2_
  have HG_ := kp HB.out.size
  replace HB := kp (HB.out.grow' hb_)
  generalize hg_ : w_.heap.size = g3 at HX_ HG_ ⊢
  clear hg_
  have HF_g := HG_
  clear HG_
  have HF := HX_
  clear hb_ HX_
  try clear w_
  rename World => w_
  go_wp2_with (first | (with_reducible refine wpl_alloc (o := ⟨some 4, _, _, _, _, _⟩) rfl rfl zero_got ?_))
  intro w2_ hb2_ hb_ hsz2_
  have HX_ := kp (at_mk hb2_ len_got)
  clear hb2_ hsz2_
  have HG_ := kp HB.out.size
  replace HB := kp (HB.out.grow' hb_)
  replace HF := kp (HF.out.grow hb_)
  generalize hg_ : w_.heap.size = g4 at HX_ HG_ ⊢
  clear hg_
  have HV_g := HG_
  clear HG_
  have HV := HX_
  clear hb_ HX_
  try clear w_
  rename World => w_
  have c0 := HF.out.blk.at_ IF.out
  go_wp2_with (first | (with_reducible refine wpl_stop (o := ⟨some 17, _, _, _, _, _⟩) ?_))
  refine stop_go ?_
  refine wpl_build rfl rfl TE.out ?_
  go_wp2_with (first | (with_reducible refine wpl_storeb (o := ⟨none, .store _ _ _, _, _, _, _⟩) rfl rfl row_got HV.out.blk rfl rfl HV.out.len HGZ.out.len HGZ.out.one ?_))
  intro w2_ hb2_ hg2_ hsz2_
  replace HB := kp (put_below HB.out HV_g.out hg2_)
  replace HV := kp (at_mk hb2_ HGZ.out.len)
  clear hb2_ hg2_ hsz2_
  try clear w_
  rename World => w_
  clear c0
  go_wp2_with fail
  refine ret_cell rfl row_got HV.out.blk rfl HV.out.len rfl ?_
  exact .err (x := 2) (by unfold takeR; rw [if_neg (by have := HLN.out; omega)]) (by rw [HZE.out]; rfl) HB.out
 ·have d1 : decide ((n : Int) < 32) = false := by simp; omega
  obtain ⟨b, off, hA, hb, hcell⟩ := HS.out.2 (by omega)
  subst hA
  have HCELL := kp hcell
  have HC := kp hc
  clear hcell hb
  by_cases h : c = 32
  ·subst h
   obtain rfl : n = 32 := by omega
   have HF2 := kp (show Cl 35 (fieldV 2 0 nilS zeroD) from fieldV_cl rfl (by simp [zeroD]))
   have TF := kp (bt_fldk (k := 2))
   have TG := kp (bt_got (A := (some ⟨b, off, none⟩)) (n := 0) (c := 0) HF2.out)
   obtain ⟨f2, hf2⟩ : ∃ v, v = fieldV 2 0 nilS zeroD := ⟨_, rfl⟩
   rw [← hf2] at HF2 TF TG
   obtain ⟨g2, hg2⟩ : ∃ v, v = gotV f2 0 (.slice (some ⟨b, off, none⟩) 0 0) := ⟨_, rfl⟩
   have HG2 := kp (show Cl 37 g2 by rw [hg2]; exact gotV_cl HF2.out rfl)
   have HG2E := kp (show g2 = gotV (fieldV 2 0 nilS (l.take 0 ++ List.replicate (32 - 0) 0)) 0 (.slice (some ⟨b, off, none⟩) 0 0) by rw [hg2, hf2]; rfl)
   rw [← hg2] at TG
   clear hf2 hg2
   go_enter Tryz.func30, Tryz.ntmps30
   go_wp2_with (first | (with_reducible refine wpl_box (o := ⟨some 3, _, _, _, _, _⟩) rfl rfl rfl ?_))
   intro w2_ hb2_ hb_ hsz2_
   have HX_ := kp (at_mk hb2_ HFC.out.len)
   clear hb2_ hsz2_
   have HG_ := kp HB.out.size
   replace HB := kp (HB.out.grow' hb_)
   generalize hg_ : w_.heap.size = g3 at HX_ HG_ ⊢
   clear hg_
   have HF_g := HG_
   clear HG_
   have HF := HX_
   clear hb_ HX_
   try clear w_
   rename World => w_
   go_wp2_with (first | (with_reducible refine wpl_alloc (o := ⟨some 4, _, _, _, _, _⟩) rfl rfl zero_got ?_))
   intro w2_ hb2_ hb_ hsz2_
   have HX_ := kp (at_mk hb2_ len_got)
   clear hb2_ hsz2_
   have HG_ := kp HB.out.size
   replace HB := kp (HB.out.grow' hb_)
   replace HF := kp (HF.out.grow hb_)
   generalize hg_ : w_.heap.size = g4 at HX_ HG_ ⊢
   clear hg_
   have HV_g := HG_
   clear HG_
   have HV := HX_
   clear hb_ HX_
   try clear w_
   rename World => w_
   have c0 := HF.out.blk.at_ IF.out
   go_wp2_with (first | (with_reducible refine wpl_stop (o := ⟨some 18, _, _, _, _, _⟩) ?_))
   refine stop_go ?_
   refine wpl_build rfl rfl TF.out ?_
   go_wp2_with (first | (with_reducible refine wpl_stop (o := ⟨some 21, _, _, _, _, _⟩) ?_))
   refine stop_go ?_
   refine wpl_build rfl rfl TG.out ?_
   go_wp2_with (first | (with_reducible refine wpl_alloc (o := ⟨some 5, _, _, _, _, _⟩) rfl rfl zero_got ?_))
   intro w2_ hb2_ hb_ hsz2_
   obtain ⟨g5, hg5⟩ : ∃ q, q = w_.heap.size := ⟨_, rfl⟩
   have H5 := kp (at_mk hb2_ len_got)
   have H5_g := kp HB.out.size
   rw [← hg5] at H5 H5_g ⊢
   have H54 := kp (show g5 ≠ g4 by have := HV.out.lt; omega)
   clear hb2_ hsz2_ hg5 c0
   replace HB := kp (HB.out.grow' hb_)
   replace HV := kp (HV.out.grow hb_)
   clear HF hb_
   try clear w_
   rename World => w_
   go_wp2_with (first | (with_reducible refine wpl_storeb (o := ⟨none, .store _ _ _, _, _, _, _⟩) rfl rfl row_got H5.out.blk rfl rfl H5.out.len HG2.out.len HG2.out.one ?_))
   intro w2_ hb2_ hg2_ hsz2_
   have HB_ := kp (put_below HB.out H5_g.out hg2_)
   have HV_ := kp (show At w2_ g4 75 37 (gotV noF 0 nilS) from ⟨Blk.grown HV.out.blk hg2_ (fun e => H54.out (by injection e with e; exact e.symm)), HV.out.len⟩)
   have H5_ := kp (at_mk hb2_ HG2.out.len)
   rw [HG2E.out] at H5_
   clear hb2_ hg2_ hsz2_ HB HV H5 HG2
   go_wp2_with fail
   go_loopw [6] (fun iv wr => ∃ i : Nat, i ≤ 32 ∧ iv = .int .i64 i ∧ Hid (At wr g5 75 37 (gotV (fieldV 2 0 nilS (l.take i ++ List.replicate (32 - i) 0)) 0 (.slice (some ⟨b, off, none⟩) 0 0)) ∧ At wr g4 75 37 (gotV noF 0 nilS) ∧ Below w.heap.size w wr)) (fun iv _ => 32 - (intOf iv).toNat)
   case atStart => exact ⟨0, by omega, rfl, kp ⟨H5_.out, HV_.out, HB_.out⟩⟩
   case round =>
    obtain ⟨i, hi, rfl, hI⟩ := hrel
    have H5 := kp hI.out.1; have HV := kp hI.out.2.1; have HB := kp hI.out.2.2
    clear hI H5_ HV_ HB_
    by_cases hlt : i < 32
    ·obtain ⟨x, hx⟩ : ∃ x, l[i]? = some x := ⟨l[i]'(by have := HLN.out; omega), List.getElem?_eq_getElem _⟩
     have hbc := bcell HB.out (HCELL.out i (B x) (by rw [List.getElem?_map, hx]; rfl))
     have HX := kp (upto_id (by have := HLN.out; omega) hlt hx (fun d => fieldV 2 0 nilS d) (fun d => rfl) 0 (.slice (some ⟨b, off, none⟩) 0 0))
     have v3 : IntKind.i64.wrap ((i : Int) + 1) = (i : Int) + 1 := IntWalk.i64_in _ (by omega)
     have v4 : RowKit.wrap64 ((i : Int) + 1) = (i : Int) + 1 := wrap64_in _ (by omega)
     obtain ⟨bx, hbx⟩ : ∃ v, v = B x := ⟨_, rfl⟩
     have HCE := kp (show bx.cells = #[bx] ∧ bx.oneCell' = true by rw [hbx]; exact ⟨rfl, rfl⟩)
     rw [← hbx] at hbc HX
     clear hbx hx
     go_wp2_with (first | (refine wpl_store1 (o := ⟨none, .store _ _ _, _, _, _, _⟩) rfl rfl H5.out.blk rfl rfl (by kernel_rfl) HCE.out.1 HCE.out.2 (by first | (rw [H5.out.len]; omega) | fail) ?_))
     intro w2_ hb2_ hg2_ hsz2_
     have HB_ := kp (put_below HB.out H5_g.out hg2_)
     have HV_ := kp (show At w2_ g4 75 37 (gotV noF 0 nilS) from ⟨Blk.grown HV.out.blk hg2_ (fun e => H54.out (by injection e with e; exact e.symm)), HV.out.len⟩)
     have H5_ := kp (show At w2_ g5 75 37 (gotV (fieldV 2 0 nilS (l.take (i + 1) ++ List.replicate (32 - (i + 1)) 0)) 0 (.slice (some ⟨b, off, none⟩) 0 0)) from at_mk (by rw [← HX.out]; exact hb2_) (by rw [← HX.out, List.length_set]; exact H5.out.len))
     clear hb2_ hg2_ hsz2_ HB HV H5
     go_wp2_with fail
     go_roundw
     case rel => exact ⟨i + 1, by omega, by go_num, kp ⟨H5_.out, HV_.out, HB_.out⟩⟩
     case measure => simp [intOf]; omega
    ·obtain rfl : i = 32 := by omega
     rename World => w_
     have HH5 := kp (show At w_ g5 75 37 (gotV (fieldV 2 0 nilS (l.take 32)) 0 (.slice (some ⟨b, off, none⟩) 0 0)) by have h := H5.out; simp only [Nat.sub_self, List.replicate_zero, List.append_nil] at h; exact h)
     have HCF := kp (show Cl 35 (fieldV 2 0 nilS (l.take 32)) from fieldV_cl rfl (by rw [List.length_take]; have := HLN.out; omega))
     have HCO := kp (show Cl 37 (gotV (fieldV 2 0 nilS (l.take 32)) 0 (.slice (some ⟨b, off, none⟩) 0 0)) from gotV_cl HCF.out rfl)
     obtain ⟨ov, hov⟩ : ∃ v, v = gotV (fieldV 2 0 nilS (l.take 32)) 0 (.slice (some ⟨b, off, none⟩) 0 0) := ⟨_, rfl⟩
     have HOV := kp hov
     rw [← hov] at HH5 HCO
     clear hov H5
     go_wp2_with (first | (with_reducible refine wpl_loadb (o := ⟨some 34, _, _, _, _, _⟩) rfl rfl row_got HH5.out.blk rfl HH5.out.len ?_) | (with_reducible refine wpl_storeb (o := ⟨none, .store _ _ _, _, _, _, _⟩) rfl rfl row_got HV.out.blk rfl rfl HV.out.len HCO.out.len HCO.out.one ?_))
     intro w2_ hb2_ hg2_ hsz2_
     have HB_ := kp (put_below HB.out HV_g.out hg2_)
     have HV_ := kp (at_mk hb2_ HCO.out.len)
     clear hb2_ hg2_ hsz2_ HB HV HH5
     go_wp2_with fail
     refine ret_cell rfl row_got HV_.out.blk rfl HV_.out.len rfl ?_
     have hdl : (l.drop 32).length = 0 := by rw [List.length_drop, HLN.out]
     refine .ok (v := l.take 32) (t := l.drop 32) (A := (some ⟨b, off, none⟩)) (c := 0) (by unfold takeR; rw [if_pos (by have := HLN.out; omega)]) (by rw [HOV.out, hdl]) HCF.out rfl ?_ (by rw [hdl]; omega) HB_.out
     rw [hdl, List.map_drop]
     have h9 := (HS.out.from1 (k := 32) (by omega) HC.out).below (HB_.out.mono HBD.out)
     exact (by simpa using h9)
  ·have hcf : (c = 32) = False := eq_false h
   have v1 : ((n : Int) - 32).toNat = n - 32 := by omega
   have HF2 := kp (show Cl 35 (fieldV 2 0 nilS zeroD) from fieldV_cl rfl (by simp [zeroD]))
   have TF := kp (bt_fldk (k := 2))
   have TG := kp (bt_got (A := (some ⟨b, off + 32, none⟩)) (n := (n - 32)) (c := (c - 32)) HF2.out)
   obtain ⟨f2, hf2⟩ : ∃ v, v = fieldV 2 0 nilS zeroD := ⟨_, rfl⟩
   rw [← hf2] at HF2 TF TG
   obtain ⟨g2, hg2⟩ : ∃ v, v = gotV f2 0 (.slice (some ⟨b, off + 32, none⟩) (n - 32) (c - 32)) := ⟨_, rfl⟩
   have HG2 := kp (show Cl 37 g2 by rw [hg2]; exact gotV_cl HF2.out rfl)
   have HG2E := kp (show g2 = gotV (fieldV 2 0 nilS (l.take 0 ++ List.replicate (32 - 0) 0)) 0 (.slice (some ⟨b, off + 32, none⟩) (n - 32) (c - 32)) by rw [hg2, hf2]; rfl)
   rw [← hg2] at TG
   clear hf2 hg2
   go_enter Tryz.func30, Tryz.ntmps30
   go_wp2_with (first | (with_reducible refine wpl_box (o := ⟨some 3, _, _, _, _, _⟩) rfl rfl rfl ?_))
   intro w2_ hb2_ hb_ hsz2_
   have HX_ := kp (at_mk hb2_ HFC.out.len)
   clear hb2_ hsz2_
   have HG_ := kp HB.out.size
   replace HB := kp (HB.out.grow' hb_)
   generalize hg_ : w_.heap.size = g3 at HX_ HG_ ⊢
   clear hg_
   have HF_g := HG_
   clear HG_
   have HF := HX_
   clear hb_ HX_
   try clear w_
   rename World => w_
   go_wp2_with (first | (with_reducible refine wpl_alloc (o := ⟨some 4, _, _, _, _, _⟩) rfl rfl zero_got ?_))
   intro w2_ hb2_ hb_ hsz2_
   have HX_ := kp (at_mk hb2_ len_got)
   clear hb2_ hsz2_
   have HG_ := kp HB.out.size
   replace HB := kp (HB.out.grow' hb_)
   replace HF := kp (HF.out.grow hb_)
   generalize hg_ : w_.heap.size = g4 at HX_ HG_ ⊢
   clear hg_
   have HV_g := HG_
   clear HG_
   have HV := HX_
   clear hb_ HX_
   try clear w_
   rename World => w_
   have c0 := HF.out.blk.at_ IF.out
   go_wp2_with (first | (with_reducible refine wpl_stop (o := ⟨some 18, _, _, _, _, _⟩) ?_))
   refine stop_go ?_
   refine wpl_build rfl rfl TF.out ?_
   go_wp2_with (first | (with_reducible refine wpl_stop (o := ⟨some 21, _, _, _, _, _⟩) ?_))
   refine stop_go ?_
   refine wpl_build rfl rfl TG.out ?_
   go_wp2_with (first | (with_reducible refine wpl_alloc (o := ⟨some 5, _, _, _, _, _⟩) rfl rfl zero_got ?_))
   intro w2_ hb2_ hb_ hsz2_
   obtain ⟨g5, hg5⟩ : ∃ q, q = w_.heap.size := ⟨_, rfl⟩
   have H5 := kp (at_mk hb2_ len_got)
   have H5_g := kp HB.out.size
   rw [← hg5] at H5 H5_g ⊢
   have H54 := kp (show g5 ≠ g4 by have := HV.out.lt; omega)
   clear hb2_ hsz2_ hg5 c0
   replace HB := kp (HB.out.grow' hb_)
   replace HV := kp (HV.out.grow hb_)
   clear HF hb_
   try clear w_
   rename World => w_
   go_wp2_with (first | (with_reducible refine wpl_storeb (o := ⟨none, .store _ _ _, _, _, _, _⟩) rfl rfl row_got H5.out.blk rfl rfl H5.out.len HG2.out.len HG2.out.one ?_))
   intro w2_ hb2_ hg2_ hsz2_
   have HB_ := kp (put_below HB.out H5_g.out hg2_)
   have HV_ := kp (show At w2_ g4 75 37 (gotV noF 0 nilS) from ⟨Blk.grown HV.out.blk hg2_ (fun e => H54.out (by injection e with e; exact e.symm)), HV.out.len⟩)
   have H5_ := kp (at_mk hb2_ HG2.out.len)
   rw [HG2E.out] at H5_
   clear hb2_ hg2_ hsz2_ HB HV H5 HG2
   go_wp2_with fail
   go_loopw [6] (fun iv wr => ∃ i : Nat, i ≤ 32 ∧ iv = .int .i64 i ∧ Hid (At wr g5 75 37 (gotV (fieldV 2 0 nilS (l.take i ++ List.replicate (32 - i) 0)) 0 (.slice (some ⟨b, off + 32, none⟩) (n - 32) (c - 32))) ∧ At wr g4 75 37 (gotV noF 0 nilS) ∧ Below w.heap.size w wr)) (fun iv _ => 32 - (intOf iv).toNat)
   case atStart => exact ⟨0, by omega, rfl, kp ⟨H5_.out, HV_.out, HB_.out⟩⟩
   case round =>
    obtain ⟨i, hi, rfl, hI⟩ := hrel
    have H5 := kp hI.out.1; have HV := kp hI.out.2.1; have HB := kp hI.out.2.2
    clear hI H5_ HV_ HB_
    by_cases hlt : i < 32
    ·obtain ⟨x, hx⟩ : ∃ x, l[i]? = some x := ⟨l[i]'(by have := HLN.out; omega), List.getElem?_eq_getElem _⟩
     have hbc := bcell HB.out (HCELL.out i (B x) (by rw [List.getElem?_map, hx]; rfl))
     have HX := kp (upto_id (by have := HLN.out; omega) hlt hx (fun d => fieldV 2 0 nilS d) (fun d => rfl) 0 (.slice (some ⟨b, off + 32, none⟩) (n - 32) (c - 32)))
     have v3 : IntKind.i64.wrap ((i : Int) + 1) = (i : Int) + 1 := IntWalk.i64_in _ (by omega)
     have v4 : RowKit.wrap64 ((i : Int) + 1) = (i : Int) + 1 := wrap64_in _ (by omega)
     obtain ⟨bx, hbx⟩ : ∃ v, v = B x := ⟨_, rfl⟩
     have HCE := kp (show bx.cells = #[bx] ∧ bx.oneCell' = true by rw [hbx]; exact ⟨rfl, rfl⟩)
     rw [← hbx] at hbc HX
     clear hbx hx
     go_wp2_with (first | (refine wpl_store1 (o := ⟨none, .store _ _ _, _, _, _, _⟩) rfl rfl H5.out.blk rfl rfl (by kernel_rfl) HCE.out.1 HCE.out.2 (by first | (rw [H5.out.len]; omega) | fail) ?_))
     intro w2_ hb2_ hg2_ hsz2_
     have HB_ := kp (put_below HB.out H5_g.out hg2_)
     have HV_ := kp (show At w2_ g4 75 37 (gotV noF 0 nilS) from ⟨Blk.grown HV.out.blk hg2_ (fun e => H54.out (by injection e with e; exact e.symm)), HV.out.len⟩)
     have H5_ := kp (show At w2_ g5 75 37 (gotV (fieldV 2 0 nilS (l.take (i + 1) ++ List.replicate (32 - (i + 1)) 0)) 0 (.slice (some ⟨b, off + 32, none⟩) (n - 32) (c - 32))) from at_mk (by rw [← HX.out]; exact hb2_) (by rw [← HX.out, List.length_set]; exact H5.out.len))
     clear hb2_ hg2_ hsz2_ HB HV H5
     go_wp2_with fail
     go_roundw
     case rel => exact ⟨i + 1, by omega, by go_num, kp ⟨H5_.out, HV_.out, HB_.out⟩⟩
     case measure => simp [intOf]; omega
    ·obtain rfl : i = 32 := by omega
     rename World => w_
     have HH5 := kp (show At w_ g5 75 37 (gotV (fieldV 2 0 nilS (l.take 32)) 0 (.slice (some ⟨b, off + 32, none⟩) (n - 32) (c - 32))) by have h := H5.out; simp only [Nat.sub_self, List.replicate_zero, List.append_nil] at h; exact h)
     have HCF := kp (show Cl 35 (fieldV 2 0 nilS (l.take 32)) from fieldV_cl rfl (by rw [List.length_take]; have := HLN.out; omega))
     have HCO := kp (show Cl 37 (gotV (fieldV 2 0 nilS (l.take 32)) 0 (.slice (some ⟨b, off + 32, none⟩) (n - 32) (c - 32))) from gotV_cl HCF.out rfl)
     obtain ⟨ov, hov⟩ : ∃ v, v = gotV (fieldV 2 0 nilS (l.take 32)) 0 (.slice (some ⟨b, off + 32, none⟩) (n - 32) (c - 32)) := ⟨_, rfl⟩
     have HOV := kp hov
     rw [← hov] at HH5 HCO
     clear hov H5
     go_wp2_with (first | (with_reducible refine wpl_loadb (o := ⟨some 34, _, _, _, _, _⟩) rfl rfl row_got HH5.out.blk rfl HH5.out.len ?_) | (with_reducible refine wpl_storeb (o := ⟨none, .store _ _ _, _, _, _, _⟩) rfl rfl row_got HV.out.blk rfl rfl HV.out.len HCO.out.len HCO.out.one ?_))
     intro w2_ hb2_ hg2_ hsz2_
     have HB_ := kp (put_below HB.out HV_g.out hg2_)
     have HV_ := kp (at_mk hb2_ HCO.out.len)
     clear hb2_ hg2_ hsz2_ HB HV HH5
     go_wp2_with fail
     refine ret_cell rfl row_got HV_.out.blk rfl HV_.out.len rfl ?_
     have hdl : (l.drop 32).length = (n - 32) := by rw [List.length_drop, HLN.out]
     refine .ok (v := l.take 32) (t := l.drop 32) (A := (some ⟨b, off + 32, none⟩)) (c := (c - 32)) (by unfold takeR; rw [if_pos (by have := HLN.out; omega)]) (by rw [HOV.out, hdl]) HCF.out rfl ?_ (by rw [hdl]; omega) HB_.out
     rw [hdl, List.map_drop]
     have h9 := (HS.out.from1 (k := 32) (by omega) HC.out).below (HB_.out.mono HBD.out)
     rw [if_neg h] at h9
     exact h9
end Go.Proofs.YtphmefhnffoafaaGreatDoor

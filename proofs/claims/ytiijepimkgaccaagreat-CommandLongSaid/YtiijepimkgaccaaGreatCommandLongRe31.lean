/- The contract of cert.Read. -/
import Derived.Test.YtiijepimkgaccaaGreatCommandLongRe30
set_option linter.unusedSimpArgs false
set_option linter.unusedVariables false
set_option maxRecDepth 100000
set_option maxHeartbeats 16000000
namespace Go.Proofs.YtiijepimkgaccaaGreat
open Go.RowKit Go.Shelf
theorem idsR_errn : ∀ (n : Nat) {l : List UInt8} {x : Nat}, idsR n l = .error x → x ≠ 0
 | 0, l, x, h => by cases h
 | n + 1, l, x, h => by
  unfold idsR at h;split at h
  ·rename_i h1; injection h with h; subst h; exact idsR_errn n h1
  ·split at h
   ·rename_i h2; injection h with h; subst h; exact takeR_err h2
   ·cases h
theorem lookC_err {l : List UInt8} {x : Nat} (h : lookCe l = .error x) : x ≠ 0 := by
 unfold lookCe at h;split at h
 ·rename_i h1; injection h with h; subst h; exact textR_err h1
 split at h
 ·rename_i h1; injection h with h; subst h; exact numR_err h1
 split at h
 ·rename_i h1; injection h with h; subst h; exact idsR_errn _ h1
 split at h
 ·rename_i h1; injection h with h; subst h; exact textR_err h1
 split at h
 ·rename_i h1; injection h with h; subst h; exact takeR_err h1
 cases h
theorem readE_nz {l : List UInt8} {x : Nat} (h : readE l = .error x) : x ≠ 0 := by
 unfold readE at h;split at h
 ·rename_i h1; injection h with h; subst h; exact lookE_err h1
 ·split at h
  ·cases h
  ·injection h with h; omega
theorem readH_nz {l : List UInt8} {x : Nat} (h : readH l = .error x) : x ≠ 0 := by
 unfold readH at h;split at h
 ·rename_i h1; injection h with h; subst h; exact lookH_err h1
 ·split at h
  ·cases h
  ·injection h with h; omega
theorem readC_cases (l : List UInt8) : (∃ x, eyeErr (restOf (lookCe l)) = x ∧ x ≠ 0 ∧ readC l = .error x) ∨ (∃ r, eyeErr (restOf (lookCe l)) = 0 ∧ lookCe l = .ok (r, []) ∧ readC l = readW r) := by
 cases h : lookCe l with
 | error x => exact .inl ⟨x, rfl, lookC_err h, by unfold readC; rw [h]⟩
 | ok p =>
  obtain ⟨r, t⟩ := p;cases t with
  | nil => exact .inr ⟨r, rfl, rfl, by unfold readC; rw [h]; simp⟩
  | cons a t => exact .inl ⟨3, rfl, by omega, by unfold readC; rw [h]; simp⟩
theorem readW_cases (r : Raw) : (∃ x, errOf (readE r.eb) = x ∧ x ≠ 0 ∧ readW r = .error x) ∨ (∃ e x, readE r.eb = .ok e ∧ errOf (readH r.hb) = x ∧ x ≠ 0 ∧ readW r = .error x) ∨ (∃ e h, readE r.eb = .ok e ∧ readH r.hb = .ok h ∧ readW r = .ok ⟨e, r.path, h, r.tag⟩) := by
 cases h : readE r.eb with
 | error x => exact .inl ⟨x, rfl, readE_nz h, by unfold readW; rw [h]⟩
 | ok e =>
  cases h2 : readH r.hb with
  | error x => exact .inr (.inl ⟨e, x, rfl, rfl, readH_nz h2, by unfold readW; rw [h]; simp only; rw [h2]⟩)
  | ok hh => exact .inr (.inr ⟨e, hh, rfl, rfl, by unfold readW; rw [h]; simp only; rw [h2]⟩)
theorem sl_offg {w w' : World} {A : Option Addr} {n g : Nat} {xs : List Value} (h : Sl w w.heap.size 1 A n xs) (hg : w.grownBy w' (some g)) (hA : ∀ k, A.map Addr.block = some k → g < k) : Sl w' w'.heap.size 1 A n xs := by
 refine ⟨h.1, fun hn => ?_⟩;obtain ⟨b, off, e, hb, hc⟩ := h.2 hn;refine ⟨b, off, e, Nat.lt_of_lt_of_le hb hg.size, fun j u hu => (World.cell?_of_block (a := ⟨b, off + j, none⟩) (hg.block b hb (fun q => by have := hA b (by rw [e]; rfl); injection q with q; omega))).trans (hc j u hu)⟩
theorem cread_o {A : Option Addr} {n c : Nat} {l : List UInt8} (w : World) (hs : Sl w w.heap.size 1 A n (l.map B)) (hn : n ≤ 1000000) :
  Calls Tryz.prog 37 #[.slice A n c] w fun e w' => ∃ A' n' c', e = .returned (.tuple #[.agg (certV (.slice A' n' c') (cerOf (readC l))).toArray, .int .i64 (errOf (readC l) : Int)]) ∧ Ids w' A' n' c' (cerOf (readC l)).path ∧ n' ≤ 1000 ∧ Below w.heap.size w w' ∧ ∀ k, A'.map Addr.block = some k → w.heap.size ≤ k := by
 have HS := kp hs;have HCZ := kp (cert_cl (v := .slice none 0 0) rfl noCer_ok);have BE := kp built_certE;obtain ⟨out, hout⟩ := xe (readC l);have HOUT := kp hout;have HN3 := kq ((cerOf out).path.length ≤ 32) (by rw [hout]; exact cerOf_path l);rw [← hout];obtain ⟨w_, hw⟩ := xe w;have HB := kq (Below w.heap.size w w_) (by rw [hw]; exact Below.refl _ _)
 suffices H : Calls Tryz.prog 37 #[.slice A n c] w_ fun e w' => ∃ A' n' c', e = .returned (.tuple #[.agg (certV (.slice A' n' c') (cerOf out)).toArray, .int .i64 (errOf out : Int)]) ∧ Ids w' A' n' c' (cerOf out).path ∧ n' ≤ 1000 ∧ Below w.heap.size w w' ∧ ∀ k, A'.map Addr.block = some k → w.heap.size ≤ k by rw [hw] at H; exact H
 clear hw hs hout;obtain ⟨zc, hzc⟩ := xe (certV (.slice none 0 0) noCer);have HZC := kp hzc;have ZC := kp zero_cert;have LC := kp len_cert;rw [← hzc] at HCZ BE ZC LC;clear hzc
 go_enter Tryz.func37, Tryz.ntmps37
 go_wp2_with (with_reducible refine wal 2 ZC.o ?_);intro v_ b_ y_ hsz2_;have HV := kp (at_mk b_ LC.o);have HVG := kp HB.o.size;generalize hg_ : w_.heap.size = g2 at HV HVG ⊢;clear b_ hsz2_ hg_;have y_ := y_;clear y_;replace HB := kp (HB.o.grow' y_);clear y_;try clear w_
 rename World => w_;go_wp2_with (with_reducible refine wal 4 ZC.o ?_);intro v_ b_ y_ hsz2_;have HH := kp (at_mk b_ LC.o);have HLT := kp HV.o.lt;generalize hg_ : w_.heap.size = g4 at HH HLT ⊢;clear b_ hsz2_ hg_;have y_ := y_;clear y_;replace HB := kp (HB.o.grow' y_);replace HV := kp (HV.o.grow y_);clear y_;try clear w_
 rename World => w_;go_wp2_with fail;generalize hw1 : World.alloc w_ _ = w1_;obtain ⟨hX1, hb1, hs1⟩ := alloc_eq hw1;generalize hw2 : World.alloc w1_ _ = v_;obtain ⟨hX2, hb2, hs2⟩ := alloc_eq hw2;have HX1 := kp (hX1.grow hb2);rw [hs1] at hX2 hs2;have HX2 := kp hX2;have y_ := Grow.trans _ _ _ hb1 hb2;have H45 := kp HH.o.lt;have HSZ := kp hs2;generalize hg_ : w_.heap.size = g5 at HX1 HX2 H45 HSZ ⊢;clear hX1 hX2 hb1 hb2 hs1 hs2 hw1 hw2 hg_;have y_ := y_;clear y_;replace HB := kp (HB.o.grow' y_);replace HV := kp (HV.o.grow y_);replace HH := kp (HH.o.grow y_);clear y_;try clear w_
 rename World => w_;refine (fread2_any A n c l 67 #[.pointer (some ⟨g5, 0, none⟩), .pointer (some ⟨g4, 0, none⟩), .pointer (some ⟨g5 + 1, 0, none⟩)] (restOf (lookCe l)) (fun w2 => Below g4 w_ w2 ∧ ∀ r t, lookCe l = .ok (r, t) → CGot w2 (w_.heap.size + 1) g4 g5 (g5 + 1) r) _ (HS.o.grow HB.o) hn (fun _ _ => rfl) (fun w1 Bd g hw hg he => (cread1_any w_ w1 ⟨H45.o, by omega, by have := HSZ.o; omega, by have := he.lo; omega, by have := he.lo; have := he.lt; omega, he.lt, hw⟩ (by rw [← HZC.o]; exact HH.o.blk) HX1.o HX2.o he).mono fun e w2 h => ⟨h.1, h.2.1, h.2.2.1, h.2.2.2⟩)).mono ?_;rintro e w5_ ⟨rfl, v_, ⟨hlow, hgot⟩, hgr⟩;have HV_ := kq (At w5_ g2 43 137 zc) ⟨(hgr.block g2 (Nat.lt_of_lt_of_le (by have := HLT.o; have := HH.o.lt; omega) hlow.size) (fun e => by injection e with e; have := HLT.o; have := HH.o.lt; omega)).trans ((hlow.block g2 HLT.o).trans HV.o.blk), HV.o.len⟩
 have HB_ := kp (show Below w.heap.size w w5_ from ⟨hgr.os.trans (hlow.os.trans HB.o.os), hgr.tape.trans (hlow.tape.trans HB.o.tape), hgr.output.trans (hlow.output.trans HB.o.output), Nat.le_trans HB.o.size (Nat.le_trans hlow.size hgr.size), fun k hk => by
  have h1 := HVG.o; have h2 := HLT.o; have h3 := HH.o.lt
  exact (hgr.block k (by have := hlow.size; omega) (fun e => by injection e with e; omega)).trans ((hlow.block k (by omega)).trans (HB.o.block k hk))⟩)
 have HGOT := kp (show ∀ r t, lookCe l = .ok (r, t) → CGot w5_ (g5 + 2) g4 g5 (g5 + 1) r from fun r t h => by
  obtain ⟨A1, n1, c1, A5, c5, A6, c6, k1, k2, k3, k4, k5, k6, k7, k8, k9⟩ := hgot r t h;have h3 := HH.o.lt; have h4 := HSZ.o; have h5 := H45.o
  refine ⟨A1, n1, c1, A5, c5, A6, c6, k1.grown hgr (fun e => by injection e with e; omega), k2.off hgr (fun k hk => by have := k3 k hk; omega), (fun k hk => by have := k3 k hk; omega), k4.grown hgr (fun e => by injection e with e; omega), sl_offg k5 hgr (fun k hk => by have := k6 k hk; omega), (fun k hk => by have := k6 k hk; omega), k7.grown hgr (fun e => by injection e with e; omega), sl_offg k8 hgr (fun k hk => by have := k9 k hk; omega), (fun k hk => by have := k9 k hk; omega)⟩)
 clear hlow hgot hgr HV HB HX1 HX2 HSZ HH;have HV := HV_; have HB := HB_;clear HV_ HB_;try clear v_
 try clear w_
 rename World => w_;have HW0 := kq (∀ er : Nat, er ≠ 0 → out = .error er → cerOf out = noCer ∧ errOf out = er) (fun er h0 h1 => by rw [h1]; exact ⟨rfl, rfl⟩);rcases readC_cases l with ⟨er, her, her0, hrd⟩ | ⟨r, her, hlk, hrd⟩
 ·rw [her];rw [← HOUT.o] at hrd;obtain ⟨h1, h2⟩ := HW0.o er her0 hrd;have HF1 := kp h1; have HF2 := kp h2;have d0 : ((er : Int) == 0) = false := by simp; omega
  have d1 : ((er : Int) != 0) = true := by simp; omega
  clear her her0 hrd h1 h2;go_wp2_with (with_reducible refine wst 29 ?_);refine stop_go ?_;refine wpl_build rfl rfl BE.o ?_;go_wp2_with (with_reducible refine wsb row_cert HV.o.blk HV.o.len HCZ.o.len HCZ.o.one ?_);intro v_ b_ g_ hsz2_;have HV_ := kp b_;have HB_ := kp (put_below HB.o HVG.o g_);clear b_ g_ hsz2_;go_wp2_with fail;refine ret_cell2 rfl row_cert HV_.o rfl HCZ.o.len rfl rfl ?_;exact ⟨none, 0, 0, by rw [HF1.o, HF2.o, HZC.o]; rfl, by rw [HF1.o]; exact Ids.none_ _, by omega, HB_.o, fun k hk => by cases hk⟩
 ·rw [her];rw [← HOUT.o] at hrd;obtain ⟨A1, n1, c1, A5, c5, A6, c6, k1, k2, k3, k4, k5, k6, k7, k8, k9⟩ := HGOT.o r [] hlk;have hlk2 := lookC_ok hlk;have HOK0 := kq ((⟨noEnt, r.path, noHdr, r.tag⟩ : Cer).ok) ⟨noEnt_ok, hlk2.2.2.2.1, noHdr_ok, hlk2.2.2.2.2⟩;have HH := kp k1; have HI := kp k2; have HAI := kp k3; have HB5 := kp k4; have HS5 := kp k5; have HA5 := kp k6; have HB6 := kp k7; have HS6 := kp k8; have HA6 := kp k9;have HL5 := kp hlk2.1; have HL6 := kp hlk2.2.1;have HN1 := kq (n1 ≤ 32) (by rw [← k2.2.1]; exact hlk2.2.2.1);have HRD := kp hrd;clear k1 k2 k3 k4 k5 k6 k7 k8 k9 hlk hlk2 her hrd HGOT;have c5 := HB5.o.at_ (i := 0) rfl;go_wp2_with fail;refine (eread_any _ HS5.o (by have := HL5.o; omega)).mono ?_;rintro e v_ ⟨rfl, y_⟩;clear c5 HS5 HB5;replace HI := kp (HI.o.grow y_);replace HB6 := kp (HB6.o.grow y_);replace HS6 := kp (HS6.o.grow y_);replace HV := kp (HV.o.grow y_);replace HH := kp (HH.o.grow y_);replace HB := kp (HB.o.grow' y_);clear y_;try clear w_
  rename World => w_;obtain ⟨ee, hee⟩ := xe (entOf (readE r.eb));have HEE := kp hee;have HEO := kq ee.ok (by rw [hee]; exact entOf_ok _);have HEC := kp (ent_cl HEO.o);have HSPL := kp (splice_c1 (v := .slice A1 n1 c1) HOK0.o HEO.o);have HOK1 := kq ((⟨ee, r.path, noHdr, r.tag⟩ : Cer).ok) ⟨HEO.o, HOK0.o.2.1, noHdr_ok, HOK0.o.2.2.2⟩;obtain ⟨er, her⟩ := xe (errOf (readE r.eb));have HER := kp her;rw [← hee, ← her];obtain ⟨ev, hev⟩ := xe (entV ee);rw [← hev] at HEC HSPL ⊢;clear hee her hev;have hcl := certV_len (v := .slice A1 n1 c1) HOK0.o;go_wp2_with (with_reducible first | refine wpl_storem (o := ⟨none, .store _ _ _, _, _, _, _⟩) (off := 0) rfl rfl row_entry HH.o rfl rfl HEC.o.len (by rw [hcl]; omega) HEC.o.one ?_);intro v_ b_ hg_ hsz2_;replace HI := kp (HI.o.off hg_ (fun k hk => by have := HAI.o k hk; have := H45.o; omega));replace HB6 := kp (HB6.o.grown hg_ (fun e => by injection e with e; have := H45.o; omega));replace HS6 := kp (sl_offg HS6.o hg_ (fun k hk => by have := HA6.o k hk; have := H45.o; omega));replace HV := kp (At.off HV.o hg_ (Nat.ne_of_lt HLT.o));replace HH := kq (Blk v_ g4 43 (certV (.slice A1 n1 c1) ⟨ee, r.path, noHdr, r.tag⟩)) (by rw [HSPL.o] at b_; exact b_);replace HB := kp (put_below HB.o (Nat.le_trans HVG.o (Nat.le_of_lt HLT.o)) hg_);clear b_ hg_ hsz2_ hcl HSPL;try clear w_
  rename World => w_;by_cases he0 : er = 0
  ·subst he0;have c6 := HB6.o.at_ (i := 0) rfl;go_wp2_with fail;refine (hread_any _ HS6.o (by have := HL6.o; omega)).mono ?_;rintro e v_ ⟨rfl, y_⟩;clear c6 HS6 HB6;replace HI := kp (HI.o.grow y_);replace HV := kp (HV.o.grow y_);replace HH := kp (HH.o.grow y_);replace HB := kp (HB.o.grow' y_);clear y_;try clear w_
   rename World => w_;obtain ⟨hh, hhh⟩ := xe (hdrOf (readH r.hb));have HHE := kp hhh;have HHO := kq hh.ok (by rw [hhh]; exact hdrOf_ok _);have HHC := kp (hdr_cl HHO.o);have HSPL := kp (splice_c3 (v := .slice A1 n1 c1) HOK1.o HHO.o);have HOK2 := kq ((⟨ee, r.path, hh, r.tag⟩ : Cer).ok) ⟨HEO.o, HOK0.o.2.1, HHO.o, HOK0.o.2.2.2⟩;obtain ⟨ex, hex⟩ := xe (errOf (readH r.hb));have HEX := kp hex;rw [← hhh, ← hex];obtain ⟨hv, hhv⟩ := xe (hdrV hh);rw [← hhv] at HHC HSPL ⊢;clear hhh hex hhv;have hcl := certV_len (v := .slice A1 n1 c1) HOK1.o;go_wp2_with (with_reducible first | refine wpl_storem (o := ⟨none, .store _ _ _, _, _, _, _⟩) (off := 38) rfl rfl row_header HH.o rfl rfl HHC.o.len (by rw [hcl]; omega) HHC.o.one ?_);intro v_ b_ hg_ hsz2_;replace HI := kp (HI.o.off hg_ (fun k hk => by have := HAI.o k hk; have := H45.o; omega));replace HV := kp (At.off HV.o hg_ (Nat.ne_of_lt HLT.o));replace HH := kq (Blk v_ g4 43 (certV (.slice A1 n1 c1) ⟨ee, r.path, hh, r.tag⟩)) (by rw [HSPL.o] at b_; exact b_);replace HB := kp (put_below HB.o (Nat.le_trans HVG.o (Nat.le_of_lt HLT.o)) hg_);clear b_ hg_ hsz2_ hcl HSPL;try clear w_
   rename World => w_
   have HSOK := kp (show ex = 0 → out = .ok ⟨ee, r.path, hh, r.tag⟩ from fun h0 => by
    rcases readW_cases r with ⟨x, h1, h2, h3⟩ | ⟨e, x, h1, h2, h3, h4⟩ | ⟨e, h, h1, h2, h3⟩
    ·exact absurd (h1.symm.trans HER.o.symm) (fun h => h2 h)
    ·exact absurd ((h2.symm.trans HEX.o.symm).trans h0) h3
    ·rw [HRD.o, h3, HEE.o, HHE.o, h1, h2]; rfl)
   have HSNO := kp (show ex ≠ 0 → out = .error ex from fun h0 => by
    rcases readW_cases r with ⟨x, h1, h2, h3⟩ | ⟨e, x, h1, h2, h3, h4⟩ | ⟨e, h, h1, h2, h3⟩
    ·exact absurd (h1.symm.trans HER.o.symm) (fun h => h2 h)
    ·rw [HRD.o, h4, HEX.o, h2]
    ·exact absurd (HEX.o.trans (by rw [h2]; rfl)) h0)
   by_cases hx0 : ex = 0
   ·have hok := HSOK.o hx0;subst hx0;have HCL := kp (cert_cl (v := .slice A1 n1 c1) rfl HOK2.o);have HFIN := kq (cerOf out = ⟨ee, r.path, hh, r.tag⟩ ∧ errOf out = 0) (by rw [hok]; exact ⟨rfl, rfl⟩);obtain ⟨cv, hcv⟩ := xe (certV (.slice A1 n1 c1) ⟨ee, r.path, hh, r.tag⟩);have HCV := kp hcv;rw [← hcv] at HH HCL;clear hok hcv;go_wp2_with (with_reducible first | refine wlb 31 row_cert HH.o HCL.o.len ?_ | refine wsb row_cert HV.o.blk HV.o.len HCL.o.len HCL.o.one ?_);intro v_ b_ g_ hsz2_;have HV_ := kp b_;have HI_ := kp (HI.o.off g_ (fun k hk => by have := HAI.o k hk; have := H45.o; have := HLT.o; omega));have HB_ := kp (put_below HB.o HVG.o g_);clear b_ g_ hsz2_;go_wp2_with fail;refine ret_cell2 rfl row_cert HV_.o rfl HCL.o.len rfl rfl ?_;exact ⟨A1, n1, c1, by rw [HFIN.o.1, HFIN.o.2, ← HCV.o]; rfl, by rw [HFIN.o.1]; exact HI_.o, by have := HN1.o; omega, HB_.o, fun k hk => by have := HAI.o k hk; have := H45.o; have := HLT.o; have := HVG.o; omega⟩
   ·have hno := HSNO.o hx0;obtain ⟨h1, h2⟩ := HW0.o ex hx0 hno;have HF1 := kp h1; have HF2 := kp h2;have d0 : ((ex : Int) == 0) = false := by simp; omega
    have d1 : ((ex : Int) != 0) = true := by simp; omega
    clear hno h1 h2 hx0;go_wp2_with (with_reducible refine wst 29 ?_);refine stop_go ?_;refine wpl_build rfl rfl BE.o ?_;go_wp2_with (with_reducible refine wsb row_cert HV.o.blk HV.o.len HCZ.o.len HCZ.o.one ?_);intro v_ b_ g_ hsz2_;have HV_ := kp b_;have HB_ := kp (put_below HB.o HVG.o g_);clear b_ g_ hsz2_;go_wp2_with fail;refine ret_cell2 rfl row_cert HV_.o rfl HCZ.o.len rfl rfl ?_;exact ⟨none, 0, 0, by rw [HF1.o, HF2.o, HZC.o]; rfl, by rw [HF1.o]; exact Ids.none_ _, by omega, HB_.o, fun k hk => by cases hk⟩
  ·have hno : out = .error er := by
    rcases readW_cases r with ⟨x, h1, h2, h3⟩ | ⟨e, x, h1, h2, h3, h4⟩ | ⟨e, h, h1, h2, h3⟩
    ·rw [HRD.o, h3, HER.o, h1]
    ·exact absurd (HER.o.trans (by rw [h1]; rfl)) he0
    ·exact absurd (HER.o.trans (by rw [h1]; rfl)) he0
   obtain ⟨h1, h2⟩ := HW0.o er he0 hno;have HF1 := kp h1; have HF2 := kp h2;have d0 : ((er : Int) == 0) = false := by simp; omega
   have d1 : ((er : Int) != 0) = true := by simp; omega
   clear hno h1 h2 he0;go_wp2_with (with_reducible refine wst 29 ?_);refine stop_go ?_;refine wpl_build rfl rfl BE.o ?_;go_wp2_with (with_reducible refine wsb row_cert HV.o.blk HV.o.len HCZ.o.len HCZ.o.one ?_);intro v_ b_ g_ hsz2_;have HV_ := kp b_;have HB_ := kp (put_below HB.o HVG.o g_);clear b_ g_ hsz2_;go_wp2_with fail;refine ret_cell2 rfl row_cert HV_.o rfl HCZ.o.len rfl rfl ?_;exact ⟨none, 0, 0, by rw [HF1.o, HF2.o, HZC.o]; rfl, by rw [HF1.o]; exact Ids.none_ _, by omega, HB_.o, fun k hk => by cases hk⟩
open Go.RowKit
theorem readW_nz {r : Raw} {x : Nat} (h : readW r = .error x) : x ≠ 0 := by
 rcases readW_cases r with ⟨y, h1, h2, h3⟩ | ⟨e, y, h1, h2, h3, h4⟩ | ⟨e, y, h1, h2, h3⟩
 ·rw [h3] at h; injection h with h; subst h; exact h2
 ·rw [h4] at h; injection h with h; subst h; exact h3
 ·rw [h3] at h; cases h
theorem readC_nz {l : List UInt8} {x : Nat} (h : readC l = .error x) : x ≠ 0 := by
 rcases readC_cases l with ⟨y, h1, h2, h3⟩ | ⟨r, h1, h2, h3⟩
 ·rw [h3] at h; injection h with h; subst h; exact h2
 ·rw [h3] at h; exact readW_nz h
theorem readCs_nil : readCs [] = .ok [] := rfl
theorem readCs_cons (t : List UInt8) (ts : List (List UInt8)) : readCs (t :: ts) = match readC t with
  | .error x => .error x
  | .ok c => match readCs ts with
   | .error x => .error x
   | .ok cs => .ok (c :: cs) := rfl
theorem readCs_app : ∀ (a b : List (List UInt8)), readCs (a ++ b) = match readCs a with
  | .error x => .error x
  | .ok cs => match readCs b with
   | .error x => .error x
   | .ok ds => .ok (cs ++ ds)
 | [], b => by
  rw [List.nil_append, readCs_nil];cases readCs b <;> rfl
 | t :: a, b => by
  rw [List.cons_append, readCs_cons, readCs_cons, readCs_app a b];cases readC t with
  | error x => rfl
  | ok c =>
   cases readCs a with
   | error x => rfl
   | ok cs => cases readCs b <;> rfl
theorem readCs_one (t : List UInt8) : readCs [t] = match readC t with
  | .error x => .error x
  | .ok c => .ok [c] := by
 rw [readCs_cons];cases readC t <;> rfl
theorem readCs_err {ts : List (List UInt8)} {i x : Nat} (h : readCs (ts.take i) = .error x) : readCs ts = .error x := by
 have := readCs_app (ts.take i) (ts.drop i);rw [List.take_append_drop, h] at this;exact this
theorem takeS_snoc {α : Type} {ts : List α} {i : Nat} {t : α} (h : ts[i]? = some t) : ts.take (i + 1) = ts.take i ++ [t] := by
 rw [List.take_add_one, h]; rfl
theorem readCs_no {ts : List (List UInt8)} {i x : Nat} {t : List UInt8} {cs : List Cer} (h : readCs (ts.take i) = .ok cs) (ht : ts[i]? = some t) (hx : readC t = .error x) : readCs ts = .error x := by
 refine readCs_err (i := i + 1) ?_;rw [takeS_snoc ht, readCs_app, h, readCs_one, hx]
theorem readCs_go {ts : List (List UInt8)} {i : Nat} {t : List UInt8} {cs : List Cer} {c : Cer} (h : readCs (ts.take i) = .ok cs) (ht : ts[i]? = some t) (hx : readC t = .ok c) : readCs (ts.take (i + 1)) = .ok (cs ++ [c]) := by
 rw [takeS_snoc ht, readCs_app, h, readCs_one, hx]
section
variable {w w' : World} {Z n c : Nat} {A : Option Addr}
def CertsO (w : World) (Z : Nat) (A : Option Addr) (n c : Nat) (cl : List (Value × Cer)) : Prop :=
 w.ownsRow Z 43 137 (.slice A n c) n (cl.flatMap fun p => certV p.1 p.2) ∧ (∀ p ∈ cl, (∃ A' n' c', p.1 = .slice A' n' c' ∧ Ids w A' n' c' p.2.path ∧ (0 < n' → ∀ k, A'.map Addr.block = some k → Z ≤ k ∧ some k ≠ A.map Addr.block)) ∧ p.2.ok) ∧ cl.length = n
theorem CertsO.nil (w : World) (Z : Nat) : CertsO w Z none 0 0 [] := ⟨World.ownsRow_nil _ _ _ _, (fun p hp => by cases hp), rfl⟩
theorem ids_kept {row : Option Nat} {ds : List (List UInt8)} (h : Ids w A n c ds) (hg : w.grownBy w' row) (hne : 0 < n → ∀ k, A.map Addr.block = some k → some k ≠ row) : Ids w' A n c ds := by
 obtain ⟨⟨h0, h1⟩, h2⟩ := h;refine ⟨⟨h0, fun hn => ?_⟩, h2⟩;obtain ⟨b, off, e, hb, hc⟩ := h1 hn;refine ⟨b, off, e, Nat.lt_of_lt_of_le hb hg.size, fun j u hu => ?_⟩;exact (World.cell?_of_block (hg.block b hb (hne hn b (by rw [e]; rfl)))).trans (hc j u hu)
theorem ids_lt {ds : List (List UInt8)} (h : Ids w A n c ds) (hn : 0 < n) : ∀ k, A.map Addr.block = some k → k < w.heap.size := by
 obtain ⟨b, off, e, hb, _⟩ := h.1.2 hn;intro k hk; rw [e] at hk; cases hk; exact hb
theorem CertsO.keep {cl : List (Value × Cer)} (h : CertsO w Z A n c cl) (k : ∀ b, Z ≤ b → b < w.heap.size → w'.heap[b]? = w.heap[b]?) (hz : w.heap.size ≤ w'.heap.size) : CertsO w' Z A n c cl := by
 refine ⟨own_sub h.1 k, fun p hp => ?_, h.2.2⟩;obtain ⟨⟨A', n', c', e, hi, ha⟩, hk⟩ := h.2.1 p hp;refine ⟨⟨A', n', c', e, ?_, ha⟩, hk⟩;obtain ⟨⟨h0, h1⟩, h2⟩ := hi;refine ⟨⟨h0, fun hn => ?_⟩, h2⟩;obtain ⟨b, off, e, hb, hc⟩ := h1 hn;exact ⟨b, off, e, Nat.lt_of_lt_of_le hb hz, fun j u hu => (World.cell?_of_block (k b (ha hn b (by rw [e]; rfl)).1 hb)).trans (hc j u hu)⟩
theorem CertsO.cap {cl : List (Value × Cer)} (h : CertsO w Z A n c cl) : n ≤ c := by
 rcases Nat.eq_zero_or_pos n with e | e
 ·omega
 ·obtain ⟨_, _, _, _, h4⟩ := own_form h.1 e; exact h4
theorem CertsO.at_ {cl : List (Value × Cer)} (h : CertsO w Z A n c cl) : CertsAt w A n c cl :=
 ⟨Sl.of_own h.1, fun p hp => by
  obtain ⟨⟨A', n', c', e, hi, _⟩, hk⟩ := h.2.1 p hp
  exact ⟨⟨A', n', c', e, hi⟩, hk⟩, h.2.2, h.cap⟩
theorem CertsO.snoc {cl : List (Value × Cer)} {A4 : Option Addr} {c4 : Nat} {A' : Option Addr} {n' c' : Nat} {x : Cer} (h : CertsO w Z A n c cl) (hg : w.grownBy w' (A.map Addr.block)) (ho : w'.ownsRow Z 43 137 (.slice A4 (n + 1) c4) (n + 1) ((cl.flatMap fun p => certV p.1 p.2) ++ certV (.slice A' n' c') x))
  (hA : A4.map Addr.block = A.map Addr.block ∨ A4.map Addr.block = some w.heap.size) (hi : Ids w A' n' c' x.path) (ha : 0 < n' → ∀ k, A'.map Addr.block = some k → Z ≤ k ∧ some k ≠ A.map Addr.block) (hx : x.ok) : CertsO w' Z A4 (n + 1) c4 (cl ++ [(.slice A' n' c', x)]) := by
 have key : ∀ (p : Value × Cer), ((∃ A' n' c', p.1 = .slice A' n' c' ∧ Ids w A' n' c' p.2.path ∧ (0 < n' → ∀ k, A'.map Addr.block = some k → Z ≤ k ∧ some k ≠ A.map Addr.block)) ∧ p.2.ok) → ((∃ A' n' c', p.1 = .slice A' n' c' ∧ Ids w' A' n' c' p.2.path ∧ (0 < n' → ∀ k, A'.map Addr.block = some k → Z ≤ k ∧ some k ≠ A4.map Addr.block)) ∧ p.2.ok) := by
  rintro p ⟨⟨A', n', c', e, hi, ha⟩, hk⟩;refine ⟨⟨A', n', c', e, ids_kept hi hg (fun hn k hk => (ha hn k hk).2), fun hn k hk => ⟨(ha hn k hk).1, ?_⟩⟩, hk⟩;rcases hA with q | q
  ·rw [q]; exact (ha hn k hk).2
  ·rw [q]; intro e; injection e with e; have := ids_lt hi hn k hk; omega
 refine ⟨by rw [List.flatMap_append]; simpa using ho, fun p hp => ?_, by simp [h.2.2]⟩;rcases List.mem_append.1 hp with hp | hp
 ·exact key p (h.2.1 p hp)
 ·have : p = (.slice A' n' c', x) := by simpa using hp
  subst this;exact key _ ⟨⟨A', n', c', rfl, hi, ha⟩, hx⟩
end
end Go.Proofs.YtiijepimkgaccaaGreat

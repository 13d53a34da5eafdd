/- Contract of layer 6's Is outside the ring. -/
import Derived.Test.YtphmefhnffoafaaGreatDoorCertTurnedU15
import Derived.Test.YtphmefhnffoafaaGreatDoorCertTurnedU9
import Derived.Test.YtphmefhnffoafaaGreatDoorCertTurnedU19
import Derived.Test.YtphmefhnffoafaaGreatDoorCertTurnedU5
import Derived.Test.YtphmefhnffoafaaGreatDoorCertTurnedU22
set_option linter.unusedSimpArgs false
namespace Go.Proofs.YtphmefhnffoafaaGreatDoor
open Go.RowKit Go.Shelf
set_option linter.unusedVariables false
set_option maxRecDepth 100000 in
set_option maxHeartbeats 600000 in
theorem ris_no {g : Nat} {A A2 : Option Addr} {n c n2 c2 : Nat} {ds : List (List UInt8)} {t : List UInt8} {xs : List Value} (s : Int) (hx : Dig xs t) (w : World) (hr : RingAt w g A n c ds) (hs : ¬ (0 ≤ s ∧ s < n)) :
  Calls Tryz.prog 29 #[.pointer (some ⟨g, 0, none⟩), .int .i64 s, .slice A2 n2 c2, .agg xs.toArray] w fun e w' => e = .returned (.bool false) ∧ Below w.heap.size w w' := by
 have HRA := kp hr; have HD := kp hx
 have HB := kp (Below.refl w.heap.size w)
 have HE := kp (show decide (0 ≤ s ∧ s < n) = false by simpa using hs)
 clear hr hs hx
 go_enter Tryz.func29, Tryz.ntmps29
 go_wp2_with (first | (with_reducible refine wpl_box (o := ⟨some 7, _, _, _, _, _⟩) rfl rfl rfl ?_))
 intro w2_ hb2_ hb_ hsz2_
 have HX_ := kp (at_mk hb2_ HD.out.len)
 clear hb2_ hsz2_
 replace HB := kp (HB.out.grow' hb_)
 replace HRA := kp (HRA.out.grow hb_)
 have HV := HX_
 clear hb_ HX_
 try clear w_
 rename World => w_
 try go_wp2_with fail
 repeat' (first | (with_reducible refine wp_flow (id := 1) [0,0,3,7,15,31,63,127,15,511,1023,15,15,8191,16383,32767] [0,0,3,0,0,0,0,0,0,0,0,0,0,3,0,0] (fun i => match i with | 2 => spV (.bool false) | _ => spV undef) (by kernel_rfl) (by kernel_rfl) ?_) | go_values | go_skip | go_guarded | go_step | go_upon | go_back)
 intro w_ hd_
 have hb_ := hd_.grow
 replace HB := kp (HB.out.grow' hb_)
 replace HV := kp (HV.out.grow hb_)
 replace HRA := kp (HRA.out.grow hb_)
 clear hb_ hd_
 show wpL _ _ _ _ _ _ _ [0,1,2,3,4,5,6,7,8,9,10,11,12,13,14,15] _ _
 repeat (first | (refine fl_calm rfl (by decide) (by first | exact wanted_none rfl | (go_simp; done) | fail) (fun w_ _ _ => by first | (go_simp; rfl) | (go_simp; done) | rfl) (fun K hK => ?_); go_simp; refine hK _ ?_; clear hK K) | (refine fl_skip rfl (by first | (go_simp; done) | fail) (fun K hK => ?_); go_simp; refine hK _ ?_; clear hK K))
 refine fl_callv rfl (by kernel_rfl) rfl (by first | exact wanted_none rfl | (go_simp; done) | fail) (fun w_ => by first | (go_simp; exact ⟨rfl, rfl⟩) | (go_simp; rfl) | (go_simp; exact ⟨⟨rfl, rfl, rfl⟩, rfl⟩)) (fun w2_ hg_ hL_ => ?_) (fun K hK => ?_)
 ·skip
  replace HRA := kp (HRA.out.grow hg_)
  exact has_b s HE.out _ HRA.out
 go_simp
 refine hK _ ?_
 clear hK K
 repeat (first | (refine fl_calm rfl (by decide) (by first | exact wanted_none rfl | (go_simp; done) | fail) (fun w_ _ _ => by first | (go_simp; rfl) | (go_simp; done) | rfl) (fun K hK => ?_); go_simp; refine hK _ ?_; clear hK K) | (refine fl_skip rfl (by first | (go_simp; done) | fail) (fun K hK => ?_); go_simp; refine hK _ ?_; clear hK K))
 refine fl_done ?_
 intro w2_ hg_ hL_
 replace HB := kp (HB.out.grow' hg_)
 clear hg_ hL_
 try clear w_
 rename World => w_
 go_wp2_with fail
 go_ret
 exact ⟨rfl, HB.out⟩
theorem ris_b {b : Bool} {g : Nat} {A A2 : Option Addr} {n c n2 c2 k : Nat} {ds : List (List UInt8)} {bs d t : List UInt8} {xs : List Value} (hb : decide (tagB d bs = t) = b) (hd : ds[k]? = some d) (hx : Dig xs t) (w : World) (hr : RingAt w g A n c ds) (hn : n ≤ 64) (hs2 : Sl w w.heap.size 1 A2 n2 (bs.map B)) (hc2 : n2 ≤ c2) (hn2 : n2 ≤ 1000000) (ht : Tabs w) :
  Calls Tryz.prog 29 #[.pointer (some ⟨g, 0, none⟩), .int .i64 k, .slice A2 n2 c2, .agg xs.toArray] w fun e w' => e = .returned (.bool b) ∧ Below w.heap.size w w' := by
 subst hb; exact ris_yes hd hx w hr hn hs2 hc2 hn2 ht
theorem cert_ats {v : Value} {c : Cer} (h : c.ok) : (certV v c)[0]? = some (.int .i64 c.e.kind) ∧ (certV v c)[1]? = some (.int .i64 c.e.shard) ∧ (certV v c)[36]? = some (.int .i64 c.e.epoch) ∧ (certV v c)[37]? = some v ∧ (certV v c)[38]? = some (.int .i64 c.h.shard) ∧ (certV v c)[40]? = some (.int .i64 c.h.epoch) :=
 ⟨cert_e (ent_at h.1).1, cert_e (ent_at h.1).2.1, cert_e (ent_at h.1).2.2.2.2, cert_v h, cert_h h (j := 0) (hdr_at h.2.2.1).1, cert_h h (j := 2) (hdr_at h.2.2.1).2.2⟩
theorem isC_split {seed : List UInt8} {N : Nat} {x : Cer} {re rh d1 d2 tr tg : Bool} (h1 : re = rightE x.e) (h2 : rh = rightH x.h) (h3 : (x.e.shard == x.h.shard) = d1) (h4 : (x.e.epoch == x.h.epoch) = d2) (h5 : treeC x = tr) (h6 : tagC seed N x = tg) : isC seed N x = (re && rh && d1 && d2 && tr && tg) := by
 unfold isC midC
 rw [h1, h2, ← h3, ← h4, h5, h6, Bool.beq_eq_decide_eq, Bool.beq_eq_decide_eq]
set_option maxRecDepth 100000 in
set_option maxHeartbeats 2000000 in
theorem cis_any {seed : List UInt8} {g : Nat} {A : Option Addr} {N c : Nat} {A2 : Option Addr} {n2 c2 : Nat} {x : Cer} {res : Bool} (hres : isC seed N x = res) (w : World) (hr : RingAt w g A N c (ringB seed N)) (hN : N ≤ 64) (hx : x.ok) (hn : n2 ≤ 1000000) (hi : Ids w A2 n2 c2 x.path) (ht : Tabs w) :
  Calls Tryz.prog 8 #[.pointer (some ⟨g, 0, none⟩), .agg (certV (.slice A2 n2 c2) x).toArray] w fun e w' => e = .returned (.bool res) ∧ Below w.heap.size w w' := by
 have HR := kp hr; have HI := kp hi; have HT := kp ht
 have HB := kp (Below.refl w.heap.size w)
 have HE := kp (fun w => eput_any x.e w hx.1); have HH := kp (fun w => hput_any x.h w hx.2.2.1)
 obtain ⟨re, hre⟩ : ∃ q, q = rightE x.e := ⟨_, rfl⟩
 obtain ⟨rh, hrh⟩ : ∃ q, q = rightH x.h := ⟨_, rfl⟩
 obtain ⟨d1, hd1⟩ : ∃ q, (x.e.shard == x.h.shard) = q := ⟨_, rfl⟩
 obtain ⟨d2, hd2⟩ : ∃ q, (x.e.epoch == x.h.epoch) = q := ⟨_, rfl⟩
 obtain ⟨tr, htr⟩ : ∃ q, treeC x = q := ⟨_, rfl⟩
 obtain ⟨tg, htg⟩ : ∃ q, tagC seed N x = q := ⟨_, rfl⟩
 have HRES := kp (hres.symm.trans (isC_split hre hrh hd1 hd2 htr htg))
 have HFE := kp (show re = true → eformB x.e = putEB x.e ∧ (putEB x.e).length ≤ 77 from fun h => by rw [hre] at h; exact ⟨by unfold eformB; rw [if_pos h], putEB_len hx.1 h⟩)
 have HFH := kp (show rh = true → hformB x.h = putHB x.h ∧ (putHB x.h).length ≤ 91 from fun h => by rw [hrh] at h; exact ⟨by unfold hformB; rw [if_pos h], putHB_len hx.2.2.1 h⟩)
 have HSH := kp (show rh = true → ∃ k : Nat, x.h.shard = (k : Int) ∧ k ≤ 63 from fun h => by rw [hrh] at h; have := rightH_iff.1 h; exact ⟨x.h.shard.toNat, by omega, by omega⟩)
 rw [← hre] at HE; rw [← hrh] at HH
 have HTR := kp (show decide (climbT (putEB x.e) 1 3 x.path = some x.h.root) = tr from htr)
 have HTG := kp htg
 have HD := kp (cert_cl (v := .slice A2 n2 c2) rfl hx)
 have LE := kp (entV_length hx.1); have LH := kp (hdrV_length hx.2.2.1)
 have DR := kp (dig_map hx.2.2.1.2.2.2.2); have DT := kp (dig_map hx.2.2.2)
 have IA := kp (cert_ats (v := .slice A2 n2 c2) hx)
 have ME := kp (fun w g t hb => midCE (c := x) (v := .slice A2 n2 c2) (w := w) (g := g) (t := t) hb)
 have MH := kp (fun w g t hb => midCH (c := x) (v := .slice A2 n2 c2) (w := w) (g := g) (t := t) hx hb)
 have MT := kp (fun w g t hb => midCT (c := x) (v := .slice A2 n2 c2) (w := w) (g := g) (t := t) hx hb)
 have MR := kp (fun w g t hb => midCR (c := x) (v := .slice A2 n2 c2) (w := w) (g := g) (t := t) hx hb)
 obtain ⟨xv, hxv⟩ : ∃ v, v = certV (.slice A2 n2 c2) x := ⟨_, rfl⟩
 obtain ⟨ev, hev⟩ : ∃ v, v = entV x.e := ⟨_, rfl⟩
 obtain ⟨hv, hhv⟩ : ∃ v, v = hdrV x.h := ⟨_, rfl⟩
 obtain ⟨tv, htv⟩ : ∃ v, v = x.tag.map B := ⟨_, rfl⟩
 obtain ⟨rv, hrv⟩ : ∃ v, v = x.h.root.map B := ⟨_, rfl⟩
 rw [← hxv] at HD IA ME MH MT MR ⊢
 rw [← hev] at HE LE ME
 rw [← hhv] at HH LH MH
 rw [← htv] at DT MT
 rw [← hrv] at DR MR
 obtain ⟨i1, hi1⟩ : ∃ k, k = x.e.shard := ⟨_, rfl⟩
 obtain ⟨i2, hi2⟩ : ∃ k, k = x.e.epoch := ⟨_, rfl⟩
 obtain ⟨j1, hj1⟩ : ∃ k, k = x.h.shard := ⟨_, rfl⟩
 obtain ⟨j2, hj2⟩ : ∃ k, k = x.h.epoch := ⟨_, rfl⟩
 have HJ1 := kp hj1
 rw [← hi1, ← hi2, ← hj1, ← hj2] at IA
 rw [← hj1] at HSH
 rw [← hi1, ← hj1] at hd1
 rw [← hi2, ← hj2] at hd2
 have hd1' : (i1 != j1) = !d1 := by rw [bne, hd1]
 have hd2' : (i2 != j2) = !d2 := by rw [bne, hd2]
 clear hres hr hi ht hre hrh htr htg hx hxv hev hhv htv hrv hi1 hi2 hj1 hj2
 go_enter Tryz.func8, Tryz.ntmps8
 go_wp2_with (first | (with_reducible refine wpl_box (o := ⟨some 3, _, _, _, _, _⟩) rfl rfl rfl ?_))
 intro w2_ hb2_ hb_ hsz2_
 have HX_ := kp (at_mk hb2_ HD.out.len)
 clear hb2_ hsz2_
 replace HB := kp (HB.out.grow' hb_)
 replace HR := kp (HR.out.grow hb_)
 replace HI := kp (HI.out.grow hb_)
 replace HT := kp (HT.out.grow hb_)
 have HX := HX_
 clear hb_ HX_
 try clear w_
 rename World => w_
 have FME := kp (ME.out _ _ _ HX.out.blk)
 go_wp2_with (first | (with_reducible refine wpl_loadm (o := ⟨some 11, _, _, _, _, _⟩) rfl rfl row_entry FME.out rfl LE.out ?_))
 refine (HE.out _).mono ?_
 rintro e w2_ ⟨A3, c3, rfl, hs3, hc3, hb_⟩
 have HS3 := kp hs3; have HC3 := kp hc3
 clear hs3 hc3 FME HE ME
 have hb_ := hb_
 clear hb_
 replace HB := kp (HB.out.grow' hb_)
 replace HX := kp (HX.out.grow hb_)
 replace HR := kp (HR.out.grow hb_)
 replace HI := kp (HI.out.grow hb_)
 replace HT := kp (HT.out.grow hb_)
 clear hb_
 try clear w_
 rename World => w_
 have FMH := kp (MH.out _ _ _ HX.out.blk)
 go_wp2_with (first | (with_reducible refine wpl_loadm (o := ⟨some 17, _, _, _, _, _⟩) rfl rfl row_header FMH.out rfl LH.out ?_))
 refine (HH.out _).mono ?_
 rintro e w2_ ⟨A4, c4, rfl, hs4, hc4, hb_⟩
 have HS4 := kp hs4; have HC4 := kp hc4
 clear hs4 hc4 FMH HH MH
 have hb_ := hb_
 clear hb_
 replace HB := kp (HB.out.grow' hb_)
 replace HX := kp (HX.out.grow hb_)
 replace HR := kp (HR.out.grow hb_)
 replace HI := kp (HI.out.grow hb_)
 replace HT := kp (HT.out.grow hb_)
 replace HS3 := kp (HS3.out.grow hb_)
 clear hb_
 try clear w_
 rename World => w_
 have cs := HX.out.blk.at_ IA.out.2.1
 have ce := HX.out.blk.at_ IA.out.2.2.1
 have cp := HX.out.blk.at_ IA.out.2.2.2.1
 have ch := HX.out.blk.at_ IA.out.2.2.2.2.1
 have cq := HX.out.blk.at_ IA.out.2.2.2.2.2
 cases re with
 | false =>
  have HF := kp (show res = false by rw [HRES.out]; simp)
  go_wp2_with fail
  go_ret
  exact ⟨by rw [HF.out]; rfl, HB.out⟩
 | true =>
  cases rh with
  | false =>
   have HF := kp (show res = false by rw [HRES.out]; simp)
   go_wp2_with fail
   go_ret
   exact ⟨by rw [HF.out]; rfl, HB.out⟩
  | true =>
   cases d1 with
   | false =>
    have HF := kp (show res = false by rw [HRES.out]; simp)
    go_wp2_with fail
    go_ret
    exact ⟨by rw [HF.out]; rfl, HB.out⟩
   | true =>
    cases d2 with
    | false =>
     have HF := kp (show res = false by rw [HRES.out]; simp)
     go_wp2_with fail
     go_ret
     exact ⟨by rw [HF.out]; rfl, HB.out⟩
    | true =>
     have HE3 := kp (HFE.out rfl); have HH3 := kp (HFH.out rfl)
     have HS5 := kp (show Sl w_ w_.heap.size 1 A3 (eformB x.e).length ((putEB x.e).map B) by have h := HS3.out; rw [HE3.out.1] at h ⊢; exact h)
     have HS6 := kp (show Sl w_ w_.heap.size 1 A4 (hformB x.h).length ((putHB x.h).map B) by have h := HS4.out; rw [HH3.out.1] at h ⊢; exact h)
     have L5 := kp (show (eformB x.e).length ≤ 77 by rw [HE3.out.1]; exact HE3.out.2)
     have L6 := kp (show (hformB x.h).length ≤ 91 by rw [HH3.out.1]; exact HH3.out.2)
     obtain ⟨n5, hn5⟩ : ∃ k, k = (eformB x.e).length := ⟨_, rfl⟩
     obtain ⟨n6, hn6⟩ : ∃ k, k = (hformB x.h).length := ⟨_, rfl⟩
     rw [← hn5] at HS5 L5 HC3
     rw [← hn6] at HS6 L6 HC4
     simp only [← hn5, ← hn6]
     clear HS3 HS4 HFE HFH HE3 HH3 hn5 hn6
     obtain ⟨k, hk, hk63⟩ := HSH.out rfl
     have HK := kp hk
     subst hk
     clear HSH
     have FMR := kp (MR.out _ _ _ HX.out.blk)
     go_wp2_with (first | (with_reducible refine wpl_loadm (o := ⟨some 51, _, _, _, _, _⟩) rfl rfl row_aid FMR.out rfl DR.out.len ?_))
     refine (tis5_any HTR.out DR.out _ HS5.out HC3.out (by have := L5.out; omega) HI.out (by omega) HT.out).mono ?_
     clear cs ce cp ch cq FMR HS5 HC3 HI
     rintro e w2_ ⟨rfl, hb_⟩
     have hb_ := hb_
     clear hb_
     replace HB := kp (HB.out.grow' hb_)
     replace HX := kp (HX.out.grow hb_)
     replace HR := kp (HR.out.grow hb_)
     replace HT := kp (HT.out.grow hb_)
     replace HS6 := kp (HS6.out.grow hb_)
     clear hb_
     try clear w_
     rename World => w_
     cases tr with
     | false =>
      have HF := kp (show res = false by rw [HRES.out]; simp)
      go_wp2_with fail
      go_ret
      exact ⟨by rw [HF.out]; rfl, HB.out⟩
     | true =>
      have ch := HX.out.blk.at_ IA.out.2.2.2.2.1
      have FMT := kp (MT.out _ _ _ HX.out.blk)
      go_wp2_with (first | (with_reducible refine wpl_loadmw (o := ⟨some 63, _, _, _, _, _⟩) (by first | rfl | (go_simp; done) | fail) rfl row_aid FMT.out rfl DT.out.len ?_))
      by_cases hkN : k < N
      ·have HTB := kp (show decide (tagB (tagB seed [UInt8.ofNat k]) (putHB x.h) = x.tag) = tg by
        rw [← HTG.out]; unfold tagC keyS; rw [← HJ1.out]; simp [hkN])
       refine (ris_b (k := k) HTB.out (ringB_at seed hkN) DT.out _ HR.out hN HS6.out HC4.out (by have := L6.out; omega) HT.out).mono ?_
       clear ch FMT
       rintro e w2_ ⟨rfl, hb_⟩
       have hb_ := hb_
       clear hb_
       replace HB := kp (HB.out.grow' hb_)
       clear hb_
       try clear w_
       rename World => w_
       have HF := kp (show res = tg by rw [HRES.out]; simp)
       go_wp2_with fail
       go_ret
       exact ⟨by rw [HF.out]; rfl, HB.out⟩
      ·have HTB := kp (show tg = false by
        rw [← HTG.out]; unfold tagC; rw [← HJ1.out]; simp [hkN])
       refine (ris_no (k : Int) DT.out _ HR.out (by omega)).mono ?_
       clear ch FMT
       rintro e w2_ ⟨rfl, hb_⟩
       have hb_ := hb_
       clear hb_
       replace HB := kp (HB.out.grow' hb_)
       clear hb_
       try clear w_
       rename World => w_
       have HF := kp (show res = false by rw [HRES.out, HTB.out]; simp)
       go_wp2_with fail
       go_ret
       exact ⟨by rw [HF.out]; rfl, HB.out⟩
set_option maxRecDepth 100000 in
set_option maxHeartbeats 2000000 in
theorem cis_nil {A2 : Option Addr} {n2 c2 : Nat} {x : Cer} (w : World) (hx : x.ok) :
  Calls Tryz.prog 8 #[.pointer none, .agg (certV (.slice A2 n2 c2) x).toArray] w fun e w' => e = .returned (.bool false) ∧ Below w.heap.size w w' := by
 have HB := kp (Below.refl w.heap.size w)
 have HE := kp (fun w => eput_any x.e w hx.1); have HH := kp (fun w => hput_any x.h w hx.2.2.1)
 have HD := kp (cert_cl (v := .slice A2 n2 c2) rfl hx)
 have LE := kp (entV_length hx.1); have LH := kp (hdrV_length hx.2.2.1)
 have ME := kp (fun w g t hb => midCE (c := x) (v := .slice A2 n2 c2) (w := w) (g := g) (t := t) hb)
 have MH := kp (fun w g t hb => midCH (c := x) (v := .slice A2 n2 c2) (w := w) (g := g) (t := t) hx hb)
 obtain ⟨xv, hxv⟩ : ∃ v, v = certV (.slice A2 n2 c2) x := ⟨_, rfl⟩
 obtain ⟨ev, hev⟩ : ∃ v, v = entV x.e := ⟨_, rfl⟩
 obtain ⟨hv, hhv⟩ : ∃ v, v = hdrV x.h := ⟨_, rfl⟩
 rw [← hxv] at HD ME MH ⊢
 rw [← hev] at HE LE ME
 rw [← hhv] at HH LH MH
 clear hx hxv hev hhv
 go_enter Tryz.func8, Tryz.ntmps8
 go_wp2_with (first | (with_reducible refine wpl_box (o := ⟨some 3, _, _, _, _, _⟩) rfl rfl rfl ?_))
 intro w2_ hb2_ hb_ hsz2_
 have HX_ := kp (at_mk hb2_ HD.out.len)
 clear hb2_ hsz2_
 replace HB := kp (HB.out.grow' hb_)
 have HX := HX_
 clear hb_ HX_
 try clear w_
 rename World => w_
 have FME := kp (ME.out _ _ _ HX.out.blk)
 go_wp2_with (first | (with_reducible refine wpl_loadm (o := ⟨some 11, _, _, _, _, _⟩) rfl rfl row_entry FME.out rfl LE.out ?_))
 refine (HE.out _).mono ?_
 rintro e w2_ ⟨A3, c3, rfl, hs3, hc3, hb_⟩
 clear hs3 hc3 FME HE ME
 have hb_ := hb_
 clear hb_
 replace HB := kp (HB.out.grow' hb_)
 replace HX := kp (HX.out.grow hb_)
 clear hb_
 try clear w_
 rename World => w_
 have FMH := kp (MH.out _ _ _ HX.out.blk)
 go_wp2_with (first | (with_reducible refine wpl_loadm (o := ⟨some 17, _, _, _, _, _⟩) rfl rfl row_header FMH.out rfl LH.out ?_))
 refine (HH.out _).mono ?_
 rintro e w2_ ⟨A4, c4, rfl, hs4, hc4, hb_⟩
 clear hs4 hc4 FMH HH MH
 have hb_ := hb_
 clear hb_
 replace HB := kp (HB.out.grow' hb_)
 replace HX := kp (HX.out.grow hb_)
 clear hb_
 try clear w_
 rename World => w_
 go_wp2_with fail
 go_ret
 exact ⟨rfl, HB.out⟩
def noCer : Cer := ⟨noEnt, [], noHdr, zeroD⟩
theorem noCer_ok : noCer.ok := ⟨noEnt_ok, by simp [noCer], noHdr_ok, by simp [noCer, zeroD]⟩
def mkC (seed : List UInt8) (N : Nat) (ls : List (List UInt8)) (e : Ent) (h : Hdr) : Cer := ⟨e, pathI ls 1, h, if 0 ≤ h.shard ∧ h.shard < N then tagB (keyS seed h.shard) (putHB h) else zeroD⟩
def mkOK (seed : List UInt8) (N : Nat) (ls : List (List UInt8)) (e : Ent) (h : Hdr) : Bool := rightH h && isC seed N (mkC seed N ls e h)
def mkR (seed : List UInt8) (N : Nat) (ls : List (List UInt8)) (e : Ent) (h : Hdr) : Cer := if mkOK seed N ls e h = true then mkC seed N ls e h else noCer
theorem mkC_ok {seed : List UInt8} {N : Nat} {ls : List (List UInt8)} {e : Ent} {h : Hdr} (he : e.ok) (hh : h.ok) : (mkC seed N ls e h).ok := by
 refine ⟨he, pathI_32 ls 1, hh, ?_⟩
 show (if 0 ≤ h.shard ∧ h.shard < N then tagB (keyS seed h.shard) (putHB h) else zeroD).length = 32
 split
 ·exact tagB_length _ _
 ·simp [zeroD]
theorem built_cert0 (parts : List (Nat × Value)) : Tryz.prog.built 35 parts = Instr.fill (fun i => (#[(0, 37), (37, 1), (38, 67), (105, 32)] : Array (Nat × Nat))[i]?) (certV (.slice none 0 0) noCer).toArray parts := by kernel_rfl
theorem built_certE : Tryz.prog.built 35 [] = some (certV (.slice none 0 0) noCer).toArray := by rw [built_cert0]; rfl
theorem zero_cert : (Tryz.prog.info? 35).map (·.zero) = some (some (.agg (certV (.slice none 0 0) noCer).toArray)) := by kernel_rfl
theorem len_cert : (certV (.slice none 0 0) noCer).length = 137 := certV_len noCer_ok
theorem splice_c1 {v : Value} {c : Cer} {e : Ent} (hc : c.ok) (he : e.ok) : splice (certV v c) 0 (entV e) = certV v { c with e := e } := by
 have := splice_mid (pre := ([] : List Value)) (old := entV c.e) (new := entV e) (post := v :: (hdrV c.h ++ c.tag.map B)) (off := 0) rfl (by rw [entV_length hc.1, entV_length he])
 exact this
theorem splice_c2 {u v : Value} {c : Cer} (hc : c.ok) : splice (certV v c) 37 [u] = certV u c := by
 have := splice_mid (pre := entV c.e) (old := [v]) (new := [u]) (post := hdrV c.h ++ c.tag.map B) (off := 37) (entV_length hc.1) rfl
 exact this
theorem splice_c3 {v : Value} {c : Cer} {h : Hdr} (hc : c.ok) (hh : h.ok) : splice (certV v c) 38 (hdrV h) = certV v { c with h := h } := by
 have := splice_mid (pre := entV c.e ++ [v]) (old := hdrV c.h) (new := hdrV h) (post := c.tag.map B) (off := 38) (by rw [List.length_append, entV_length hc.1]; rfl) (by rw [hdrV_length hc.2.2.1, hdrV_length hh])
 simpa [certV] using this
theorem splice_c4 {v : Value} {c : Cer} {d : List UInt8} (hc : c.ok) (hd : d.length = 32) : splice (certV v c) 105 (d.map B) = certV v { c with tag := d } := by
 have := splice_mid (pre := entV c.e ++ v :: hdrV c.h) (old := c.tag.map B) (new := d.map B) (post := ([] : List Value)) (off := 105) (by rw [List.length_append, entV_length hc.1, List.length_cons, hdrV_length hc.2.2.1]) (by rw [List.length_map, List.length_map, hc.2.2.2, hd])
 simpa [certV] using this
theorem bt_cert {x : Cer} (hx : x.ok) {A : Option Addr} {n c : Nat} : Tryz.prog.built 35 [(0, .agg (entV x.e).toArray), (1, .slice A n c), (2, .agg (hdrV x.h).toArray), (3, .agg (x.tag.map B).toArray)] = some (certV (.slice A n c) x).toArray := by
 have k1 : ({ noCer with e := x.e } : Cer).ok := ⟨hx.1, noCer_ok.2.1, noCer_ok.2.2.1, noCer_ok.2.2.2⟩
 have k3 : ({ noCer with e := x.e, h := x.h } : Cer).ok := ⟨hx.1, noCer_ok.2.1, hx.2.2.1, noCer_ok.2.2.2⟩
 have l1 := certV_len (v := .slice none 0 0) noCer_ok
 have l2 := certV_len (v := .slice none 0 0) k1
 have l3 := certV_len (v := .slice A n c) k1
 have l4 := certV_len (v := .slice A n c) k3
 rw [built_cert0, fill_cons (off := 0) (s := 37) (cs := entV x.e) rfl rfl (entV_length hx.1) (by rw [l1]; omega), splice_c1 noCer_ok hx.1,
  fill_cons (off := 37) (s := 1) (cs := [.slice A n c]) rfl rfl rfl (by rw [l2]; omega), splice_c2 k1,
  fill_cons (off := 38) (s := 67) (cs := hdrV x.h) rfl rfl (hdrV_length hx.2.2.1) (by rw [l3]; omega), splice_c3 k1 hx.2.2.1,
  fill_cons (off := 105) (s := 32) (cs := x.tag.map B) rfl rfl (by rw [List.length_map]; exact hx.2.2.2) (by rw [l4]; omega), splice_c4 k3 hx.2.2.2, fill_nil]
 rfl
theorem sgn_any {seed bs : List UInt8} {g : Nat} {A A2 : Option Addr} {N c n2 c2 : Nat} (s : Int) {zs : List Value} (hz : Dig zs (if 0 ≤ s ∧ s < N then tagB (keyS seed s) bs else zeroD)) (w : World) (hr : RingAt w g A N c (ringB seed N)) (hN : N ≤ 64) (hs2 : Sl w w.heap.size 1 A2 n2 (bs.map B)) (hc2 : n2 ≤ c2) (hn2 : n2 ≤ 1000000) (ht : Tabs w) :
  Calls Tryz.prog 49 #[.pointer (some ⟨g, 0, none⟩), .int .i64 s, .slice A2 n2 c2] w fun e w' => e = .returned (.tuple #[.agg zs.toArray, .bool (decide (0 ≤ s ∧ s < N))]) ∧ Below w.heap.size w w' := by
 by_cases h : 0 ≤ s ∧ s < N
 ·rw [if_pos h] at hz
  obtain ⟨k, rfl⟩ : ∃ k : Nat, s = (k : Int) := ⟨s.toNat, by omega⟩
  have e : decide ((0 : Int) ≤ (k : Int) ∧ (k : Int) < N) = true := by simp only [decide_eq_true_eq]; exact h
  rw [e]
  exact sign_yes (ringB_at seed (by omega)) hz w hr hN hs2 hc2 hn2 ht
 ·rw [if_neg h] at hz
  have e : decide ((0 : Int) ≤ s ∧ s < N) = false := by simp only [decide_eq_false_iff_not]; exact h
  rw [e]
  exact sign_no s (by rw [hz.1]; simp [zeroD]) w hr h
theorem ls_path_any {w : World} {A : Option Addr} {n c : Nat} {ls ds : List (List UInt8)} {i : Int} (h : LS w A n c ls) (hd : pathI ls i = ds) (hn : n ≤ 1000000) (hl : ∀ l ∈ ls, l.length ≤ 1000000) (ht : Tabs w) :
  Calls Tryz.prog 50 #[.slice A n c, .int .i64 i] w fun e w' => ∃ A' c', e = .returned (.slice A' ds.length c') ∧ OwnI w' w.heap.size A' ds.length c' ds ∧ Below w.heap.size w w' := by
 obtain ⟨ps, hp, hm, hc⟩ := h
 exact (path_any n n c A ps i ds w (Nat.le_refl _) (by rw [hm]; exact hd) hp hc hn (fun p hp => hl _ (by rw [← hm]; exact List.mem_map_of_mem hp)) ht)
theorem Ids.off {w w' : World} {A : Option Addr} {n c g : Nat} {ds : List (List UInt8)} (h : Ids w A n c ds) (hg : w.grownBy w' (some g)) (hne : ∀ k, A.map Addr.block = some k → g < k) : Ids w' A n c ds := by
 obtain ⟨⟨h0, h1⟩, h2⟩ := h
 refine ⟨⟨h0, fun hn => ?_⟩, h2⟩
 obtain ⟨b, off, e, hb, hc⟩ := h1 hn
 refine ⟨b, off, e, Nat.lt_of_lt_of_le hb hg.size, fun j u hu => ?_⟩
 exact (World.cell?_of_block (hg.block b hb (fun q => by have := hne b (by rw [e]; rfl); injection q with q; omega))).trans (hc j u hu)
set_option maxRecDepth 100000 in
set_option maxHeartbeats 4000000 in
theorem cmake_any {seed : List UInt8} {g : Nat} {A : Option Addr} {N c : Nat} {A2 : Option Addr} {n2 c2 : Nat} {ls : List (List UInt8)} {x : Ent} {h : Hdr} {res : Bool} {y : Cer} (hres : mkOK seed N ls x h = res) (hy : mkR seed N ls x h = y) (w : World) (hr : RingAt w g A N c (ringB seed N)) (hN : N ≤ 64) (hx : x.ok) (hh : h.ok) (hl : LS w A2 n2 c2 ls) (hn : n2 = ls.length) (hnm : n2 ≤ 1000000) (hlm : ∀ l ∈ ls, l.length ≤ 1000000) (ht : Tabs w) :
  Calls Tryz.prog 15 #[.pointer (some ⟨g, 0, none⟩), .slice A2 n2 c2, .agg (entV x).toArray, .agg (hdrV h).toArray] w fun e w' => ∃ A' n' c', e = .returned (.tuple #[.agg (certV (.slice A' n' c') y).toArray, .bool res]) ∧ Ids w' A' n' c' y.path ∧ n' ≤ 1000000 ∧ (∀ k, A'.map Addr.block = some k → w.heap.size ≤ k) ∧ Below w.heap.size w w' := by
 have HR := kp hr; have HL := kp hl; have HT := kp ht
 have HB := kp (Below.refl w.heap.size w)
 have HG0 := kp (Nat.le_refl w.heap.size)
 have HH := kp (fun w => hput_any h w hh)
 obtain ⟨rh, hrh⟩ : ∃ q, q = rightH h := ⟨_, rfl⟩
 have HFH := kp (show rh = true → hformB h = putHB h ∧ (putHB h).length ≤ 91 from fun k => by rw [hrh] at k; exact ⟨by unfold hformB; rw [if_pos k], putHB_len hh k⟩)
 rw [← hrh] at HH
 have HKO := mkC_ok (seed := seed) (N := N) (ls := ls) hx hh
 have HY0 := kp (show res = false → y = noCer from fun k => by rw [← hy]; unfold mkR; rw [hres, if_neg (by simp [k])])
 have HY1 := kp (show res = true → y = mkC seed N ls x h from fun k => by rw [← hy]; unfold mkR; rw [hres, if_pos k])
 obtain ⟨is, his⟩ : ∃ q, isC seed N (mkC seed N ls x h) = q := ⟨_, rfl⟩
 have HRES := kp (show res = (rh && is) by rw [← hres]; unfold mkOK; rw [his, hrh])
 have HIS := kp (fun A2 n2 c2 w hr hn hi ht => cis_any (seed := seed) (g := g) (A := A) (c := c) (A2 := A2) (n2 := n2) (c2 := c2) his w hr hN HKO hn hi ht)
 have BT := kp (fun A n c => bt_cert HKO (A := A) (n := n) (c := c))
 have CL := kp (fun (A : Option Addr) (n c : Nat) => cert_cl (v := .slice A n c) rfl HKO)
 have HZ := kp (show Dig ((mkC seed N ls x h).tag.map B) (if 0 ≤ h.shard ∧ h.shard < N then tagB (keyS seed h.shard) (putHB h) else zeroD) from ⟨rfl, HKO.2.2.2⟩)
 have SG := kp (fun A2 n2 c2 w hr hs hc hn ht => sgn_any (seed := seed) (bs := putHB h) (g := g) (A := A) (A2 := A2) (N := N) (c := c) (n2 := n2) (c2 := c2) h.shard HZ.out w hr hN hs hc hn ht)
 have HP := kp (fun w hl ht => ls_path_any (A := A2) (n := n2) (c := c2) (i := 1) (w := w) hl (show pathI ls 1 = (mkC seed N ls x h).path from rfl) hnm hlm ht)
 have HP32 := kp (show ∀ d ∈ (mkC seed N ls x h).path, d.length = 32 from pathI_32 ls 1)
 have HPL := kp (show (mkC seed N ls x h).path.length ≤ 1000000 by have h1 := pathI_le ls 1; show (pathI ls 1).length ≤ _; omega)
 have HDE := kp (show Cl 37 (entV x) from ⟨entV_length hx, fun u hu => cert_one (.slice none 0 0) rfl ⟨x, [], h, zeroD⟩ u (by simp [certV, hu])⟩)
 have HDH := kp (hv_of hh)
 have IH := kp (hdr_at hh).1
 have BE := kp built_certE
 have CE := kp (cert_cl (v := .slice none 0 0) rfl noCer_ok)
 have ZC := kp zero_cert
 have LC := kp len_cert
 obtain ⟨dd, hdd⟩ : ∃ q, decide (0 ≤ h.shard ∧ h.shard < N) = q := ⟨_, rfl⟩
 rw [hdd] at SG
 obtain ⟨mk, hmk⟩ : ∃ q, q = mkC seed N ls x h := ⟨_, rfl⟩
 have HM1 := kp (show mk.e = x by rw [hmk]; rfl)
 have HM2 := kp (show mk.h = h by rw [hmk]; rfl)
 rw [← hmk] at HIS BT CL HZ SG HP HPL HP32 HY1
 rw [HM1.out, HM2.out] at BT
 obtain ⟨ev, hev⟩ : ∃ v, v = entV x := ⟨_, rfl⟩
 obtain ⟨hv, hhv⟩ : ∃ v, v = hdrV h := ⟨_, rfl⟩
 obtain ⟨tv, htv⟩ : ∃ v, v = mk.tag.map B := ⟨_, rfl⟩
 obtain ⟨sh, hsh⟩ : ∃ v, v = h.shard := ⟨_, rfl⟩
 obtain ⟨np, hnp⟩ : ∃ v, v = mk.path.length := ⟨_, rfl⟩
 obtain ⟨zc, hzc⟩ : ∃ v, v = certV (.slice none 0 0) noCer := ⟨_, rfl⟩
 have HZC := kp hzc
 rw [← hev] at BT HDE ⊢
 rw [← hhv] at BT HDH HH IH ⊢
 rw [← htv] at BT HZ SG
 rw [← hsh] at SG IH
 rw [← hnp] at HP HPL
 have HNP := kp hnp
 rw [← hzc] at BE CE ZC LC
 clear hres hy hr hl ht hx hh hn hlm hrh his hmk hev hhv htv hdd hsh hnp HM1 HM2 HKO hzc
 have row_e := row_entry
 have RE := kp row_e
 clear row_e
 go_enter Tryz.func15, Tryz.ntmps15
 go_wp2_with (first | (with_reducible refine wpl_box (o := ⟨some 6, _, _, _, _, _⟩) rfl rfl rfl ?_))
 intro w2_ hb2_ hb_ hsz2_
 have HX_ := kp (at_mk hb2_ HDE.out.len)
 clear hb2_ hsz2_
 replace HB := kp (HB.out.grow' hb_)
 replace HR := kp (HR.out.grow hb_)
 replace HL := kp (HL.out.grow hb_)
 replace HT := kp (HT.out.grow hb_)
 have HXE := HX_
 clear hb_ HX_
 try clear w_
 rename World => w_
 go_wp2_with (first | (with_reducible refine wpl_box (o := ⟨some 7, _, _, _, _, _⟩) rfl rfl rfl ?_))
 intro w2_ hb2_ hb_ hsz2_
 have HX_ := kp (at_mk hb2_ HDH.out.len)
 clear hb2_ hsz2_
 have HG_ := kp HB.out.size
 replace HB := kp (HB.out.grow' hb_)
 replace HXE := kp (HXE.out.grow hb_)
 replace HR := kp (HR.out.grow hb_)
 replace HL := kp (HL.out.grow hb_)
 replace HT := kp (HT.out.grow hb_)
 generalize hg_ : w_.heap.size = g1 at HX_ HG_ ⊢
 clear hg_
 have HXH_g := HG_
 clear HG_
 have HXH := HX_
 clear hb_ HX_
 try clear w_
 rename World => w_
 go_wp2_with (first | (with_reducible refine wpl_alloc (o := ⟨some 8, _, _, _, _, _⟩) rfl rfl ZC.out ?_))
 intro w2_ hb2_ hb_ hsz2_
 have HC := kp (at_mk hb2_ LC.out)
 have HG := kp HB.out.size
 generalize hg_ : w_.heap.size = gc at HC HG ⊢
 clear hb2_ hsz2_ hg_
 have hb_ := hb_
 clear hb_
 replace HB := kp (HB.out.grow' hb_)
 replace HXE := kp (HXE.out.grow hb_)
 replace HXH := kp (HXH.out.grow hb_)
 replace HR := kp (HR.out.grow hb_)
 replace HL := kp (HL.out.grow hb_)
 replace HT := kp (HT.out.grow hb_)
 clear hb_
 try clear w_
 rename World => w_
 go_wp2_with (first | (with_reducible refine wpl_loadb (o := ⟨some 16, _, _, _, _, _⟩) rfl rfl row_header HXH.out.blk rfl HXH.out.len ?_))
 refine (HH.out _).mono ?_
 rintro e w2_ ⟨A3, c3, rfl, hs3, hc3, hb_⟩
 have HS3 := kp hs3; have HC3 := kp hc3
 clear hs3 hc3 HH
 have hb_ := hb_
 clear hb_
 replace HB := kp (HB.out.grow' hb_)
 replace HXE := kp (HXE.out.grow hb_)
 replace HXH := kp (HXH.out.grow hb_)
 replace HC := kp (HC.out.grow hb_)
 replace HR := kp (HR.out.grow hb_)
 replace HL := kp (HL.out.grow hb_)
 replace HT := kp (HT.out.grow hb_)
 clear hb_
 try clear w_
 rename World => w_
 cases rh with
 | false =>
  have HF := kp (show res = false by rw [HRES.out]; simp)
  go_wp2_with (first | (with_reducible refine wpl_stop (o := ⟨some 26, _, _, _, _, _⟩) ?_))
  refine stop_go ?_
  refine wpl_build rfl rfl BE.out ?_
  go_wp2_with (first | (with_reducible refine wpl_storeb (o := ⟨none, .store _ _ _, _, _, _, _⟩) rfl rfl row_cert HC.out.blk rfl rfl HC.out.len CE.out.len CE.out.one ?_))
  intro w2_ hb2_ hg2_ hsz2_
  replace HB := kp (put_below HB.out HG.out hg2_)
  replace HC := kp (at_mk hb2_ CE.out.len)
  clear hb2_ hg2_ hsz2_
  try clear w_
  rename World => w_
  go_wp2_with fail
  refine ret_cell2 rfl row_cert HC.out.blk rfl HC.out.len rfl rfl ?_
  refine ⟨none, 0, 0, ?_, ?_, by omega, (fun k hk => by cases hk), HB.out⟩
  ·rw [HF.out, HY0.out HF.out, ← HZC.out]; rfl
  ·rw [HY0.out HF.out]; exact Ids.none_ _
 | true =>
  have HH3 := kp (HFH.out rfl)
  have HS6 := kp (show Sl w_ w_.heap.size 1 A3 (hformB h).length ((putHB h).map B) by have k := HS3.out; rw [HH3.out.1] at k ⊢; exact k)
  have L6 := kp (show (hformB h).length ≤ 91 by rw [HH3.out.1]; exact HH3.out.2)
  obtain ⟨n6, hn6⟩ : ∃ k, k = (hformB h).length := ⟨_, rfl⟩
  rw [← hn6] at HS6 L6 HC3
  simp only [← hn6]
  clear HS3 HFH HH3 hn6
  have chs := HXH.out.blk.at_ IH.out
  go_wp2_with fail
  refine (SG.out _ _ _ _ HR.out HS6.out HC3.out (by have := L6.out; omega) HT.out).mono ?_
  clear chs HS6 HC3 SG
  rintro e w2_ ⟨rfl, hb_⟩
  have hb_ := hb_
  clear hb_
  replace HB := kp (HB.out.grow' hb_)
  replace HXE := kp (HXE.out.grow hb_)
  replace HXH := kp (HXH.out.grow hb_)
  replace HC := kp (HC.out.grow hb_)
  replace HR := kp (HR.out.grow hb_)
  replace HL := kp (HL.out.grow hb_)
  replace HT := kp (HT.out.grow hb_)
  clear hb_
  try clear w_
  rename World => w_
  go_wp2_with (first | (with_reducible refine wpl_alloc (o := ⟨some 12, _, _, _, _, _⟩) rfl rfl zero_id ?_))
  intro w1_ hb1_ hbw1_ hsz1_
  have HB1_ := kp (at_mk hb1_ len_id)
  have HBW1_ := kp hbw1_
  have HZ1_ := kp hsz1_
  clear hb1_ hbw1_ hsz1_
  go_wp2_with (first | (with_reducible refine wpl_storeb (o := ⟨none, .store _ _ _, _, _, _, _⟩) rfl rfl row_id HB1_.out.blk rfl rfl HB1_.out.len HZ.out.len HZ.out.one ?_))
  intro w2_ hb2_ hg2_ hsz2_
  have hb_ := var_grow HBW1_.out HZ1_.out hg2_
  have HX_ := kp (at_mk hb2_ HZ.out.len)
  clear hb2_ hg2_ hsz2_ HB1_ HBW1_ HZ1_
  replace HB := kp (HB.out.grow' hb_)
  replace HXE := kp (HXE.out.grow hb_)
  replace HXH := kp (HXH.out.grow hb_)
  replace HC := kp (HC.out.grow hb_)
  replace HR := kp (HR.out.grow hb_)
  replace HL := kp (HL.out.grow hb_)
  replace HT := kp (HT.out.grow hb_)
  generalize hg_ : w_.heap.size = gv at HX_ ⊢
  clear hg_
  have HV := HX_
  clear hb_ HX_
  clear w1_
  try clear w_
  rename World => w_
  try go_wp2_with fail
  repeat' (first | (with_reducible refine wp_plan (id := 5) Grow [1,0,4,1,1,0,4,3] (.get 0 (.get 1 (.get 3 (.get 4 (.fork 2 (.get 5 (.act 6 (.act 7 .done))) (.act 6 (.act 2 (.get 5 (.act 7 .done))))))))) (by kernel_rfl) (by kernel_rfl) Grow.refl Grow.trans ?_) | go_values | go_skip | go_guarded | go_step | go_upon | go_back)
  intro w_ hd_
  have hb_ := hd_.grow
  replace HB := kp (HB.out.grow' hb_)
  replace HXE := kp (HXE.out.grow hb_)
  replace HXH := kp (HXH.out.grow hb_)
  replace HC := kp (HC.out.grow hb_)
  replace HV := kp (HV.out.grow hb_)
  replace HR := kp (HR.out.grow hb_)
  replace HL := kp (HL.out.grow hb_)
  replace HT := kp (HT.out.grow hb_)
  clear hb_ hd_
  repeat (first | (refine pl_loadb rfl rfl (by first | exact wanted_none rfl | (go_simp; done) | rfl) rfl row_entry HXE.out.blk (by first | rfl | (go_simp; done) | rfl) HXE.out.len (fun K hK => ?_); go_simp; refine hK _ _ ?_; clear hK K) | (refine pl_loadbnow rfl rfl (by first | exact wanted_none rfl | (go_simp; done) | rfl) rfl row_entry HXE.out.blk (by first | rfl | (go_simp; done) | rfl) HXE.out.len (fun K hK => ?_); go_simp; refine hK _ _ ?_; clear hK K) | (refine pl_loadb rfl rfl (by first | exact wanted_none rfl | (go_simp; done) | rfl) rfl row_header HXH.out.blk (by first | rfl | (go_simp; done) | rfl) HXH.out.len (fun K hK => ?_); go_simp; refine hK _ _ ?_; clear hK K) | (refine pl_loadbnow rfl rfl (by first | exact wanted_none rfl | (go_simp; done) | rfl) rfl row_header HXH.out.blk (by first | rfl | (go_simp; done) | rfl) HXH.out.len (fun K hK => ?_); go_simp; refine hK _ _ ?_; clear hK K) | (refine pl_loadb rfl rfl (by first | exact wanted_none rfl | (go_simp; done) | rfl) rfl row_id HV.out.blk (by first | rfl | (go_simp; done) | rfl) HV.out.len (fun K hK => ?_); go_simp; refine hK _ _ ?_; clear hK K) | (refine pl_loadbnow rfl rfl (by first | exact wanted_none rfl | (go_simp; done) | rfl) rfl row_id HV.out.blk (by first | rfl | (go_simp; done) | rfl) HV.out.len (fun K hK => ?_); go_simp; refine hK _ _ ?_; clear hK K) | (refine pl_calm rfl rfl (by first | exact wanted_none rfl | (go_simp; done) | rfl) (fun w_ => by first | (go_simp; rfl) | (go_simp; done) | rfl) (fun K hK => ?_); go_simp; refine hK _ _ ?_; clear hK K) | (refine pl_skip rfl (by first | (go_simp; done) | rfl) (fun K hK => ?_); go_simp; refine hK _ _ ?_; clear hK K) | (refine pl_skipa rfl (by first | (go_simp; done) | rfl) (fun K hK => ?_); go_simp; refine hK _ _ ?_; clear hK K))
  refine pl_fork rfl (by exact wanted_none rfl) (fun K hK => ?_) ?_
  ·skip
   go_wp2_with fail
   refine (HP.out _ HL.out HT.out).mono ?_
   rintro e w2_ ⟨A5, c5, rfl, hi_, hb_⟩
   have HOC := kp (show ∀ k, A5.map Addr.block = some k → gc < k from fun k hk => by have h1 := own_from hi_ k hk; have h2 := HC.out.lt; omega)
   have HI := kp (show Ids w2_ A5 np c5 mk.path from Ids.own hi_ HNP.out.symm HP32.out (own_cap hi_))
   go_wp2_with fail
   refine hK _ _ (fun _ => hb_) ?_
   clear hK K hi_ HXE HXH HV HL HP
   have hb_ := hb_
   clear hb_
   replace HB := kp (HB.out.grow' hb_)
   replace HC := kp (HC.out.grow hb_)
   replace HR := kp (HR.out.grow hb_)
   replace HT := kp (HT.out.grow hb_)
   clear hb_
   try clear w_
   rename World => w_
   have BT5 := kp (BT.out A5 np c5); have CL5 := kp (CL.out A5 np c5)
   obtain ⟨cv, hcv⟩ : ∃ v, v = certV (.slice A5 np c5) mk := ⟨_, rfl⟩
   have HCV := kp hcv
   rw [← hcv] at BT5 CL5
   have HIS5 := kp (HIS.out A5 np c5)
   rw [← hcv] at HIS5
   clear BT CL HIS hcv
   refine pl_calm rfl rfl (by exact wanted_none rfl) (fun w_ => by exact exec_build rfl BT5.out w_) (fun K hK => ?_)
   go_simp
   refine hK _ _ ?_
   clear hK K
   refine pl_act rfl (by exact wanted_none rfl) (fun K hK => ?_)
   show wpList _ _ _ [⟨some _, .alloc _, _, _, _, _⟩] _ _
   go_wp2_with (first | (with_reducible refine wpl_alloc (o := ⟨some 14, _, _, _, _, _⟩) rfl rfl ZC.out ?_))
   intro w2_ hb2_ hb_ hsz2_
   have HX := kp (at_mk hb2_ LC.out)
   have HGX := kp HB.out.size
   generalize hg_ : w_.heap.size = gx at HX HGX ⊢
   go_wp2_with fail
   refine hK _ _ (fun _ => hb_) ?_
   have HGA := kp hb_
   have HXG := kp (show w_.heap.size ≤ gx by rw [← hg_]; exact Nat.le_refl _)
   clear hK K hb2_ hsz2_ hg_
   replace HB := kp (HB.out.grow' hb_)
   clear hb_
   refine pl_act rfl (by first | exact wanted_none rfl | (go_simp; done) | rfl) (fun K hK => ?_)
   show wpList _ _ _ [⟨none, .store _ _ _, _, _, _, _⟩] _ _
   go_wp2_with (first | (with_reducible refine wpl_storeb (o := ⟨none, .store _ _ _, _, _, _, _⟩) rfl rfl row_cert HX.out.blk rfl rfl HX.out.len CL5.out.len CL5.out.one ?_))
   intro w3_ hb3_ hg3_ hsz3_
   have hgr_ := put_below HGA.out HXG.out hg3_
   replace HX := kp (at_mk hb3_ CL5.out.len)
   replace HC := kp (HC.out.grow hgr_)
   replace HR := kp (HR.out.grow hgr_)
   replace HT := kp (HT.out.grow hgr_)
   replace HI := kp (HI.out.grow hgr_)
   replace HB := kp (put_below HB.out HGX.out hg3_)
   clear hb3_ hg3_ hsz3_ hgr_ HGA HXG
   try clear w2_
   try clear w_
   rename World => w_
   go_wp2_with fail
   refine hK _ _ (fun h => by cases h) ?_
   clear hK K
   repeat ((first | refine pl_calm rfl rfl (by first | exact wanted_none rfl | (go_simp; done) | rfl) (fun w_ => by first | (go_simp; rfl) | (go_simp; done) | rfl) (fun K hK => ?_) | refine pl_skip rfl (by first | (go_simp; done) | rfl) (fun K hK => ?_) | refine pl_skipa rfl (by first | (go_simp; done) | rfl) (fun K hK => ?_)); go_simp; refine hK _ _ ?_; clear hK K)
   refine pl_done ?_
   go_wp2_with (first | (with_reducible refine wpl_loadb (o := ⟨some 42, _, _, _, _, _⟩) rfl rfl row_cert HX.out.blk rfl HX.out.len ?_))
   refine (HIS5.out _ HR.out HPL.out HI.out HT.out).mono ?_
   rintro e w9_ ⟨rfl, hb_⟩
   clear HIS5 HR HT
   have hb_ := hb_
   clear hb_
   replace HB := kp (HB.out.grow' hb_)
   replace HX := kp (HX.out.grow hb_)
   replace HC := kp (HC.out.grow hb_)
   replace HI := kp (HI.out.grow hb_)
   clear hb_
   try clear w_
   rename World => w_
   cases is with
   | false =>
    have HF := kp (show res = false by rw [HRES.out]; simp)
    go_wp2_with (first | (with_reducible refine wpl_stop (o := ⟨some 45, _, _, _, _, _⟩) ?_))
    refine stop_go ?_
    refine wpl_build rfl rfl BE.out ?_
    go_wp2_with (first | (with_reducible refine wpl_storeb (o := ⟨none, .store _ _ _, _, _, _, _⟩) rfl rfl row_cert HC.out.blk rfl rfl HC.out.len CE.out.len CE.out.one ?_))
    intro w2_ hb2_ hg2_ hsz2_
    replace HB := kp (put_below HB.out HG.out hg2_)
    replace HC := kp (at_mk hb2_ CE.out.len)
    clear hb2_ hg2_ hsz2_
    try clear w_
    rename World => w_
    go_wp2_with fail
    refine ret_cell2 rfl row_cert HC.out.blk rfl HC.out.len rfl rfl ?_
    refine ⟨none, 0, 0, ?_, ?_, by omega, (fun k hk => by cases hk), HB.out⟩
    ·rw [HF.out, HY0.out HF.out, ← HZC.out]; rfl
    ·rw [HY0.out HF.out]; exact Ids.none_ _
   | true =>
    have HF := kp (show res = true by rw [HRES.out]; simp)
    go_wp2_with (first | (with_reducible refine wpl_loadb (o := ⟨some 46, _, _, _, _, _⟩) rfl rfl row_cert HX.out.blk rfl HX.out.len ?_) | (with_reducible refine wpl_storeb (o := ⟨none, .store _ _ _, _, _, _, _⟩) rfl rfl row_cert HC.out.blk rfl rfl HC.out.len CL5.out.len CL5.out.one ?_))
    intro w2_ hb2_ hg2_ hsz2_
    have HCC := kp (at_mk hb2_ CL5.out.len)
    have HI_ := kp (HI.out.off hg2_ HOC.out)
    have HB_ := kp (put_below HB.out HG.out hg2_)
    clear hb2_ hg2_ hsz2_
    go_wp2_with fail
    refine ret_cell2 rfl row_cert HCC.out.blk rfl HCC.out.len rfl rfl ?_
    refine ⟨A5, np, c5, ?_, ?_, HPL.out, (fun k hk => by have h1 := HOC.out k hk; have h2 := HG.out; omega), HB_.out⟩
    ·rw [HF.out, HY1.out HF.out, ← HCV.out]; rfl
    ·rw [HY1.out HF.out]; exact HI_.out
  ·skip
   refine pl_act rfl (by exact wanted_none rfl) (fun K hK => ?_)
   show wpList _ _ _ [⟨some _, .alloc _, _, _, _, _⟩] _ _
   go_wp2_with (first | (with_reducible refine wpl_alloc (o := ⟨some 14, _, _, _, _, _⟩) rfl rfl ZC.out ?_))
   intro w2_ hb2_ hb_ hsz2_
   have HX := kp (at_mk hb2_ LC.out)
   have HGX := kp HB.out.size
   generalize hg_ : w_.heap.size = gx at HX HGX ⊢
   go_wp2_with fail
   refine hK _ _ (fun _ => hb_) ?_
   have HGA := kp hb_
   have HXG := kp (show w_.heap.size ≤ gx by rw [← hg_]; exact Nat.le_refl _)
   replace HB := kp (HB.out.grow' hb_)
   replace HL := kp (HL.out.grow hb_); have HTL := kp (HT.out.grow hb_); have HXL := kp HX.out.lt; have HCL := kp (Nat.lt_of_lt_of_le HC.out.lt hb_.size)
   clear hK K hb2_ hsz2_ hg_ HXE HXH HV hb_
   refine pl_act rfl (by exact wanted_none rfl) (fun K hK => ?_)
   go_wp2_with fail
   refine (HP.out _ HL.out HTL.out).mono ?_
   rintro e w3_ ⟨A5, c5, rfl, hi_, hb_⟩
   have HO := kp hi_
   have HOC := kp (show ∀ k, A5.map Addr.block = some k → gc < k from fun k hk => by have h1 := own_from hi_ k hk; have h2 := HCL.out; omega)
   have HOX := kp (show ∀ k, A5.map Addr.block = some k → gx < k from fun k hk => by have h1 := own_from hi_ k hk; have h2 := HXL.out; omega)
   go_wp2_with fail
   refine hK _ _ (fun _ => hb_) ?_
   replace HGA := kp (HGA.out.grow' hb_)
   replace HX := kp (HX.out.grow hb_)
   replace HB := kp (HB.out.grow' hb_)
   clear hK K hi_ HL HP HTL HXL HCL hb_
   have BT5 := kp (BT.out A5 np c5); have CL5 := kp (CL.out A5 np c5)
   obtain ⟨cv, hcv⟩ : ∃ v, v = certV (.slice A5 np c5) mk := ⟨_, rfl⟩
   have HCV := kp hcv
   rw [← hcv] at BT5 CL5
   have HIS5 := kp (HIS.out A5 np c5)
   rw [← hcv] at HIS5
   clear BT CL HIS hcv
   refine pl_calm rfl rfl (by exact wanted_none rfl) (fun w_ => by exact exec_build rfl BT5.out w_) (fun K hK => ?_)
   go_simp
   refine hK _ _ ?_
   clear hK K
   refine pl_act rfl (by first | exact wanted_none rfl | (go_simp; done) | rfl) (fun K hK => ?_)
   show wpList _ _ _ [⟨none, .store _ _ _, _, _, _, _⟩] _ _
   go_wp2_with (first | (with_reducible refine wpl_storeb (o := ⟨none, .store _ _ _, _, _, _, _⟩) rfl rfl row_cert HX.out.blk rfl rfl HX.out.len CL5.out.len CL5.out.one ?_))
   intro w4_ hb3_ hg3_ hsz3_
   have hgr_ := put_below HGA.out HXG.out hg3_
   have HX_ := kp (at_mk hb3_ CL5.out.len)
   have HC_ := kp (HC.out.grow hgr_); have HR_ := kp (HR.out.grow hgr_); have HT_ := kp (HT.out.grow hgr_)
   have ho_ := own_kept HO.out hg3_ (fun k hk e => by have h1 := HOX.out k (by rw [hk]; rfl); injection e with e; omega)
   have HI_ := kp (show Ids w4_ A5 np c5 mk.path from Ids.own ho_ HNP.out.symm HP32.out (own_cap ho_))
   have HB_ := kp (put_below HB.out HGX.out hg3_)
   clear hb3_ hg3_ hsz3_ hgr_ ho_ HX HC HR HT HB HGA HXG HO HOX
   have HX := HX_; have HC := HC_; have HR := HR_; have HT := HT_; have HI := HI_; have HB := HB_
   clear HX_ HC_ HR_ HT_ HI_ HB_
   try clear w3_
   try clear w2_
   try clear w_
   rename World => w_
   go_wp2_with fail
   refine hK _ _ (fun h => by cases h) ?_
   clear hK K
   repeat ((first | refine pl_calm rfl rfl (by first | exact wanted_none rfl | (go_simp; done) | rfl) (fun w_ => by first | (go_simp; rfl) | (go_simp; done) | rfl) (fun K hK => ?_) | refine pl_skip rfl (by first | (go_simp; done) | rfl) (fun K hK => ?_) | refine pl_skipa rfl (by first | (go_simp; done) | rfl) (fun K hK => ?_)); go_simp; refine hK _ _ ?_; clear hK K)
   refine pl_done ?_
   go_wp2_with (first | (with_reducible refine wpl_loadb (o := ⟨some 42, _, _, _, _, _⟩) rfl rfl row_cert HX.out.blk rfl HX.out.len ?_))
   refine (HIS5.out _ HR.out HPL.out HI.out HT.out).mono ?_
   rintro e w9_ ⟨rfl, hb_⟩
   clear HIS5 HR HT
   have hb_ := hb_
   clear hb_
   replace HB := kp (HB.out.grow' hb_)
   replace HX := kp (HX.out.grow hb_)
   replace HC := kp (HC.out.grow hb_)
   replace HI := kp (HI.out.grow hb_)
   clear hb_
   try clear w_
   rename World => w_
   cases is with
   | false =>
    have HF := kp (show res = false by rw [HRES.out]; simp)
    go_wp2_with (first | (with_reducible refine wpl_stop (o := ⟨some 45, _, _, _, _, _⟩) ?_))
    refine stop_go ?_
    refine wpl_build rfl rfl BE.out ?_
    go_wp2_with (first | (with_reducible refine wpl_storeb (o := ⟨none, .store _ _ _, _, _, _, _⟩) rfl rfl row_cert HC.out.blk rfl rfl HC.out.len CE.out.len CE.out.one ?_))
    intro w2_ hb2_ hg2_ hsz2_
    replace HB := kp (put_below HB.out HG.out hg2_)
    replace HC := kp (at_mk hb2_ CE.out.len)
    clear hb2_ hg2_ hsz2_
    try clear w_
    rename World => w_
    go_wp2_with fail
    refine ret_cell2 rfl row_cert HC.out.blk rfl HC.out.len rfl rfl ?_
    refine ⟨none, 0, 0, ?_, ?_, by omega, (fun k hk => by cases hk), HB.out⟩
    ·rw [HF.out, HY0.out HF.out, ← HZC.out]; rfl
    ·rw [HY0.out HF.out]; exact Ids.none_ _
   | true =>
    have HF := kp (show res = true by rw [HRES.out]; simp)
    go_wp2_with (first | (with_reducible refine wpl_loadb (o := ⟨some 46, _, _, _, _, _⟩) rfl rfl row_cert HX.out.blk rfl HX.out.len ?_) | (with_reducible refine wpl_storeb (o := ⟨none, .store _ _ _, _, _, _, _⟩) rfl rfl row_cert HC.out.blk rfl rfl HC.out.len CL5.out.len CL5.out.one ?_))
    intro w2_ hb2_ hg2_ hsz2_
    have HCC := kp (at_mk hb2_ CL5.out.len)
    have HI_ := kp (HI.out.off hg2_ HOC.out)
    have HB_ := kp (put_below HB.out HG.out hg2_)
    clear hb2_ hg2_ hsz2_
    go_wp2_with fail
    refine ret_cell2 rfl row_cert HCC.out.blk rfl HCC.out.len rfl rfl ?_
    refine ⟨A5, np, c5, ?_, ?_, HPL.out, (fun k hk => by have h1 := HOC.out k hk; have h2 := HG.out; omega), HB_.out⟩
    ·rw [HF.out, HY1.out HF.out, ← HCV.out]; rfl
    ·rw [HY1.out HF.out]; exact HI_.out
open Go.RowKit
section
variable {P : Program} {ops : Array Oper} {rest : List Oper} {o : Oper} {a : Act} {w : World} {Q : Exit → Act → World → Prop}
theorem wpl_store1 (hgd : o.guard = none) {T : TypeId} {x y : Operand} (ho : o.op = .store T x y) {g i : Nat} {t : TypeId} {cs : List Value} {v : Value} (hb : Blk w g t cs) (hx : a.eval x = .pointer (some ⟨g, i, none⟩)) (hy : a.eval y = v)
  (hT : (P.info? T).map (·.size) = some 1) (hv : v.cells = #[v]) (h1 : v.oneCell' = true) (hi : i < cs.length)
  (h : ∀ w', Blk w' g t (cs.set i v) → w.grownBy w' (some g) → w'.heap.size = w.heap.size → wpList P ops Q rest (a.put o.dst undef) w') : wpList P ops Q (o :: rest) a w := by
 refine wpList_plain hgd fun K hK => ?_
 have hc := hb.at_ (List.getElem?_eq_getElem hi)
 have hf := hb.frozen i
 have hrun : (Instr.storeAt T (.pointer (some ⟨g, i, none⟩)) v).run P w = .ok () (w.setCell ⟨g, i, none⟩ v) := by
  obtain ⟨inf, hi2, hs⟩ := Option.map_eq_some_iff.1 hT
  have e0 : Addr.add ⟨g, i, none⟩ 0 = ⟨g, i, none⟩ := by rw [Addr.add_lit]; rfl
  have e1 : (store ⟨g, i, none⟩ v).run P w = .ok () (w.setCell ⟨g, i, none⟩ v) := by rw [run_store _ _ _ _ _ h1]; simp [stored, hc, hf]
  simp [Instr.storeAt, Instr.sureAddr, storeVar, sizeOf, typeInfo, hi2, hs, hv, storeCells, e0, e1]
 unfold Oper.wp execOp
 simp only [ho, hx, hy, Sem.run_bind, hrun, Result.andThen_ok, Sem.run_pure]
 exact hK _ _ (h _ (hb.set_ i v) (grown_set w g i v) (by simp))
end
end Go.Proofs.YtphmefhnffoafaaGreatDoor

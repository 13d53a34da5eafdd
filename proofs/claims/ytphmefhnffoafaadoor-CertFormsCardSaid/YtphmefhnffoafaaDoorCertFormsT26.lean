/- Contract of layer 6's Is outside the ring. -/
import Derived.Test.YtphmefhnffoafaaDoorCertFormsT19
import Derived.Test.YtphmefhnffoafaaDoorCertFormsT10
import Derived.Test.YtphmefhnffoafaaDoorCertFormsT23
import Derived.Test.YtphmefhnffoafaaDoorCertFormsT6
import Derived.Test.YtphmefhnffoafaaDoorCertFormsT25
set_option linter.unusedSimpArgs false
/- Contract of layer 6's Is outside the ring. -/
namespace Go.Proofs.YtphmefhnffoafaaDoor
open Go.RowKit Go.Shelf
set_option linter.unusedVariables false
set_option maxRecDepth 100000 in
set_option maxHeartbeats 600000 in
theorem ris_no {g : Nat} {A A2 : Option Addr} {n c n2 c2 : Nat} {ds : List (List UInt8)} {t : List UInt8} {xs : List Value} (s : Int) (hx : Dig xs t) (w : World) (hr : RingAt w g A n c ds) (hs : ¬ (0 ≤ s ∧ s < n)) :
    Calls Tryd.prog 101 #[.pointer (some ⟨g, 0, none⟩), .int .i64 s, .slice A2 n2 c2, .agg xs.toArray] w fun e w' => e = .returned (.bool false) ∧ Below w.heap.size w w' := by
  have HRA := Lib.hid hr; have HD := Lib.hid hx
  have HB := Lib.hid (Below.refl w.heap.size w)
  have HE := Lib.hid (show decide (0 ≤ s ∧ s < n) = false by simpa using hs)
  clear hr hs hx
  go_enter Tryd.func101, Tryd.ntmps101
  go_wp2_with (first | (with_reducible refine wpl_box (o := ⟨some 7, _, _, _, _, _⟩) rfl rfl rfl ?_))
  intro w2_ hb2_ hb_ hsz2_
  have HX_ := Lib.hid (at_mk hb2_ HD.out.len)
  clear hb2_ hsz2_
  have HB_ := Lib.hid (HB.out.grow' hb_)
  clear HB
  have HB := HB_
  clear HB_
  have HRA_ := Lib.hid (HRA.out.grow hb_)
  clear HRA
  have HRA := HRA_
  clear HRA_
  have HV := HX_
  clear hb_ HX_
  try clear w_
  rename World => w_
  try go_wp2_with fail
  repeat' (first | (with_reducible refine wp_flow (id := 1) [0,0,3,7,15,31,63,127,15,511,1023,15,15,8191,16383,32767] [0,0,3,0,0,0,0,0,0,0,0,0,0,3,0,0] (fun i => match i with | 2 => spV (.bool false) | _ => spV undef) (by kernel_rfl) (by kernel_rfl) ?_) | go_values | go_skip | go_guarded | go_step | go_upon | go_back)
  intro w_ hd_
  have hb_ := hd_.grow
  have HB_ := Lib.hid (HB.out.grow' hb_)
  clear HB
  have HB := HB_
  clear HB_
  have HV_ := Lib.hid (HV.out.grow hb_)
  clear HV
  have HV := HV_
  clear HV_
  have HRA_ := Lib.hid (HRA.out.grow hb_)
  clear HRA
  have HRA := HRA_
  clear HRA_
  clear hb_ hd_
  show wpL _ _ _ _ _ _ _ [0,1,2,3,4,5,6,7,8,9,10,11,12,13,14,15] _ _
  repeat (first | (refine fl_calm rfl (by decide) (by first | exact wanted_none rfl | (go_simp; done) | fail) (fun w_ _ _ => by first | (go_simp; rfl) | (go_simp; done) | rfl) (fun K hK => ?_); go_simp; refine hK _ ?_; clear hK K) | (refine fl_skip rfl (by first | (go_simp; done) | fail) (fun K hK => ?_); go_simp; refine hK _ ?_; clear hK K))
  refine fl_callv rfl (by kernel_rfl) rfl (by first | exact wanted_none rfl | (go_simp; done) | fail) (fun w_ => by first | (go_simp; exact ⟨rfl, rfl⟩) | (go_simp; rfl) | (go_simp; exact ⟨⟨rfl, rfl, rfl⟩, rfl⟩)) (fun w2_ hg_ hL_ => ?_) (fun K hK => ?_)
  · skip
    replace HRA := Lib.hid (HRA.out.grow hg_)
    exact has_b s HE.out _ HRA.out
  go_simp
  refine hK _ ?_
  clear hK K
  repeat (first | (refine fl_calm rfl (by decide) (by first | exact wanted_none rfl | (go_simp; done) | fail) (fun w_ _ _ => by first | (go_simp; rfl) | (go_simp; done) | rfl) (fun K hK => ?_); go_simp; refine hK _ ?_; clear hK K) | (refine fl_skip rfl (by first | (go_simp; done) | fail) (fun K hK => ?_); go_simp; refine hK _ ?_; clear hK K))
  refine fl_done ?_
  intro w2_ hg_ hL_
  replace HB := Lib.hid (HB.out.grow' hg_)
  clear hg_ hL_
  try clear w_
  rename World => w_
  go_wp2_with fail
  go_ret
  exact ⟨rfl, HB.out⟩
end Go.Proofs.YtphmefhnffoafaaDoor
/- The walks of seisinlaw06: awake, TagTells, TagRings. -/
namespace Go.Proofs.YtphmefhnffoafaaDoor
open Go.RowKit Go.Shelf
set_option linter.unusedVariables false
theorem ris_b {b : Bool} {g : Nat} {A A2 : Option Addr} {n c n2 c2 k : Nat} {ds : List (List UInt8)} {bs d t : List UInt8} {xs : List Value} (hb : decide (tagB d bs = t) = b) (hd : ds[k]? = some d) (hx : Dig xs t) (w : World) (hr : RingAt w g A n c ds) (hn : n ≤ 64) (hs2 : Sl w w.heap.size 1 A2 n2 (bs.map B)) (hc2 : n2 ≤ c2) (hn2 : n2 ≤ 1000000) (ht : Tabs w) :
    Calls Tryd.prog 101 #[.pointer (some ⟨g, 0, none⟩), .int .i64 k, .slice A2 n2 c2, .agg xs.toArray] w fun e w' => e = .returned (.bool b) ∧ Below w.heap.size w w' := by
  subst hb; exact ris_yes hd hx w hr hn hs2 hc2 hn2 ht
end Go.Proofs.YtphmefhnffoafaaDoor
/- Contracts of cert.Is and cert.Proves. -/
namespace Go.Proofs.YtphmefhnffoafaaDoor
open Go.RowKit Go.Shelf
set_option linter.unusedVariables false
theorem cert_ats {v : Value} {c : Cer} (h : c.ok) : (certV v c)[0]? = some (.int .i64 c.e.kind) ∧ (certV v c)[1]? = some (.int .i64 c.e.shard) ∧ (certV v c)[36]? = some (.int .i64 c.e.epoch) ∧ (certV v c)[37]? = some v ∧ (certV v c)[38]? = some (.int .i64 c.h.shard) ∧ (certV v c)[40]? = some (.int .i64 c.h.epoch) :=
  ⟨cert_e (ent_at h.1).1, cert_e (ent_at h.1).2.1, cert_e (ent_at h.1).2.2.2.2, cert_v h, cert_h h (j := 0) (hdr_at h.2.2.1).1, cert_h h (j := 2) (hdr_at h.2.2.1).2.2⟩
theorem isC_split {seed : List UInt8} {N : Nat} {x : Cer} {re rh d1 d2 tr tg : Bool} (h1 : re = rightE x.e) (h2 : rh = rightH x.h) (h3 : (x.e.shard == x.h.shard) = d1) (h4 : (x.e.epoch == x.h.epoch) = d2) (h5 : treeC x = tr) (h6 : tagC seed N x = tg) : isC seed N x = (re && rh && d1 && d2 && tr && tg) := by
  unfold isC midC
  rw [h1, h2, ← h3, ← h4, h5, h6, Bool.beq_eq_decide_eq, Bool.beq_eq_decide_eq]
set_option maxRecDepth 100000 in
set_option maxHeartbeats 2000000 in
theorem cis_any {seed : List UInt8} {g : Nat} {A : Option Addr} {N c : Nat} {A2 : Option Addr} {n2 c2 : Nat} {x : Cer} {res : Bool} (hres : isC seed N x = res) (w : World) (hr : RingAt w g A N c (ringB seed N)) (hN : N ≤ 64) (hx : x.ok) (hn : n2 ≤ 1000000) (hi : Ids w A2 n2 c2 x.path) (ht : Tabs w) :
    Calls Tryd.prog 51 #[.pointer (some ⟨g, 0, none⟩), .agg (certV (.slice A2 n2 c2) x).toArray] w fun e w' => e = .returned (.bool res) ∧ Below w.heap.size w w' := by
  have HR := Lib.hid hr; have HI := Lib.hid hi; have HT := Lib.hid ht
  have HB := Lib.hid (Below.refl w.heap.size w)
  have HE := Lib.hid (fun w => eput_any x.e w hx.1); have HH := Lib.hid (fun w => hput_any x.h w hx.2.2.1)
  obtain ⟨re, hre⟩ : ∃ q, q = rightE x.e := ⟨_, rfl⟩
  obtain ⟨rh, hrh⟩ : ∃ q, q = rightH x.h := ⟨_, rfl⟩
  obtain ⟨d1, hd1⟩ : ∃ q, (x.e.shard == x.h.shard) = q := ⟨_, rfl⟩
  obtain ⟨d2, hd2⟩ : ∃ q, (x.e.epoch == x.h.epoch) = q := ⟨_, rfl⟩
  obtain ⟨tr, htr⟩ : ∃ q, treeC x = q := ⟨_, rfl⟩
  obtain ⟨tg, htg⟩ : ∃ q, tagC seed N x = q := ⟨_, rfl⟩
  have HRES := Lib.hid (hres.symm.trans (isC_split hre hrh hd1 hd2 htr htg))
  have HFE := Lib.hid (show re = true → eformB x.e = putEB x.e ∧ (putEB x.e).length ≤ 77 from fun h => by rw [hre] at h; exact ⟨by unfold eformB; rw [if_pos h], putEB_len hx.1 h⟩)
  have HFH := Lib.hid (show rh = true → hformB x.h = putHB x.h ∧ (putHB x.h).length ≤ 91 from fun h => by rw [hrh] at h; exact ⟨by unfold hformB; rw [if_pos h], putHB_len hx.2.2.1 h⟩)
  have HSH := Lib.hid (show rh = true → ∃ k : Nat, x.h.shard = (k : Int) ∧ k ≤ 63 from fun h => by rw [hrh] at h; have := rightH_iff.1 h; exact ⟨x.h.shard.toNat, by omega, by omega⟩)
  rw [← hre] at HE; rw [← hrh] at HH
  have HTR := Lib.hid (show decide (climbT (putEB x.e) 1 3 x.path = some x.h.root) = tr from htr)
  have HTG := Lib.hid htg
  have HD := Lib.hid (cert_cl (v := .slice A2 n2 c2) rfl hx)
  have LE := Lib.hid (entV_length hx.1); have LH := Lib.hid (hdrV_length hx.2.2.1)
  have DR := Lib.hid (dig_map hx.2.2.1.2.2.2.2); have DT := Lib.hid (dig_map hx.2.2.2)
  have IA := Lib.hid (cert_ats (v := .slice A2 n2 c2) hx)
  have ME := Lib.hid (fun w g t hb => midCE (c := x) (v := .slice A2 n2 c2) (w := w) (g := g) (t := t) hb)
  have MH := Lib.hid (fun w g t hb => midCH (c := x) (v := .slice A2 n2 c2) (w := w) (g := g) (t := t) hx hb)
  have MT := Lib.hid (fun w g t hb => midCT (c := x) (v := .slice A2 n2 c2) (w := w) (g := g) (t := t) hx hb)
  have MR := Lib.hid (fun w g t hb => midCR (c := x) (v := .slice A2 n2 c2) (w := w) (g := g) (t := t) hx hb)
  obtain ⟨xv, hxv⟩ : ∃ v, v = certV (.slice A2 n2 c2) x := ⟨_, rfl⟩
  obtain ⟨ev, hev⟩ : ∃ v, v = entV x.e := ⟨_, rfl⟩
  obtain ⟨hv, hhv⟩ : ∃ v, v = hdrV x.h := ⟨_, rfl⟩
  obtain ⟨tv, htv⟩ : ∃ v, v = x.tag.map B := ⟨_, rfl⟩
  obtain ⟨rv, hrv⟩ : ∃ v, v = x.h.root.map B := ⟨_, rfl⟩
  rw [← hxv] at HD IA ME MH MT MR ⊢
  rw [← hev] at HE LE ME
  rw [← hhv] at HH LH MH
  rw [← htv] at DT MT
  rw [← hrv] at DR MR
  obtain ⟨i1, hi1⟩ : ∃ k, k = x.e.shard := ⟨_, rfl⟩
  obtain ⟨i2, hi2⟩ : ∃ k, k = x.e.epoch := ⟨_, rfl⟩
  obtain ⟨j1, hj1⟩ : ∃ k, k = x.h.shard := ⟨_, rfl⟩
  obtain ⟨j2, hj2⟩ : ∃ k, k = x.h.epoch := ⟨_, rfl⟩
  have HJ1 := Lib.hid hj1
  rw [← hi1, ← hi2, ← hj1, ← hj2] at IA
  rw [← hj1] at HSH
  rw [← hi1, ← hj1] at hd1
  rw [← hi2, ← hj2] at hd2
  have hd1' : (i1 != j1) = !d1 := by rw [bne, hd1]
  have hd2' : (i2 != j2) = !d2 := by rw [bne, hd2]
  clear hres hr hi ht hre hrh htr htg hx hxv hev hhv htv hrv hi1 hi2 hj1 hj2
  go_enter Tryd.func51, Tryd.ntmps51
  go_wp2_with (first | (with_reducible refine wpl_box (o := ⟨some 3, _, _, _, _, _⟩) rfl rfl rfl ?_))
  intro w2_ hb2_ hb_ hsz2_
  have HX_ := Lib.hid (at_mk hb2_ HD.out.len)
  clear hb2_ hsz2_
  have HB_ := Lib.hid (HB.out.grow' hb_)
  clear HB
  have HB := HB_
  clear HB_
  have HR_ := Lib.hid (HR.out.grow hb_)
  clear HR
  have HR := HR_
  clear HR_
  have HI_ := Lib.hid (HI.out.grow hb_)
  clear HI
  have HI := HI_
  clear HI_
  have HT_ := Lib.hid (HT.out.grow hb_)
  clear HT
  have HT := HT_
  clear HT_
  have HX := HX_
  clear hb_ HX_
  try clear w_
  rename World => w_
  have FME := Lib.hid (ME.out _ _ _ HX.out.blk)
  go_wp2_with (first | (with_reducible refine wpl_loadm (o := ⟨some 11, _, _, _, _, _⟩) rfl rfl row_entry FME.out rfl LE.out ?_))
  refine (HE.out _).mono ?_
  rintro e w2_ ⟨A3, c3, rfl, hs3, hc3, hb_⟩
  have HS3 := Lib.hid hs3; have HC3 := Lib.hid hc3
  clear hs3 hc3 FME HE ME
  have hb_ := hb_
  clear hb_
  have HB_ := Lib.hid (HB.out.grow' hb_)
  clear HB
  have HB := HB_
  clear HB_
  have HX_ := Lib.hid (HX.out.grow hb_)
  clear HX
  have HX := HX_
  clear HX_
  have HR_ := Lib.hid (HR.out.grow hb_)
  clear HR
  have HR := HR_
  clear HR_
  have HI_ := Lib.hid (HI.out.grow hb_)
  clear HI
  have HI := HI_
  clear HI_
  have HT_ := Lib.hid (HT.out.grow hb_)
  clear HT
  have HT := HT_
  clear HT_
  clear hb_
  try clear w_
  rename World => w_
  have FMH := Lib.hid (MH.out _ _ _ HX.out.blk)
  go_wp2_with (first | (with_reducible refine wpl_loadm (o := ⟨some 17, _, _, _, _, _⟩) rfl rfl row_header FMH.out rfl LH.out ?_))
  refine (HH.out _).mono ?_
  rintro e w2_ ⟨A4, c4, rfl, hs4, hc4, hb_⟩
  have HS4 := Lib.hid hs4; have HC4 := Lib.hid hc4
  clear hs4 hc4 FMH HH MH
  have hb_ := hb_
  clear hb_
  have HB_ := Lib.hid (HB.out.grow' hb_)
  clear HB
  have HB := HB_
  clear HB_
  have HX_ := Lib.hid (HX.out.grow hb_)
  clear HX
  have HX := HX_
  clear HX_
  have HR_ := Lib.hid (HR.out.grow hb_)
  clear HR
  have HR := HR_
  clear HR_
  have HI_ := Lib.hid (HI.out.grow hb_)
  clear HI
  have HI := HI_
  clear HI_
  have HT_ := Lib.hid (HT.out.grow hb_)
  clear HT
  have HT := HT_
  clear HT_
  have HS3_ := Lib.hid (HS3.out.grow hb_)
  clear HS3
  have HS3 := HS3_
  clear HS3_
  clear hb_
  try clear w_
  rename World => w_
  have cs := HX.out.blk.at_ IA.out.2.1
  have ce := HX.out.blk.at_ IA.out.2.2.1
  have cp := HX.out.blk.at_ IA.out.2.2.2.1
  have ch := HX.out.blk.at_ IA.out.2.2.2.2.1
  have cq := HX.out.blk.at_ IA.out.2.2.2.2.2
  cases re with
  | false =>
    have HF := Lib.hid (show res = false by rw [HRES.out]; simp)
    go_wp2_with fail
    go_ret
    exact ⟨by rw [HF.out]; rfl, HB.out⟩
  | true =>
    cases rh with
    | false =>
      have HF := Lib.hid (show res = false by rw [HRES.out]; simp)
      go_wp2_with fail
      go_ret
      exact ⟨by rw [HF.out]; rfl, HB.out⟩
    | true =>
      cases d1 with
      | false =>
        have HF := Lib.hid (show res = false by rw [HRES.out]; simp)
        go_wp2_with fail
        go_ret
        exact ⟨by rw [HF.out]; rfl, HB.out⟩
      | true =>
        cases d2 with
        | false =>
          have HF := Lib.hid (show res = false by rw [HRES.out]; simp)
          go_wp2_with fail
          go_ret
          exact ⟨by rw [HF.out]; rfl, HB.out⟩
        | true =>
          have HE3 := Lib.hid (HFE.out rfl); have HH3 := Lib.hid (HFH.out rfl)
          have HS5 := Lib.hid (show Sl w_ w_.heap.size 1 A3 (eformB x.e).length ((putEB x.e).map B) by have h := HS3.out; rw [HE3.out.1] at h ⊢; exact h)
          have HS6 := Lib.hid (show Sl w_ w_.heap.size 1 A4 (hformB x.h).length ((putHB x.h).map B) by have h := HS4.out; rw [HH3.out.1] at h ⊢; exact h)
          have L5 := Lib.hid (show (eformB x.e).length ≤ 77 by rw [HE3.out.1]; exact HE3.out.2)
          have L6 := Lib.hid (show (hformB x.h).length ≤ 91 by rw [HH3.out.1]; exact HH3.out.2)
          obtain ⟨n5, hn5⟩ : ∃ k, k = (eformB x.e).length := ⟨_, rfl⟩
          obtain ⟨n6, hn6⟩ : ∃ k, k = (hformB x.h).length := ⟨_, rfl⟩
          rw [← hn5] at HS5 L5 HC3
          rw [← hn6] at HS6 L6 HC4
          simp only [← hn5, ← hn6]
          clear HS3 HS4 HFE HFH HE3 HH3 hn5 hn6
          obtain ⟨k, hk, hk63⟩ := HSH.out rfl
          have HK := Lib.hid hk
          subst hk
          clear HSH
          have FMR := Lib.hid (MR.out _ _ _ HX.out.blk)
          go_wp2_with (first | (with_reducible refine wpl_loadm (o := ⟨some 51, _, _, _, _, _⟩) rfl rfl row_aid FMR.out rfl DR.out.len ?_))
          refine (tis5_any HTR.out DR.out _ HS5.out HC3.out (by have := L5.out; omega) HI.out (by omega) HT.out).mono ?_
          clear cs ce cp ch cq FMR HS5 HC3 HI
          rintro e w2_ ⟨rfl, hb_⟩
          have hb_ := hb_
          clear hb_
          have HB_ := Lib.hid (HB.out.grow' hb_)
          clear HB
          have HB := HB_
          clear HB_
          have HX_ := Lib.hid (HX.out.grow hb_)
          clear HX
          have HX := HX_
          clear HX_
          have HR_ := Lib.hid (HR.out.grow hb_)
          clear HR
          have HR := HR_
          clear HR_
          have HT_ := Lib.hid (HT.out.grow hb_)
          clear HT
          have HT := HT_
          clear HT_
          have HS6_ := Lib.hid (HS6.out.grow hb_)
          clear HS6
          have HS6 := HS6_
          clear HS6_
          clear hb_
          try clear w_
          rename World => w_
          cases tr with
          | false =>
            have HF := Lib.hid (show res = false by rw [HRES.out]; simp)
            go_wp2_with fail
            go_ret
            exact ⟨by rw [HF.out]; rfl, HB.out⟩
          | true =>
            have ch := HX.out.blk.at_ IA.out.2.2.2.2.1
            have FMT := Lib.hid (MT.out _ _ _ HX.out.blk)
            go_wp2_with (first | (with_reducible refine wpl_loadmw (o := ⟨some 63, _, _, _, _, _⟩) (by first | rfl | (go_simp; done) | fail) rfl row_aid FMT.out rfl DT.out.len ?_))
            by_cases hkN : k < N
            · have HTB := Lib.hid (show decide (tagB (tagB seed [UInt8.ofNat k]) (putHB x.h) = x.tag) = tg by
                rw [← HTG.out]; unfold tagC keyS; rw [← HJ1.out]; simp [hkN])
              refine (ris_b (k := k) HTB.out (ringB_at seed hkN) DT.out _ HR.out hN HS6.out HC4.out (by have := L6.out; omega) HT.out).mono ?_
              clear ch FMT
              rintro e w2_ ⟨rfl, hb_⟩
              have hb_ := hb_
              clear hb_
              have HB_ := Lib.hid (HB.out.grow' hb_)
              clear HB
              have HB := HB_
              clear HB_
              clear hb_
              try clear w_
              rename World => w_
              have HF := Lib.hid (show res = tg by rw [HRES.out]; simp)
              go_wp2_with fail
              go_ret
              exact ⟨by rw [HF.out]; rfl, HB.out⟩
            · have HTB := Lib.hid (show tg = false by
                rw [← HTG.out]; unfold tagC; rw [← HJ1.out]; simp [hkN])
              refine (ris_no (k : Int) DT.out _ HR.out (by omega)).mono ?_
              clear ch FMT
              rintro e w2_ ⟨rfl, hb_⟩
              have hb_ := hb_
              clear hb_
              have HB_ := Lib.hid (HB.out.grow' hb_)
              clear HB
              have HB := HB_
              clear HB_
              clear hb_
              try clear w_
              rename World => w_
              have HF := Lib.hid (show res = false by rw [HRES.out, HTB.out]; simp)
              go_wp2_with fail
              go_ret
              exact ⟨by rw [HF.out]; rfl, HB.out⟩
set_option maxRecDepth 100000 in
set_option maxHeartbeats 2000000 in
theorem cis_nil {A2 : Option Addr} {n2 c2 : Nat} {x : Cer} (w : World) (hx : x.ok) :
    Calls Tryd.prog 51 #[.pointer none, .agg (certV (.slice A2 n2 c2) x).toArray] w fun e w' => e = .returned (.bool false) ∧ Below w.heap.size w w' := by
  have HB := Lib.hid (Below.refl w.heap.size w)
  have HE := Lib.hid (fun w => eput_any x.e w hx.1); have HH := Lib.hid (fun w => hput_any x.h w hx.2.2.1)
  have HD := Lib.hid (cert_cl (v := .slice A2 n2 c2) rfl hx)
  have LE := Lib.hid (entV_length hx.1); have LH := Lib.hid (hdrV_length hx.2.2.1)
  have ME := Lib.hid (fun w g t hb => midCE (c := x) (v := .slice A2 n2 c2) (w := w) (g := g) (t := t) hb)
  have MH := Lib.hid (fun w g t hb => midCH (c := x) (v := .slice A2 n2 c2) (w := w) (g := g) (t := t) hx hb)
  obtain ⟨xv, hxv⟩ : ∃ v, v = certV (.slice A2 n2 c2) x := ⟨_, rfl⟩
  obtain ⟨ev, hev⟩ : ∃ v, v = entV x.e := ⟨_, rfl⟩
  obtain ⟨hv, hhv⟩ : ∃ v, v = hdrV x.h := ⟨_, rfl⟩
  rw [← hxv] at HD ME MH ⊢
  rw [← hev] at HE LE ME
  rw [← hhv] at HH LH MH
  clear hx hxv hev hhv
  go_enter Tryd.func51, Tryd.ntmps51
  go_wp2_with (first | (with_reducible refine wpl_box (o := ⟨some 3, _, _, _, _, _⟩) rfl rfl rfl ?_))
  intro w2_ hb2_ hb_ hsz2_
  have HX_ := Lib.hid (at_mk hb2_ HD.out.len)
  clear hb2_ hsz2_
  have HB_ := Lib.hid (HB.out.grow' hb_)
  clear HB
  have HB := HB_
  clear HB_
  have HX := HX_
  clear hb_ HX_
  try clear w_
  rename World => w_
  have FME := Lib.hid (ME.out _ _ _ HX.out.blk)
  go_wp2_with (first | (with_reducible refine wpl_loadm (o := ⟨some 11, _, _, _, _, _⟩) rfl rfl row_entry FME.out rfl LE.out ?_))
  refine (HE.out _).mono ?_
  rintro e w2_ ⟨A3, c3, rfl, hs3, hc3, hb_⟩
  clear hs3 hc3 FME HE ME
  have hb_ := hb_
  clear hb_
  have HB_ := Lib.hid (HB.out.grow' hb_)
  clear HB
  have HB := HB_
  clear HB_
  have HX_ := Lib.hid (HX.out.grow hb_)
  clear HX
  have HX := HX_
  clear HX_
  clear hb_
  try clear w_
  rename World => w_
  have FMH := Lib.hid (MH.out _ _ _ HX.out.blk)
  go_wp2_with (first | (with_reducible refine wpl_loadm (o := ⟨some 17, _, _, _, _, _⟩) rfl rfl row_header FMH.out rfl LH.out ?_))
  refine (HH.out _).mono ?_
  rintro e w2_ ⟨A4, c4, rfl, hs4, hc4, hb_⟩
  clear hs4 hc4 FMH HH MH
  have hb_ := hb_
  clear hb_
  have HB_ := Lib.hid (HB.out.grow' hb_)
  clear HB
  have HB := HB_
  clear HB_
  have HX_ := Lib.hid (HX.out.grow hb_)
  clear HX
  have HX := HX_
  clear HX_
  clear hb_
  try clear w_
  rename World => w_
  go_wp2_with fail
  go_ret
  exact ⟨rfl, HB.out⟩
end Go.Proofs.YtphmefhnffoafaaDoor

/- Contract of the document's Is of a certificate. Printed by mkcerte.py. -/
import Derived.Test.YtphmefhnffoafaaGreatDoorCertTurnedU23
import Derived.Test.YtphmefhnffoafaaGreatDoorCertTurnedU20
import Derived.Deep.CutBlock
set_option linter.unusedSimpArgs false
namespace Go.Proofs.YtphmefhnffoafaaGreatDoor
open Go.RowKit Go.Shelf
set_option linter.unusedVariables false
theorem halfN_3 : halfN 3 = 2 := by decide
theorem halfN_2 : halfN 2 = 1 := by decide
theorem climb3 (b : List UInt8) (p0 p1 : List UInt8) : climbT b 1 3 [p0, p1] = some (nodeB (nodeB p0 (leafB b)) p1) := by
 have h := climbT_nat (b := b) (j := 1) (N := 3) (p := [p0, p1]) (by omega) (by omega)
 refine h.trans ?_
 rw [climbB_left _ _ _ _ p1 (by omega) rfl (by rw [halfN_3]; omega), halfN_3, show [p0, p1].dropLast = [p0] from rfl, climbB_right _ _ _ _ p0 (by omega) rfl (by rw [halfN_2]; omega), halfN_2, show [p0].dropLast = [] from rfl, climbB_one _ _ _ _ (by omega)]
 rfl
theorem climb3_no (b : List UInt8) (p : List (List UInt8)) (h : p.length ≠ 2) : climbT b 1 3 p = none := by
 have h1 := climbT_nat (b := b) (j := 1) (N := 3) (p := p) (by omega) (by omega)
 refine h1.trans ?_
 have hd := climb_dep 3 3 1 (leafB b) p (by omega)
 have e : depB 1 3 = 2 := by
  rw [depB_left (by omega) (by rw [halfN_3]; omega), halfN_3, depB_right (by omega) (by rw [halfN_2]; omega), halfN_2]
  rw [depB, dif_pos (by omega)]
 rw [e] at hd
 cases hc : climbB (leafB b) 1 3 p with
 | none => rfl
 | some z => exact absurd (hd.1 (by rw [hc]; rfl)) h
attribute [local irreducible] nodeB leafB
set_option maxRecDepth 100000 in
set_option maxHeartbeats 4000000 in
theorem rcis_any {seed : List UInt8} {A : Option Addr} {N n c : Nat} {A2 : Option Addr} {n2 c2 : Nat} {x : Cer} {res : Bool} (hres : isC seed N x = res) (w : World) (hs : Sl w w.heap.size 1 A n (seed.map B)) (hn : n ≤ 1000000) (hx : x.ok) (hn2 : n2 ≤ 1000000) (hi : Ids w A2 n2 c2 x.path) :
  Calls Tryz.prog 11 #[.slice A n c, .int .i64 (N : Int), .agg (certV (.slice A2 n2 c2) x).toArray] w fun e w' => e = .returned (.bool res) ∧ Below w.heap.size w w' := by
 have HS := kp hs; have HI := kp hi
 have HB := kp (Below.refl w.heap.size w)
 have HE := kp (fun w => reright_any x.e w hx.1); have HH := kp (fun w => rhright_any x.h w hx.2.2.1)
 have HPE := kp (fun w h => reput_any x.e w hx.1 h); have HPH := kp (fun w h => rhput_any x.h w hx.2.2.1 h)
 obtain ⟨re, hre⟩ : ∃ q, q = rightE x.e := ⟨_, rfl⟩
 obtain ⟨rh, hrh⟩ : ∃ q, q = rightH x.h := ⟨_, rfl⟩
 obtain ⟨d1, hd1⟩ : ∃ q, (x.e.shard == x.h.shard) = q := ⟨_, rfl⟩
 obtain ⟨d2, hd2⟩ : ∃ q, (x.e.epoch == x.h.epoch) = q := ⟨_, rfl⟩
 obtain ⟨tr, htr⟩ : ∃ q, treeC x = q := ⟨_, rfl⟩
 obtain ⟨tg, htg⟩ : ∃ q, tagC seed N x = q := ⟨_, rfl⟩
 have HRES := kp (hres.symm.trans (isC_split hre hrh hd1 hd2 htr htg))
 have HFE := kp (show re = true → (putEB x.e).length ≤ 77 from fun h => by rw [hre] at h; exact putEB_len hx.1 h)
 have HFH := kp (show rh = true → (putHB x.h).length ≤ 91 from fun h => by rw [hrh] at h; exact putHB_len hx.2.2.1 h)
 have HSH := kp (show rh = true → ∃ k : Nat, x.h.shard = (k : Int) ∧ k ≤ 63 from fun h => by rw [hrh] at h; have := rightH_iff.1 h; exact ⟨x.h.shard.toNat, by omega, by omega⟩)
 rw [← hre] at HE HPE; rw [← hrh] at HH HPH
 have HTR := kp (show decide (climbT (putEB x.e) 1 3 x.path = some x.h.root) = tr from htr)
 have HTG := kp htg
 have HD := kp (cert_cl (v := .slice A2 n2 c2) rfl hx)
 have LE := kp (entV_length hx.1); have LH := kp (hdrV_length hx.2.2.1)
 have DR := kp (dig_map hx.2.2.1.2.2.2.2); have DT := kp (dig_map hx.2.2.2)
 have IA := kp (cert_ats (v := .slice A2 n2 c2) hx)
 have ME := kp (fun w g t hb => midCE (c := x) (v := .slice A2 n2 c2) (w := w) (g := g) (t := t) hb)
 have MH := kp (fun w g t hb => midCH (c := x) (v := .slice A2 n2 c2) (w := w) (g := g) (t := t) hx hb)
 have MT := kp (fun w g t hb => midCT (c := x) (v := .slice A2 n2 c2) (w := w) (g := g) (t := t) hx hb)
 have MR := kp (fun w g t hb => midCR (c := x) (v := .slice A2 n2 c2) (w := w) (g := g) (t := t) hx hb)
 have HNL := kp hi.2.1
 have HP32 := kp hi.2.2.1
 obtain ⟨xv, hxv⟩ : ∃ v, v = certV (.slice A2 n2 c2) x := ⟨_, rfl⟩
 obtain ⟨ev, hev⟩ : ∃ v, v = entV x.e := ⟨_, rfl⟩
 obtain ⟨hv, hhv⟩ : ∃ v, v = hdrV x.h := ⟨_, rfl⟩
 obtain ⟨tv, htv⟩ : ∃ v, v = x.tag.map B := ⟨_, rfl⟩
 obtain ⟨rv, hrv⟩ : ∃ v, v = x.h.root.map B := ⟨_, rfl⟩
 rw [← hxv] at HD IA ME MH MT MR ⊢
 rw [← hev] at HE HPE LE ME
 rw [← hhv] at HH HPH LH MH
 rw [← htv] at DT MT
 rw [← hrv] at DR MR
 obtain ⟨i1, hi1⟩ : ∃ k, k = x.e.shard := ⟨_, rfl⟩
 obtain ⟨i2, hi2⟩ : ∃ k, k = x.e.epoch := ⟨_, rfl⟩
 obtain ⟨j1, hj1⟩ : ∃ k, k = x.h.shard := ⟨_, rfl⟩
 obtain ⟨j2, hj2⟩ : ∃ k, k = x.h.epoch := ⟨_, rfl⟩
 obtain ⟨ps, hps⟩ : ∃ k, k = x.path := ⟨_, rfl⟩
 have HJ1 := kp hj1
 rw [← hi1, ← hi2, ← hj1, ← hj2] at IA
 rw [← hj1] at HSH
 rw [← hi1, ← hj1] at hd1
 rw [← hi2, ← hj2] at hd2
 rw [← hps] at HTR HI HNL HP32
 have hd1' : (i1 != j1) = !d1 := by rw [bne, hd1]
 have hd2' : (i2 != j2) = !d2 := by rw [bne, hd2]
 clear hres hs hi hre hrh htr htg hx hxv hev hhv htv hrv hi1 hi2 hj1 hj2 hps
 go_enter Tryz.func11, Tryz.ntmps11
 go_wp2_with (first | (with_reducible refine wpl_box (o := ⟨some 5, _, _, _, _, _⟩) rfl rfl rfl ?_))
 intro w2_ hb2_ hb_ hsz2_
 have HX_ := kp (at_mk hb2_ HD.out.len)
 clear hb2_ hsz2_
 replace HB := kp (HB.out.grow' hb_)
 replace HS := kp (HS.out.grow hb_)
 replace HI := kp (HI.out.grow hb_)
 have HX := HX_
 clear hb_ HX_
 try clear w_
 rename World => w_
 have FME := kp (ME.out _ _ _ HX.out.blk)
 go_wp2_with (first | (with_reducible refine wpl_loadm (o := ⟨some 9, _, _, _, _, _⟩) rfl rfl row_entry FME.out rfl LE.out ?_))
 refine (HE.out _).mono ?_
 rintro e w2_ ⟨rfl, hb_⟩
 clear FME HE
 have hb_ := hb_
 clear hb_
 replace HB := kp (HB.out.grow' hb_)
 replace HX := kp (HX.out.grow hb_)
 replace HS := kp (HS.out.grow hb_)
 replace HI := kp (HI.out.grow hb_)
 clear hb_
 try clear w_
 rename World => w_
 cases re with
 | false =>
  have HF := kp (show res = false by rw [HRES.out]; simp)
  go_wp2_with fail
  go_ret
  exact ⟨by rw [HF.out]; rfl, HB.out⟩
 | true =>
  have FMH := kp (MH.out _ _ _ HX.out.blk)
  go_wp2_with (first | (with_reducible refine wpl_loadmw (o := ⟨some 14, _, _, _, _, _⟩) (by first | rfl | (go_simp; done) | fail) rfl row_header FMH.out rfl LH.out ?_))
  refine (HH.out _).mono ?_
  rintro e w2_ ⟨rfl, hb_⟩
  clear FMH HH
  have hb_ := hb_
  clear hb_
  replace HB := kp (HB.out.grow' hb_)
  replace HX := kp (HX.out.grow hb_)
  replace HS := kp (HS.out.grow hb_)
  replace HI := kp (HI.out.grow hb_)
  clear hb_
  try clear w_
  rename World => w_
  have cs := HX.out.blk.at_ IA.out.2.1
  have ce := HX.out.blk.at_ IA.out.2.2.1
  have cp := HX.out.blk.at_ IA.out.2.2.2.1
  have ch := HX.out.blk.at_ IA.out.2.2.2.2.1
  have cq := HX.out.blk.at_ IA.out.2.2.2.2.2
  cases rh with
  | false =>
   have HF := kp (show res = false by rw [HRES.out]; simp)
   go_wp2_with fail
   go_ret
   exact ⟨by rw [HF.out]; rfl, HB.out⟩
  | true =>
   cases d1 with
   | false =>
    have HF := kp (show res = false by rw [HRES.out]; simp)
    go_wp2_with fail
    go_ret
    exact ⟨by rw [HF.out]; rfl, HB.out⟩
   | true =>
    cases d2 with
    | false =>
     have HF := kp (show res = false by rw [HRES.out]; simp)
     go_wp2_with fail
     go_ret
     exact ⟨by rw [HF.out]; rfl, HB.out⟩
    | true =>
     by_cases h2 : n2 = 2
     ·subst h2
      obtain ⟨k, hk, hk63⟩ := HSH.out rfl
      have HK := kp hk
      subst hk
      clear HSH
      by_cases hkN : k < N
      ·have g1 : decide ((N : Int) ≤ (k : Int)) = false := by simp; omega
       have HTB := kp (show (x.tag == tagB (tagB seed [UInt8.ofNat k]) (putHB x.h)) = tg by
        rw [← HTG.out]; unfold tagC keyS; rw [← HJ1.out, Bool.beq_eq_decide_eq]
        rw [show decide ((k : Int) < (N : Int)) = true by simp only [decide_eq_true_eq]; omega, Bool.true_and]
        exact decide_eq_decide.2 ⟨fun h => h.symm, fun h => h.symm⟩)
       have HPL := kp (show ∃ p0 p1, ps = [p0, p1] by
        have h := HNL.out
        match ps, h with
        | [p0, p1], _ => exact ⟨p0, p1, rfl⟩)
       obtain ⟨p0, p1, hpp⟩ := HPL.out
       subst hpp
       clear HPL
       have l0 := HP32.out p0 (by simp); have l1 := HP32.out p1 (by simp)
       obtain ⟨v0, hv0⟩ : ∃ v, v = p0.map B := ⟨_, rfl⟩
       obtain ⟨v1, hv1⟩ : ∃ v, v = p1.map B := ⟨_, rfl⟩
       have D0 := kp (show Dig v0 p0 from ⟨hv0, l0⟩); have D1 := kp (show Dig v1 p1 from ⟨hv1, l1⟩)
       clear hv0 hv1 l0 l1
       obtain ⟨be, hbe⟩ : ∃ v, v = putEB x.e := ⟨_, rfl⟩
       obtain ⟨bh, hbh⟩ : ∃ v, v = putHB x.h := ⟨_, rfl⟩
       have LBE := kp (HFE.out (by first | trivial | rfl)); have LBH := kp (HFH.out (by first | trivial | rfl))
       have HPE2 := kp (fun w => HPE.out w (by first | trivial | rfl)); have HPH2 := kp (fun w => HPH.out w (by first | trivial | rfl))
       clear HPE HPH HFE HFH HP32
       rw [← hbe] at HPE2 LBE HTR
       rw [← hbh] at HPH2 LBH HTB
       obtain ⟨ne, hne⟩ : ∃ v, v = be.length := ⟨_, rfl⟩
       obtain ⟨nh, hnh⟩ : ∃ v, v = bh.length := ⟨_, rfl⟩
       rw [← hne] at HPE2 LBE
       rw [← hnh] at HPH2 LBH
       have DL := kp (show Dig ((leafB be).map B) (leafB be) from ⟨rfl, leafB_len be⟩)
       have DN := kp (show Dig ((nodeB p0 (leafB be)).map B) (nodeB p0 (leafB be)) from ⟨rfl, nodeB_len _ _⟩)
       have DQ := kp (show Dig ((nodeB (nodeB p0 (leafB be)) p1).map B) (nodeB (nodeB p0 (leafB be)) p1) from ⟨rfl, nodeB_len _ _⟩)
       have DS := kp (show Dig ((tagB (tagB seed [UInt8.ofNat k]) bh).map B) (tagB (tagB seed [UInt8.ofNat k]) bh) from ⟨rfl, tagB_length _ _⟩)
       have HQT := kp (show (nodeB (nodeB p0 (leafB be)) p1 == x.h.root) = tr by
        rw [← HTR.out, climb3, Bool.beq_eq_decide_eq]; exact decide_eq_decide.2 ⟨fun h => by rw [h], fun h => Option.some.inj h⟩)
       have HLC := kp (fun A c w hs => rleaf_any A ne c be DL.out w hs (by have := LBE.out; omega))
       have HNC := kp (fun w => rnode_any D0.out DL.out DN.out w)
       have HQC := kp (fun w => rnode_any DN.out D1.out DQ.out w)
       have HSC := kp (fun A2 c2 w hs hs2 => trsign_any A A2 n c nh c2 seed bh k (by omega) DS.out w hs hs2 (by omega) (by have := LBH.out; omega))
       obtain ⟨lv, hlv⟩ : ∃ v, v = (leafB be).map B := ⟨_, rfl⟩
       obtain ⟨nv, hnv⟩ : ∃ v, v = (nodeB p0 (leafB be)).map B := ⟨_, rfl⟩
       obtain ⟨qv, hqv⟩ : ∃ v, v = (nodeB (nodeB p0 (leafB be)) p1).map B := ⟨_, rfl⟩
       obtain ⟨sv, hsv⟩ : ∃ v, v = (tagB (tagB seed [UInt8.ofNat k]) bh).map B := ⟨_, rfl⟩
       rw [← hlv] at HLC HNC
       rw [← hnv] at HNC HQC
       rw [← hqv] at DQ HQC
       rw [← hsv] at DS HSC
       have q1 := DQ.out.eql_b DR.out HQT.out
       have q2 := DT.out.eql_b DS.out HTB.out
       clear hbe hbh hne hnh hlv hnv hqv hsv DL DN HTR HTG HNL HQT HTB HJ1 HK
       go_upto_region 3 with fail
       go_cut [7] from 8 (fun s7 wr => ∃ gv, s7 = .pointer (some ⟨gv, 0, none⟩) ∧ Hid (At wr gv 24 32 qv ∧ At wr w.heap.size 35 137 xv ∧ Sl wr wr.heap.size 1 A n (seed.map B) ∧ Below w.heap.size w wr))
       case first =>
        try go_wp2_with fail
        repeat' (first | (with_reducible refine wp_plan (id := 3) Grow [0,1,0,1,0,1,4,4,4,0,1,0,1,3,4,3] (.get 0 (.get 1 (.get 2 (.get 3 (.get 4 (.get 5 (.get 9 (.get 10 (.get 11 (.get 12 (.fork 6 (.fork 7 (.fork 8 (.fork 13 (.act 14 (.act 15 .done)) (.act 14 (.act 13 (.act 15 .done)))) (.act 14 (.act 8 (.act 13 (.act 15 .done))))) (.act 14 (.act 7 (.act 8 (.act 13 (.act 15 .done)))))) (.act 14 (.act 6 (.act 7 (.act 8 (.act 13 (.act 15 .done))))))))))))))))) (by kernel_rfl) (by kernel_rfl) Grow.refl Grow.trans ?_) | go_values | go_skip | go_guarded | go_step | go_upon | go_back)
        intro w_ hd_
        have hb_ := hd_.grow
        replace HB := kp (HB.out.grow' hb_)
        replace HX := kp (HX.out.grow hb_)
        replace HS := kp (HS.out.grow hb_)
        replace HI := kp (HI.out.grow hb_)
        clear hb_ hd_
        have cp := HX.out.blk.at_ IA.out.2.2.2.1
        have FME := kp (ME.out _ _ _ HX.out.blk)
        obtain ⟨b1, o1, e0, rfl, hz0, hq0, hb0, hc0⟩ := HI.out.key (k := 0) (by omega)
        obtain ⟨b2, o2, e1, he1, hz1, hq1, hb1, hc1⟩ := HI.out.key (k := 1) (by omega)
        injection he1 with he1
        injection he1 with he2 he3
        subst he2; subst he3
        have hz0 : p0 = e0 := by simpa using hz0
        have hz1 : p1 = e1 := by simpa using hz1
        subst hz0; subst hz1
        have C0 := kp (show ∀ j u, v0[j]? = some u → w_.cell? ⟨b1, o1 + j, none⟩ = some u by rw [D0.out.1]; intro j u hu; have := hc0 j u hu; simpa using this)
        have C1 := kp (show ∀ j u, v1[j]? = some u → w_.cell? ⟨b1, o1 + 32 + j, none⟩ = some u by rw [D1.out.1]; intro j u hu; have := hc1 j u hu; simpa using this)
        have HBZ := kp hb0
        have HXZ := kp HX.out.lt
        clear hz0 hz1 hq0 hq1 hb0 hb1 hc0 hc1
        repeat (first | (refine pl_calm rfl rfl (by first | exact wanted_none rfl | (go_simp; done) | rfl) (fun w_ => by first | (go_simp; rfl) | (go_simp; done) | rfl) (fun K hK => ?_); go_simp; refine hK _ _ ?_; clear hK K) | (refine pl_skip rfl (by first | (go_simp; done) | rfl) (fun K hK => ?_); go_simp; refine hK _ _ ?_; clear hK K) | (refine pl_skipa rfl (by first | (go_simp; done) | rfl) (fun K hK => ?_); go_simp; refine hK _ _ ?_; clear hK K) | (refine pl_load rfl rfl (by first | exact wanted_none rfl | (go_simp; done) | rfl) rfl (by first | rfl | (go_simp; rfl)) (by kernel_rfl) (by first | exact cp) (fun K hK => ?_); go_simp; refine hK _ _ ?_; clear hK K) | (refine pl_loadnow rfl rfl (by first | exact wanted_none rfl | (go_simp; done) | rfl) rfl (by first | rfl | (go_simp; rfl)) (by kernel_rfl) (by first | exact cp) (fun K hK => ?_); go_simp; refine hK _ _ ?_; clear hK K))
        refine pl_loadm rfl (by decide) (by exact wanted_none rfl) rfl row_id C0.out HBZ.out (by first | rfl | (go_simp; done) | rfl) D0.out.len (fun K hK => ?_)
        go_simp
        refine hK _ _ ?_
        clear hK K
        repeat (first | (refine pl_calm rfl rfl (by first | exact wanted_none rfl | (go_simp; done) | rfl) (fun w_ => by first | (go_simp; rfl) | (go_simp; done) | rfl) (fun K hK => ?_); go_simp; refine hK _ _ ?_; clear hK K) | (refine pl_skip rfl (by first | (go_simp; done) | rfl) (fun K hK => ?_); go_simp; refine hK _ _ ?_; clear hK K) | (refine pl_skipa rfl (by first | (go_simp; done) | rfl) (fun K hK => ?_); go_simp; refine hK _ _ ?_; clear hK K) | (refine pl_load rfl rfl (by first | exact wanted_none rfl | (go_simp; done) | rfl) rfl (by first | rfl | (go_simp; rfl)) (by kernel_rfl) (by first | exact cp) (fun K hK => ?_); go_simp; refine hK _ _ ?_; clear hK K) | (refine pl_loadnow rfl rfl (by first | exact wanted_none rfl | (go_simp; done) | rfl) rfl (by first | rfl | (go_simp; rfl)) (by kernel_rfl) (by first | exact cp) (fun K hK => ?_); go_simp; refine hK _ _ ?_; clear hK K))
        refine pl_loadm rfl (by decide) (by exact wanted_none rfl) rfl row_entry FME.out HXZ.out (by first | rfl | (go_simp; done) | rfl) LE.out (fun K hK => ?_)
        go_simp
        refine hK _ _ ?_
        clear hK K
        repeat (first | (refine pl_calm rfl rfl (by first | exact wanted_none rfl | (go_simp; done) | rfl) (fun w_ => by first | (go_simp; rfl) | (go_simp; done) | rfl) (fun K hK => ?_); go_simp; refine hK _ _ ?_; clear hK K) | (refine pl_skip rfl (by first | (go_simp; done) | rfl) (fun K hK => ?_); go_simp; refine hK _ _ ?_; clear hK K) | (refine pl_skipa rfl (by first | (go_simp; done) | rfl) (fun K hK => ?_); go_simp; refine hK _ _ ?_; clear hK K) | (refine pl_load rfl rfl (by first | exact wanted_none rfl | (go_simp; done) | rfl) rfl (by first | rfl | (go_simp; rfl)) (by kernel_rfl) (by first | exact cp) (fun K hK => ?_); go_simp; refine hK _ _ ?_; clear hK K) | (refine pl_loadnow rfl rfl (by first | exact wanted_none rfl | (go_simp; done) | rfl) rfl (by first | rfl | (go_simp; rfl)) (by kernel_rfl) (by first | exact cp) (fun K hK => ?_); go_simp; refine hK _ _ ?_; clear hK K))
        refine pl_loadm rfl (by decide) (by exact wanted_none rfl) rfl row_id C1.out HBZ.out (by first | rfl | (go_simp; done) | rfl) D1.out.len (fun K hK => ?_)
        go_simp
        refine hK _ _ ?_
        clear hK K cp C0 C1 FME HBZ HXZ HI
        obtain ⟨w0, hw0⟩ : ∃ w0, w0 = w_ := ⟨_, rfl⟩
        have HGA := kp (show Grow w0 w_ by rw [hw0]; exact Grow.refl _)
        rw [← hw0] at HX HS
        have HGB := kp (show w.heap.size ≤ w0.heap.size by rw [hw0]; exact HB.out.size)
        clear hw0
        refine pl_fork rfl (by exact wanted_none rfl) (fun K hK => ?_) ?_
        ·skip
         go_wp2_with fail
         refine (HPE2.out _).mono ?_
         rintro e w2_ ⟨A5, c5, rfl, he5_, hc5_, hb_⟩
         have HE5_ := kp he5_
         clear he5_ hc5_
         go_wp2_with fail
         refine hK _ _ (fun _ => hb_) ?_
         clear hK K
         replace HGA := kp (HGA.out.grow' hb_)
         have hb_ := hb_
         clear hb_
         replace HB := kp (HB.out.grow' hb_)
         clear hb_
         try clear w_
         rename World => w_
         have HE5 := HE5_
         clear HE5_
         refine pl_fork rfl (by exact wanted_none rfl) (fun K hK => ?_) ?_
         ·skip
          go_wp2_with fail
          refine (HLC.out _ _ _ HE5.out).mono ?_
          rintro e w2_ ⟨rfl, hb_⟩
          clear HE5
          go_wp2_with fail
          refine hK _ _ (fun _ => hb_) ?_
          clear hK K
          replace HGA := kp (HGA.out.grow' hb_)
          have hb_ := hb_
          clear hb_
          replace HB := kp (HB.out.grow' hb_)
          clear hb_
          try clear w_
          rename World => w_
          refine pl_fork rfl (by exact wanted_none rfl) (fun K hK => ?_) ?_
          ·skip
           go_wp2_with fail
           refine (HNC.out _).mono ?_
           rintro e w2_ ⟨rfl, hb_⟩
           go_wp2_with fail
           refine hK _ _ (fun _ => hb_) ?_
           clear hK K
           replace HGA := kp (HGA.out.grow' hb_)
           have hb_ := hb_
           clear hb_
           replace HB := kp (HB.out.grow' hb_)
           clear hb_
           try clear w_
           rename World => w_
           refine pl_fork rfl (by exact wanted_none rfl) (fun K hK => ?_) ?_
           ·skip
            go_wp2_with fail
            refine (HQC.out _).mono ?_
            rintro e w2_ ⟨rfl, hb_⟩
            go_wp2_with fail
            refine hK _ _ (fun _ => hb_) ?_
            clear hK K
            replace HGA := kp (HGA.out.grow' hb_)
            have hb_ := hb_
            clear hb_
            replace HB := kp (HB.out.grow' hb_)
            clear hb_
            try clear w_
            rename World => w_
            refine pl_act rfl (by exact wanted_none rfl) (fun K hK => ?_)
            show wpList _ _ _ [⟨some _, .alloc _, _, _, _, _⟩] _ _
            go_wp2_with (first | (with_reducible refine wpl_alloc (o := ⟨some 7, _, _, _, _, _⟩) rfl rfl zero_id ?_))
            intro w2_ hb2_ hb_ hsz2_
            have HV := kp (at_mk hb2_ len_id)
            have HVG := kp HGA.out.size
            generalize hg_ : w_.heap.size = gv at HV HVG ⊢
            go_wp2_with fail
            refine hK _ _ (fun _ => hb_) ?_
            clear hK K hb2_ hsz2_ hg_
            replace HGA := kp (HGA.out.grow' hb_)
            have hb_ := hb_
            clear hb_
            replace HB := kp (HB.out.grow' hb_)
            clear hb_
            try clear w_
            rename World => w_
            refine pl_act rfl (by first | exact wanted_none rfl | (go_simp; done) | rfl) (fun K hK => ?_)
            show wpList _ _ _ [⟨none, .store _ _ _, _, _, _, _⟩] _ _
            go_wp2_with (first | (with_reducible refine wpl_storeb (o := ⟨none, .store _ _ _, _, _, _, _⟩) rfl rfl row_id HV.out.blk rfl rfl HV.out.len DQ.out.len DQ.out.one ?_))
            intro w2_ hb2_ hg2_ hsz2_
            have HGC := kp (put_below HGA.out HVG.out hg2_)
            replace HV := kp (at_mk hb2_ DQ.out.len)
            replace HB := kp (put_below HB.out (Nat.le_trans HGB.out HVG.out) hg2_)
            replace HX := kp (HX.out.grow HGC.out)
            replace HS := kp (HS.out.grow HGC.out)
            clear hb2_ hg2_ hsz2_ HGA HGB HGC HVG
            try clear w_
            try clear w0
            rename World => w_
            go_wp2_with fail
            refine hK _ _ (fun h => by cases h) ?_
            clear hK K
            repeat ((first | refine pl_calm rfl rfl (by first | exact wanted_none rfl | (go_simp; done) | rfl) (fun w_ => by first | (go_simp; rfl) | (go_simp; done) | rfl) (fun K hK => ?_) | refine pl_skip rfl (by first | (go_simp; done) | rfl) (fun K hK => ?_) | refine pl_skipa rfl (by first | (go_simp; done) | rfl) (fun K hK => ?_)); go_simp; refine hK _ _ ?_; clear hK K)
            refine pl_done ?_
            go_wp2_with fail
            go_meet
            case rel => exact ⟨gv, rfl, kp ⟨HV.out, HX.out, HS.out, HB.out⟩⟩
           ·skip
            refine pl_act rfl (by exact wanted_none rfl) (fun K hK => ?_)
            show wpList _ _ _ [⟨some _, .alloc _, _, _, _, _⟩] _ _
            go_wp2_with (first | (with_reducible refine wpl_alloc (o := ⟨some 7, _, _, _, _, _⟩) rfl rfl zero_id ?_))
            intro w2_ hb2_ hb_ hsz2_
            have HV := kp (at_mk hb2_ len_id)
            have HVG := kp HGA.out.size
            generalize hg_ : w_.heap.size = gv at HV HVG ⊢
            go_wp2_with fail
            refine hK _ _ (fun _ => hb_) ?_
            clear hK K hb2_ hsz2_ hg_
            replace HGA := kp (HGA.out.grow' hb_)
            have hb_ := hb_
            clear hb_
            replace HB := kp (HB.out.grow' hb_)
            clear hb_
            try clear w_
            rename World => w_
            refine pl_act rfl (by exact wanted_none rfl) (fun K hK => ?_)
            go_wp2_with fail
            refine (HQC.out _).mono ?_
            rintro e w2_ ⟨rfl, hb_⟩
            go_wp2_with fail
            refine hK _ _ (fun _ => hb_) ?_
            clear hK K
            replace HV := kp (HV.out.grow hb_)
            replace HGA := kp (HGA.out.grow' hb_)
            have hb_ := hb_
            clear hb_
            replace HB := kp (HB.out.grow' hb_)
            clear hb_
            try clear w_
            rename World => w_
            refine pl_act rfl (by first | exact wanted_none rfl | (go_simp; done) | rfl) (fun K hK => ?_)
            show wpList _ _ _ [⟨none, .store _ _ _, _, _, _, _⟩] _ _
            go_wp2_with (first | (with_reducible refine wpl_storeb (o := ⟨none, .store _ _ _, _, _, _, _⟩) rfl rfl row_id HV.out.blk rfl rfl HV.out.len DQ.out.len DQ.out.one ?_))
            intro w2_ hb2_ hg2_ hsz2_
            have HGC := kp (put_below HGA.out HVG.out hg2_)
            replace HV := kp (at_mk hb2_ DQ.out.len)
            replace HB := kp (put_below HB.out (Nat.le_trans HGB.out HVG.out) hg2_)
            replace HX := kp (HX.out.grow HGC.out)
            replace HS := kp (HS.out.grow HGC.out)
            clear hb2_ hg2_ hsz2_ HGA HGB HGC HVG
            try clear w_
            try clear w0
            rename World => w_
            go_wp2_with fail
            refine hK _ _ (fun h => by cases h) ?_
            clear hK K
            repeat ((first | refine pl_calm rfl rfl (by first | exact wanted_none rfl | (go_simp; done) | rfl) (fun w_ => by first | (go_simp; rfl) | (go_simp; done) | rfl) (fun K hK => ?_) | refine pl_skip rfl (by first | (go_simp; done) | rfl) (fun K hK => ?_) | refine pl_skipa rfl (by first | (go_simp; done) | rfl) (fun K hK => ?_)); go_simp; refine hK _ _ ?_; clear hK K)
            refine pl_done ?_
            go_wp2_with fail
            go_meet
            case rel => exact ⟨gv, rfl, kp ⟨HV.out, HX.out, HS.out, HB.out⟩⟩
          ·skip
           refine pl_act rfl (by exact wanted_none rfl) (fun K hK => ?_)
           show wpList _ _ _ [⟨some _, .alloc _, _, _, _, _⟩] _ _
           go_wp2_with (first | (with_reducible refine wpl_alloc (o := ⟨some 7, _, _, _, _, _⟩) rfl rfl zero_id ?_))
           intro w2_ hb2_ hb_ hsz2_
           have HV := kp (at_mk hb2_ len_id)
           have HVG := kp HGA.out.size
           generalize hg_ : w_.heap.size = gv at HV HVG ⊢
           go_wp2_with fail
           refine hK _ _ (fun _ => hb_) ?_
           clear hK K hb2_ hsz2_ hg_
           replace HGA := kp (HGA.out.grow' hb_)
           have hb_ := hb_
           clear hb_
           replace HB := kp (HB.out.grow' hb_)
           clear hb_
           try clear w_
           rename World => w_
           refine pl_act rfl (by exact wanted_none rfl) (fun K hK => ?_)
           go_wp2_with fail
           refine (HNC.out _).mono ?_
           rintro e w2_ ⟨rfl, hb_⟩
           go_wp2_with fail
           refine hK _ _ (fun _ => hb_) ?_
           clear hK K
           replace HV := kp (HV.out.grow hb_)
           replace HGA := kp (HGA.out.grow' hb_)
           have hb_ := hb_
           clear hb_
           replace HB := kp (HB.out.grow' hb_)
           clear hb_
           try clear w_
           rename World => w_
           refine pl_act rfl (by exact wanted_none rfl) (fun K hK => ?_)
           go_wp2_with fail
           refine (HQC.out _).mono ?_
           rintro e w2_ ⟨rfl, hb_⟩
           go_wp2_with fail
           refine hK _ _ (fun _ => hb_) ?_
           clear hK K
           replace HV := kp (HV.out.grow hb_)
           replace HGA := kp (HGA.out.grow' hb_)
           have hb_ := hb_
           clear hb_
           replace HB := kp (HB.out.grow' hb_)
           clear hb_
           try clear w_
           rename World => w_
           refine pl_act rfl (by first | exact wanted_none rfl | (go_simp; done) | rfl) (fun K hK => ?_)
           show wpList _ _ _ [⟨none, .store _ _ _, _, _, _, _⟩] _ _
           go_wp2_with (first | (with_reducible refine wpl_storeb (o := ⟨none, .store _ _ _, _, _, _, _⟩) rfl rfl row_id HV.out.blk rfl rfl HV.out.len DQ.out.len DQ.out.one ?_))
           intro w2_ hb2_ hg2_ hsz2_
           have HGC := kp (put_below HGA.out HVG.out hg2_)
           replace HV := kp (at_mk hb2_ DQ.out.len)
           replace HB := kp (put_below HB.out (Nat.le_trans HGB.out HVG.out) hg2_)
           replace HX := kp (HX.out.grow HGC.out)
           replace HS := kp (HS.out.grow HGC.out)
           clear hb2_ hg2_ hsz2_ HGA HGB HGC HVG
           try clear w_
           try clear w0
           rename World => w_
           go_wp2_with fail
           refine hK _ _ (fun h => by cases h) ?_
           clear hK K
           repeat ((first | refine pl_calm rfl rfl (by first | exact wanted_none rfl | (go_simp; done) | rfl) (fun w_ => by first | (go_simp; rfl) | (go_simp; done) | rfl) (fun K hK => ?_) | refine pl_skip rfl (by first | (go_simp; done) | rfl) (fun K hK => ?_) | refine pl_skipa rfl (by first | (go_simp; done) | rfl) (fun K hK => ?_)); go_simp; refine hK _ _ ?_; clear hK K)
           refine pl_done ?_
           go_wp2_with fail
           go_meet
           case rel => exact ⟨gv, rfl, kp ⟨HV.out, HX.out, HS.out, HB.out⟩⟩
         ·skip
          refine pl_act rfl (by exact wanted_none rfl) (fun K hK => ?_)
          show wpList _ _ _ [⟨some _, .alloc _, _, _, _, _⟩] _ _
          go_wp2_with (first | (with_reducible refine wpl_alloc (o := ⟨some 7, _, _, _, _, _⟩) rfl rfl zero_id ?_))
          intro w2_ hb2_ hb_ hsz2_
          have HV := kp (at_mk hb2_ len_id)
          have HVG := kp HGA.out.size
          generalize hg_ : w_.heap.size = gv at HV HVG ⊢
          go_wp2_with fail
          refine hK _ _ (fun _ => hb_) ?_
          clear hK K hb2_ hsz2_ hg_
          replace HGA := kp (HGA.out.grow' hb_)
          have hb_ := hb_
          clear hb_
          replace HB := kp (HB.out.grow' hb_)
          replace HE5 := kp (HE5.out.grow hb_)
          clear hb_
          try clear w_
          rename World => w_
          refine pl_act rfl (by exact wanted_none rfl) (fun K hK => ?_)
          go_wp2_with fail
          refine (HLC.out _ _ _ HE5.out).mono ?_
          rintro e w2_ ⟨rfl, hb_⟩
          clear HE5
          go_wp2_with fail
          refine hK _ _ (fun _ => hb_) ?_
          clear hK K
          replace HV := kp (HV.out.grow hb_)
          replace HGA := kp (HGA.out.grow' hb_)
          have hb_ := hb_
          clear hb_
          replace HB := kp (HB.out.grow' hb_)
          clear hb_
          try clear w_
          rename World => w_
          refine pl_act rfl (by exact wanted_none rfl) (fun K hK => ?_)
          go_wp2_with fail
          refine (HNC.out _).mono ?_
          rintro e w2_ ⟨rfl, hb_⟩
          go_wp2_with fail
          refine hK _ _ (fun _ => hb_) ?_
          clear hK K
          replace HV := kp (HV.out.grow hb_)
          replace HGA := kp (HGA.out.grow' hb_)
          have hb_ := hb_
          clear hb_
          replace HB := kp (HB.out.grow' hb_)
          clear hb_
          try clear w_
          rename World => w_
          refine pl_act rfl (by exact wanted_none rfl) (fun K hK => ?_)
          go_wp2_with fail
          refine (HQC.out _).mono ?_
          rintro e w2_ ⟨rfl, hb_⟩
          go_wp2_with fail
          refine hK _ _ (fun _ => hb_) ?_
          clear hK K
          replace HV := kp (HV.out.grow hb_)
          replace HGA := kp (HGA.out.grow' hb_)
          have hb_ := hb_
          clear hb_
          replace HB := kp (HB.out.grow' hb_)
          clear hb_
          try clear w_
          rename World => w_
          refine pl_act rfl (by first | exact wanted_none rfl | (go_simp; done) | rfl) (fun K hK => ?_)
          show wpList _ _ _ [⟨none, .store _ _ _, _, _, _, _⟩] _ _
          go_wp2_with (first | (with_reducible refine wpl_storeb (o := ⟨none, .store _ _ _, _, _, _, _⟩) rfl rfl row_id HV.out.blk rfl rfl HV.out.len DQ.out.len DQ.out.one ?_))
          intro w2_ hb2_ hg2_ hsz2_
          have HGC := kp (put_below HGA.out HVG.out hg2_)
          replace HV := kp (at_mk hb2_ DQ.out.len)
          replace HB := kp (put_below HB.out (Nat.le_trans HGB.out HVG.out) hg2_)
          replace HX := kp (HX.out.grow HGC.out)
          replace HS := kp (HS.out.grow HGC.out)
          clear hb2_ hg2_ hsz2_ HGA HGB HGC HVG
          try clear w_
          try clear w0
          rename World => w_
          go_wp2_with fail
          refine hK _ _ (fun h => by cases h) ?_
          clear hK K
          repeat ((first | refine pl_calm rfl rfl (by first | exact wanted_none rfl | (go_simp; done) | rfl) (fun w_ => by first | (go_simp; rfl) | (go_simp; done) | rfl) (fun K hK => ?_) | refine pl_skip rfl (by first | (go_simp; done) | rfl) (fun K hK => ?_) | refine pl_skipa rfl (by first | (go_simp; done) | rfl) (fun K hK => ?_)); go_simp; refine hK _ _ ?_; clear hK K)
          refine pl_done ?_
          go_wp2_with fail
          go_meet
          case rel => exact ⟨gv, rfl, kp ⟨HV.out, HX.out, HS.out, HB.out⟩⟩
        ·skip
         refine pl_act rfl (by exact wanted_none rfl) (fun K hK => ?_)
         show wpList _ _ _ [⟨some _, .alloc _, _, _, _, _⟩] _ _
         go_wp2_with (first | (with_reducible refine wpl_alloc (o := ⟨some 7, _, _, _, _, _⟩) rfl rfl zero_id ?_))
         intro w2_ hb2_ hb_ hsz2_
         have HV := kp (at_mk hb2_ len_id)
         have HVG := kp HGA.out.size
         generalize hg_ : w_.heap.size = gv at HV HVG ⊢
         go_wp2_with fail
         refine hK _ _ (fun _ => hb_) ?_
         clear hK K hb2_ hsz2_ hg_
         replace HGA := kp (HGA.out.grow' hb_)
         have hb_ := hb_
         clear hb_
         replace HB := kp (HB.out.grow' hb_)
         clear hb_
         try clear w_
         rename World => w_
         refine pl_act rfl (by exact wanted_none rfl) (fun K hK => ?_)
         go_wp2_with fail
         refine (HPE2.out _).mono ?_
         rintro e w2_ ⟨A5, c5, rfl, he5_, hc5_, hb_⟩
         have HE5_ := kp he5_
         clear he5_ hc5_
         go_wp2_with fail
         refine hK _ _ (fun _ => hb_) ?_
         clear hK K
         replace HV := kp (HV.out.grow hb_)
         replace HGA := kp (HGA.out.grow' hb_)
         have hb_ := hb_
         clear hb_
         replace HB := kp (HB.out.grow' hb_)
         clear hb_
         try clear w_
         rename World => w_
         have HE5 := HE5_
         clear HE5_
         refine pl_act rfl (by exact wanted_none rfl) (fun K hK => ?_)
         go_wp2_with fail
         refine (HLC.out _ _ _ HE5.out).mono ?_
         rintro e w2_ ⟨rfl, hb_⟩
         clear HE5
         go_wp2_with fail
         refine hK _ _ (fun _ => hb_) ?_
         clear hK K
         replace HV := kp (HV.out.grow hb_)
         replace HGA := kp (HGA.out.grow' hb_)
         have hb_ := hb_
         clear hb_
         replace HB := kp (HB.out.grow' hb_)
         clear hb_
         try clear w_
         rename World => w_
         refine pl_act rfl (by exact wanted_none rfl) (fun K hK => ?_)
         go_wp2_with fail
         refine (HNC.out _).mono ?_
         rintro e w2_ ⟨rfl, hb_⟩
         go_wp2_with fail
         refine hK _ _ (fun _ => hb_) ?_
         clear hK K
         replace HV := kp (HV.out.grow hb_)
         replace HGA := kp (HGA.out.grow' hb_)
         have hb_ := hb_
         clear hb_
         replace HB := kp (HB.out.grow' hb_)
         clear hb_
         try clear w_
         rename World => w_
         refine pl_act rfl (by exact wanted_none rfl) (fun K hK => ?_)
         go_wp2_with fail
         refine (HQC.out _).mono ?_
         rintro e w2_ ⟨rfl, hb_⟩
         go_wp2_with fail
         refine hK _ _ (fun _ => hb_) ?_
         clear hK K
         replace HV := kp (HV.out.grow hb_)
         replace HGA := kp (HGA.out.grow' hb_)
         have hb_ := hb_
         clear hb_
         replace HB := kp (HB.out.grow' hb_)
         clear hb_
         try clear w_
         rename World => w_
         refine pl_act rfl (by first | exact wanted_none rfl | (go_simp; done) | rfl) (fun K hK => ?_)
         show wpList _ _ _ [⟨none, .store _ _ _, _, _, _, _⟩] _ _
         go_wp2_with (first | (with_reducible refine wpl_storeb (o := ⟨none, .store _ _ _, _, _, _, _⟩) rfl rfl row_id HV.out.blk rfl rfl HV.out.len DQ.out.len DQ.out.one ?_))
         intro w2_ hb2_ hg2_ hsz2_
         have HGC := kp (put_below HGA.out HVG.out hg2_)
         replace HV := kp (at_mk hb2_ DQ.out.len)
         replace HB := kp (put_below HB.out (Nat.le_trans HGB.out HVG.out) hg2_)
         replace HX := kp (HX.out.grow HGC.out)
         replace HS := kp (HS.out.grow HGC.out)
         clear hb2_ hg2_ hsz2_ HGA HGB HGC HVG
         try clear w_
         try clear w0
         rename World => w_
         go_wp2_with fail
         refine hK _ _ (fun h => by cases h) ?_
         clear hK K
         repeat ((first | refine pl_calm rfl rfl (by first | exact wanted_none rfl | (go_simp; done) | rfl) (fun w_ => by first | (go_simp; rfl) | (go_simp; done) | rfl) (fun K hK => ?_) | refine pl_skip rfl (by first | (go_simp; done) | rfl) (fun K hK => ?_) | refine pl_skipa rfl (by first | (go_simp; done) | rfl) (fun K hK => ?_)); go_simp; refine hK _ _ ?_; clear hK K)
         refine pl_done ?_
         go_wp2_with fail
         go_meet
         case rel => exact ⟨gv, rfl, kp ⟨HV.out, HX.out, HS.out, HB.out⟩⟩
       case rest =>
        obtain ⟨gv, rfl, hI⟩ := hcut
        have HV := kp hI.out.1; have HX := kp hI.out.2.1; have HS := kp hI.out.2.2.1; have HB := kp hI.out.2.2.2
        clear hI
        rename World => w_
        cases tr with
        | false =>
         have HF := kp (show res = false by rw [HRES.out]; simp)
         try go_wp2_with fail
         repeat' (first | (with_reducible refine wp_plan (id := 4) Grow [2,0,0,2,0,0,0,1,0,0,0,1,0,2,4,4,0,0,0] (.get 0 (.get 1 (.get 2 (.get 3 (.get 4 (.get 5 (.get 6 (.get 7 (.get 8 (.get 9 (.get 10 (.get 11 (.get 12 (.get 13 (.act 14 (.act 15 (.get 16 (.get 17 (.get 18 .done))))))))))))))))))) (by kernel_rfl) (by kernel_rfl) Grow.refl Grow.trans ?_) | go_values | go_skip | go_guarded | go_step | go_upon | go_back)
         intro w_ hd_
         have hb_ := hd_.grow
         replace HB := kp (HB.out.grow' hb_)
         replace HX := kp (HX.out.grow hb_)
         replace HS := kp (HS.out.grow hb_)
         replace HV := kp (HV.out.grow hb_)
         clear hb_ hd_
         have FMR := kp (MR.out _ _ _ HX.out.blk)
         have HXZ := kp HX.out.lt
         repeat (first | (refine pl_calm rfl rfl (by first | exact wanted_none rfl | (go_simp; done) | rfl) (fun w_ => by first | (go_simp; rfl) | (go_simp; done) | rfl) (fun K hK => ?_); go_simp; refine hK _ _ ?_; clear hK K) | (refine pl_skip rfl (by first | (go_simp; done) | rfl) (fun K hK => ?_); go_simp; refine hK _ _ ?_; clear hK K) | (refine pl_skipa rfl (by first | (go_simp; done) | rfl) (fun K hK => ?_); go_simp; refine hK _ _ ?_; clear hK K) | (refine pl_loadb rfl rfl (by first | exact wanted_none rfl | (go_simp; done) | rfl) rfl row_id HV.out.blk (by first | rfl | (go_simp; done) | rfl) HV.out.len (fun K hK => ?_); go_simp; refine hK _ _ ?_; clear hK K) | (refine pl_loadbnow rfl rfl (by first | exact wanted_none rfl | (go_simp; done) | rfl) rfl row_id HV.out.blk (by first | rfl | (go_simp; done) | rfl) HV.out.len (fun K hK => ?_); go_simp; refine hK _ _ ?_; clear hK K))
         refine pl_loadm rfl (by decide) (by exact wanted_none rfl) rfl row_id FMR.out HXZ.out (by first | rfl | (go_simp; done) | rfl) DR.out.len (fun K hK => ?_)
         go_simp
         refine hK _ _ ?_
         clear hK K
         repeat ((first | refine pl_calm rfl rfl (by first | exact wanted_none rfl | (go_simp; done) | rfl) (fun w_ => by first | (go_simp; rfl) | (go_simp; done) | rfl) (fun K hK => ?_) | refine pl_skip rfl (by first | (go_simp; done) | rfl) (fun K hK => ?_) | refine pl_skipa rfl (by first | (go_simp; done) | rfl) (fun K hK => ?_)); go_simp; refine hK _ _ ?_; clear hK K)
         refine pl_done ?_
         go_wp2_with fail
         go_ret
         exact ⟨by rw [HF.out]; rfl, HB.out⟩
        | true =>
         have HF := kp (show res = tg by rw [HRES.out]; simp)
         try go_wp2_with fail
         repeat' (first | (with_reducible refine wp_plan (id := 4) Grow [2,0,0,2,0,0,0,1,0,0,0,1,0,2,4,4,0,0,0] (.get 0 (.get 1 (.get 2 (.get 3 (.get 4 (.get 5 (.get 6 (.get 7 (.get 8 (.get 9 (.get 10 (.get 11 (.get 12 (.get 13 (.act 14 (.act 15 (.get 16 (.get 17 (.get 18 .done))))))))))))))))))) (by kernel_rfl) (by kernel_rfl) Grow.refl Grow.trans ?_) | go_values | go_skip | go_guarded | go_step | go_upon | go_back)
         intro w_ hd_
         have hb_ := hd_.grow
         replace HB := kp (HB.out.grow' hb_)
         replace HX := kp (HX.out.grow hb_)
         replace HS := kp (HS.out.grow hb_)
         replace HV := kp (HV.out.grow hb_)
         clear hb_ hd_
         have FMR := kp (MR.out _ _ _ HX.out.blk)
         have FMT := kp (MT.out _ _ _ HX.out.blk)
         have FMH := kp (MH.out _ _ _ HX.out.blk)
         have HXZ := kp HX.out.lt
         have ch := HX.out.blk.at_ IA.out.2.2.2.2.1
         repeat (first | (refine pl_calm rfl rfl (by first | exact wanted_none rfl | (go_simp; done) | rfl) (fun w_ => by first | (go_simp; rfl) | (go_simp; done) | rfl) (fun K hK => ?_); go_simp; refine hK _ _ ?_; clear hK K) | (refine pl_skip rfl (by first | (go_simp; done) | rfl) (fun K hK => ?_); go_simp; refine hK _ _ ?_; clear hK K) | (refine pl_skipa rfl (by first | (go_simp; done) | rfl) (fun K hK => ?_); go_simp; refine hK _ _ ?_; clear hK K) | (refine pl_loadb rfl rfl (by first | exact wanted_none rfl | (go_simp; done) | rfl) rfl row_id HV.out.blk (by first | rfl | (go_simp; done) | rfl) HV.out.len (fun K hK => ?_); go_simp; refine hK _ _ ?_; clear hK K) | (refine pl_loadbnow rfl rfl (by first | exact wanted_none rfl | (go_simp; done) | rfl) rfl row_id HV.out.blk (by first | rfl | (go_simp; done) | rfl) HV.out.len (fun K hK => ?_); go_simp; refine hK _ _ ?_; clear hK K))
         refine pl_loadm rfl (by decide) (by exact wanted_none rfl) rfl row_id FMR.out HXZ.out (by first | rfl | (go_simp; done) | rfl) DR.out.len (fun K hK => ?_)
         go_simp
         refine hK _ _ ?_
         clear hK K
         repeat ((first | refine pl_calm rfl rfl (by first | exact wanted_none rfl | (go_simp; done) | rfl) (fun w_ => by first | (go_simp; rfl) | (go_simp; done) | rfl) (fun K hK => ?_) | refine pl_skip rfl (by first | (go_simp; done) | rfl) (fun K hK => ?_) | refine pl_skipa rfl (by first | (go_simp; done) | rfl) (fun K hK => ?_)); go_simp; refine hK _ _ ?_; clear hK K)
         refine pl_loadm rfl (by decide) (by first | exact wanted_none rfl | (go_simp; done) | rfl) rfl row_id FMT.out HXZ.out (by first | rfl | (go_simp; done) | rfl) DT.out.len (fun K hK => ?_)
         go_simp
         refine hK _ _ ?_
         clear hK K
         iterate 5 (first | (refine pl_calm rfl rfl (by first | exact wanted_none rfl | (go_simp; done) | rfl) (fun w_ => by first | (go_simp; rfl) | (go_simp; done) | rfl) (fun K hK => ?_); go_simp; refine hK _ _ ?_; clear hK K) | (refine pl_skip rfl (by first | (go_simp; done) | rfl) (fun K hK => ?_); go_simp; refine hK _ _ ?_; clear hK K) | (refine pl_skipa rfl (by first | (go_simp; done) | rfl) (fun K hK => ?_); go_simp; refine hK _ _ ?_; clear hK K) | (refine pl_load rfl rfl (by first | exact wanted_none rfl | (go_simp; done) | rfl) rfl (by first | rfl | (go_simp; rfl)) (by kernel_rfl) (by first | exact ch) (fun K hK => ?_); go_simp; refine hK _ _ ?_; clear hK K) | (refine pl_loadnow rfl rfl (by first | exact wanted_none rfl | (go_simp; done) | rfl) rfl (by first | rfl | (go_simp; rfl)) (by kernel_rfl) (by first | exact ch) (fun K hK => ?_); go_simp; refine hK _ _ ?_; clear hK K))
         refine pl_loadm rfl (by decide) (by first | exact wanted_none rfl | (go_simp; done) | rfl) rfl row_header FMH.out HXZ.out (by first | rfl | (go_simp; done) | rfl) LH.out (fun K hK => ?_)
         go_simp
         refine hK _ _ ?_
         clear hK K FMR FMT FMH HXZ ch
         refine pl_act rfl (by first | exact wanted_none rfl | (go_simp; done) | rfl) (fun K hK => ?_)
         go_wp2_with fail
         refine (HPH2.out _).mono ?_
         rintro e w_ ⟨A7, c7, rfl, hs7_, hc7_, hb_⟩
         go_wp2_with fail
         refine hK _ _ (fun _ => hb_) ?_
         clear hK K
         replace HB := kp (HB.out.grow' hb_)
         replace HS := kp (HS.out.grow hb_)
         clear hb_
         have HS7 := kp hs7_
         clear hs7_ hc7_
         refine pl_act rfl (by first | exact wanted_none rfl | (go_simp; done) | rfl) (fun K hK => ?_)
         go_wp2_with fail
         refine (HSC.out _ _ _ HS.out HS7.out).mono ?_
         rintro e w_ ⟨rfl, hb_⟩
         go_wp2_with fail
         refine hK _ _ (fun _ => hb_) ?_
         clear hK K
         replace HB := kp (HB.out.grow' hb_)
         clear hb_
         repeat ((first | refine pl_calm rfl rfl (by first | exact wanted_none rfl | (go_simp; done) | rfl) (fun w_ => by first | (go_simp; rfl) | (go_simp; done) | rfl) (fun K hK => ?_) | refine pl_skip rfl (by first | (go_simp; done) | rfl) (fun K hK => ?_) | refine pl_skipa rfl (by first | (go_simp; done) | rfl) (fun K hK => ?_)); go_simp; refine hK _ _ ?_; clear hK K)
         refine pl_done ?_
         go_wp2_with fail
         go_ret
         exact ⟨by rw [HF.out]; rfl, HB.out⟩
      ·have g1 : decide ((N : Int) ≤ (k : Int)) = true := by simp; omega
       have HF := kp (show res = false by
        rw [HRES.out, ← HTG.out]; unfold tagC; rw [← HJ1.out, show decide ((k : Int) < (N : Int)) = false by simp only [decide_eq_false_iff_not]; omega]; simp)
       go_wp2_with fail
       go_ret
       exact ⟨by rw [HF.out]; rfl, HB.out⟩
     ·have g1 : ((n2 : Int) == 2) = false := by simp; omega
      have g2 : ((n2 : Int) != 2) = true := by simp; omega
      have g3 : (n2 == 2) = false := by simp; omega
      have g4 : (n2 != 2) = true := by simp; omega
      have g5 : decide ((n2 : Int) = 2) = false := by simp; omega
      have HF := kp (show res = false by
       rw [HRES.out, ← HTR.out, climb3_no _ _ (by rw [HNL.out]; exact h2)]; simp)
      clear h2
      go_wp2_with fail
      go_ret
      exact ⟨by rw [HF.out]; rfl, HB.out⟩
end Go.Proofs.YtphmefhnffoafaaGreatDoor

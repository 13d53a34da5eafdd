/- The given card CertTellsCardSaid, out of the walk certTells_walk: for every input the law returns true, and each argument reads as it did; the tables of package sha are tied to the program's text. No condition. -/
import Derived.Test.YtphmefhnffoafaaDoorCertTellsB2
import Derived.Test.YtphmefhnffoafaaDoorCertTellsB3
import Derived.Test.YtphmefhnffoafaaDoorHeaderFollowsB2
import Derived.ShutString
import Derived.ChangeOld
import Derived.Below
set_option linter.unusedSimpArgs false
/- The walk of CertTells. -/
namespace Go.Proofs.YtphmefhnffoafaaDoor
open Go.RowKit Go.Shelf
set_option linter.unusedVariables false
set_option maxRecDepth 100000 in
set_option maxHeartbeats 4000000 in
theorem certTells_any (A : Option Addr) (n c : Nat) (seed : List UInt8) (s : Int) (A2 : Option Addr) (n2 c2 : Nat) (x : Cer) (kind shard : Int) (id : List UInt8) (M N : Nat) (w : World) (hs : Sl w w.heap.size 1 A n (seed.map B)) (hc : n ≤ c)
    (a1 : IntKind.i64.wrap s = s) (a2 : RowKit.wrap64 s = s) (q1 : s.tmod 64 = (M : Int)) (hM : M < 64) (q2 : (1 : Int) + (M : Int) = (N : Int)) (hx : x.ok) (hi : Ids w A2 n2 c2 x.path) (hid : id.length = 32) (ht : Tabs w) :
    Calls Tryd.prog 12 #[.slice A n c, .int .u8 s, .agg (certV (.slice A2 n2 c2) x).toArray, .int .i64 kind, .int .i64 shard, .agg (id.map B).toArray] w fun e w' => e = .returned (.bool true) ∧ Below w.heap.size w w' := by
  have HS := Lib.hid hs; have HI := Lib.hid hi; have HT := Lib.hid ht
  have HB := Lib.hid (Below.refl w.heap.size w)
  obtain ⟨b2, hb2⟩ : ∃ b, decide (40 < n2) = b := ⟨_, rfl⟩
  have G2 := Lib.hid (fun w => cgreat_any (A2 := A2) (c2 := c2) hb2 w hx)
  have HN2 := Lib.hid (show b2 = false → n2 ≤ 1000000 from fun h => by rw [← hb2, decide_eq_false_iff_not] at h; omega)
  have HD := Lib.hid (cert_cl (v := .slice A2 n2 c2) rfl hx)
  have HZ := Lib.hid (dig_map hid)
  by_cases h1 : n ≤ 60
  · have g1 : decide (60 < (n : Int)) = false := by simp; omega
    have HN1 := Lib.hid (show 1 ≤ N by omega); have HN64 := Lib.hid (show N ≤ 64 by omega)
    have hN3 : (N : Int) ≠ 0 := by omega
    obtain ⟨is, his⟩ : ∃ b, isC seed N x = b := ⟨_, rfl⟩
    obtain ⟨d1, hd1⟩ : ∃ q, (x.e.kind == kind) = q := ⟨_, rfl⟩
    obtain ⟨d2, hd2⟩ : ∃ q, (x.e.shard == shard) = q := ⟨_, rfl⟩
    obtain ⟨d3, hd3⟩ : ∃ q, (x.e.tx == id) = q := ⟨_, rfl⟩
    obtain ⟨pr, hpr⟩ : ∃ q, (is && d1 && d2 && d3) = q := ⟨_, rfl⟩
    have HPR := Lib.hid hpr
    have R1 := Lib.hid (fun w hs hn2 hi => rcis_any (A := A) (n := n) (c := c) (A2 := A2) (n2 := n2) (c2 := c2) his w hs (by omega) hx hn2 hi)
    have I1 := Lib.hid (fun g A c w hr hn2 hi ht => cis_any (g := g) (A := A) (c := c) (A2 := A2) (n2 := n2) (c2 := c2) his w hr (by omega) hx hn2 hi ht)
    have P1 := Lib.hid (fun rp w hc => cproves_any (rp := rp) (b := is) (A2 := A2) (n2 := n2) (c2 := c2) (kind := kind) (shard := shard) (res := pr) (by rw [hd1, hd2, ← hpr, ← hd3, Bool.beq_eq_decide_eq]) HZ.out w hx hc)
    have P2 := Lib.hid (fun w => cproves_any (rp := .pointer none) (b := false) (A2 := A2) (n2 := n2) (c2 := c2) (kind := kind) (shard := shard) (res := false) (by simp) HZ.out w hx (fun w' _ => cis_nil w' hx))
    have IA := Lib.hid (cert_ats (v := .slice A2 n2 c2) hx)
    have MX := Lib.hid (fun w g t hb => midCX (c := x) (v := .slice A2 n2 c2) (w := w) (g := g) (t := t) hx hb)
    have DX := Lib.hid (dig_map hx.1.2.2.1)
    have q3 := DX.out.eql_b HZ.out hd3
    obtain ⟨xv, hxv⟩ : ∃ v, v = certV (.slice A2 n2 c2) x := ⟨_, rfl⟩
    rw [← hxv] at HD G2 R1 I1 P1 P2 IA MX ⊢
    obtain ⟨tv, htv⟩ : ∃ v, v = x.e.tx.map B := ⟨_, rfl⟩
    rw [← htv] at DX MX q3
    obtain ⟨zv, hzv⟩ : ∃ v, v = id.map B := ⟨_, rfl⟩
    rw [← hzv] at HZ P1 P2 q3 ⊢
    obtain ⟨i0, hi0⟩ : ∃ k, k = x.e.kind := ⟨_, rfl⟩
    obtain ⟨i1, hi1⟩ : ∃ k, k = x.e.shard := ⟨_, rfl⟩
    rw [← hi0, ← hi1] at IA
    rw [← hi0] at hd1
    rw [← hi1] at hd2
    have heqb := eql_bb is; have heqp := eql_bb pr
    have HQ := Lib.hid q3
    have HD1 := Lib.hid hd1; have HD2 := Lib.hid hd2
    clear hs hi ht hx hid hb2 his hpr hd3 hxv htv hzv hi0 hi1 q3 hd1 hd2
    go_enter Tryd.func12, Tryd.ntmps12
    go_wp2_with (first | (with_reducible refine wpl_box (o := ⟨some 8, _, _, _, _, _⟩) rfl rfl rfl ?_))
    intro w2_ hb2_ hb_ hsz2_
    have HX_ := Lib.hid (at_mk hb2_ HD.out.len)
    clear hb2_ hsz2_
    have HB_ := Lib.hid (HB.out.grow' hb_)
    clear HB
    have HB := HB_
    clear HB_
    have HS_ := Lib.hid (HS.out.grow hb_)
    clear HS
    have HS := HS_
    clear HS_
    have HI_ := Lib.hid (HI.out.grow hb_)
    clear HI
    have HI := HI_
    clear HI_
    have HT_ := Lib.hid (HT.out.grow hb_)
    clear HT
    have HT := HT_
    clear HT_
    have HX := HX_
    clear hb_ HX_
    try clear w_
    rename World => w_
    go_wp2_with (first | (with_reducible refine wpl_box (o := ⟨some 11, _, _, _, _, _⟩) rfl rfl rfl ?_))
    intro w2_ hb2_ hb_ hsz2_
    have HX_ := Lib.hid (at_mk hb2_ HZ.out.len)
    clear hb2_ hsz2_
    have HG_ := Lib.hid HB.out.size
    have HB_ := Lib.hid (HB.out.grow' hb_)
    clear HB
    have HB := HB_
    clear HB_
    have HX_ := Lib.hid (HX.out.grow hb_)
    clear HX
    have HX := HX_
    clear HX_
    have HS_ := Lib.hid (HS.out.grow hb_)
    clear HS
    have HS := HS_
    clear HS_
    have HI_ := Lib.hid (HI.out.grow hb_)
    clear HI
    have HI := HI_
    clear HI_
    have HT_ := Lib.hid (HT.out.grow hb_)
    clear HT
    have HT := HT_
    clear HT_
    generalize hg_ : w_.heap.size = g1 at HX_ HG_ ⊢
    clear hg_
    have HY_g := HG_
    clear HG_
    have HY := HX_
    clear hb_ HX_
    try clear w_
    rename World => w_
    go_wp2_with (first | (with_reducible refine wpl_loadb (o := ⟨_, .load _ _, _, _, _, _⟩) rfl rfl row_cert HX.out.blk rfl HX.out.len ?_) | (with_reducible refine wpl_loadw (o := ⟨_, .load _ _, _, _, _, _⟩) (by first | rfl | (go_simp; done) | fail) rfl row_cert HX.out.blk rfl HX.out.len ?_))
    refine (G2.out _).mono ?_
    rintro e w_ ⟨rfl, hb_⟩
    have HB_ := Lib.hid (HB.out.grow' hb_)
    clear HB
    have HB := HB_
    clear HB_
    have HX_ := Lib.hid (HX.out.grow hb_)
    clear HX
    have HX := HX_
    clear HX_
    have HY_ := Lib.hid (HY.out.grow hb_)
    clear HY
    have HY := HY_
    clear HY_
    have HS_ := Lib.hid (HS.out.grow hb_)
    clear HS
    have HS := HS_
    clear HS_
    have HI_ := Lib.hid (HI.out.grow hb_)
    clear HI
    have HI := HI_
    clear HI_
    have HT_ := Lib.hid (HT.out.grow hb_)
    clear HT
    have HT := HT_
    clear HT_
    clear hb_
    cases b2 with
    | true =>
      go_wp2_with fail
      refine (awake11_any _ HT.out).mono ?_
      rintro e w_ ⟨rfl, hb_⟩
      have HB_ := Lib.hid (HB.out.grow' hb_)
      clear HB
      have HB := HB_
      clear HB_
      clear hb_
      go_wp2_with fail
      go_ret
      exact ⟨rfl, HB.out⟩
    | false =>
      have K2 := Lib.hid (HN2.out (by first | trivial | rfl))
      clear HN2
      go_wp2_with fail
      refine (keys_yes _ n c N seed _ HS.out hc (by omega) HN1.out HN64.out HT.out).mono ?_
      rintro e w_ ⟨g, A1, c1, rfl, hr_, hb_⟩
      have HB_ := Lib.hid (HB.out.grow' hb_)
      clear HB
      have HB := HB_
      clear HB_
      have HX_ := Lib.hid (HX.out.grow hb_)
      clear HX
      have HX := HX_
      clear HX_
      have HY_ := Lib.hid (HY.out.grow hb_)
      clear HY
      have HY := HY_
      clear HY_
      have HS_ := Lib.hid (HS.out.grow hb_)
      clear HS
      have HS := HS_
      clear HS_
      have HI_ := Lib.hid (HI.out.grow hb_)
      clear HI
      have HI := HI_
      clear HI_
      have HT_ := Lib.hid (HT.out.grow hb_)
      clear HT
      have HT := HT_
      clear HT_
      clear hb_
      have HRA := Lib.hid hr_
      clear hr_
      go_wp2_with (first | (with_reducible refine wpl_loadb (o := ⟨_, .load _ _, _, _, _, _⟩) rfl rfl row_cert HX.out.blk rfl HX.out.len ?_) | (with_reducible refine wpl_loadw (o := ⟨_, .load _ _, _, _, _, _⟩) (by first | rfl | (go_simp; done) | fail) rfl row_cert HX.out.blk rfl HX.out.len ?_))
      refine (R1.out _ HS.out K2.out HI.out).mono ?_
      rintro e w_ ⟨rfl, hb_⟩
      have HB_ := Lib.hid (HB.out.grow' hb_)
      clear HB
      have HB := HB_
      clear HB_
      have HX_ := Lib.hid (HX.out.grow hb_)
      clear HX
      have HX := HX_
      clear HX_
      have HY_ := Lib.hid (HY.out.grow hb_)
      clear HY
      have HY := HY_
      clear HY_
      have HI_ := Lib.hid (HI.out.grow hb_)
      clear HI
      have HI := HI_
      clear HI_
      have HT_ := Lib.hid (HT.out.grow hb_)
      clear HT
      have HT := HT_
      clear HT_
      have HRA_ := Lib.hid (HRA.out.grow hb_)
      clear HRA
      have HRA := HRA_
      clear HRA_
      clear hb_
      go_wp2_with (first | (with_reducible refine wpl_loadb (o := ⟨_, .load _ _, _, _, _, _⟩) rfl rfl row_cert HX.out.blk rfl HX.out.len ?_) | (with_reducible refine wpl_loadw (o := ⟨_, .load _ _, _, _, _, _⟩) (by first | rfl | (go_simp; done) | fail) rfl row_cert HX.out.blk rfl HX.out.len ?_))
      refine (I1.out _ _ _ _ HRA.out K2.out HI.out HT.out).mono ?_
      rintro e w_ ⟨rfl, hb_⟩
      have HB_ := Lib.hid (HB.out.grow' hb_)
      clear HB
      have HB := HB_
      clear HB_
      have HX_ := Lib.hid (HX.out.grow hb_)
      clear HX
      have HX := HX_
      clear HX_
      have HY_ := Lib.hid (HY.out.grow hb_)
      clear HY
      have HY := HY_
      clear HY_
      have HI_ := Lib.hid (HI.out.grow hb_)
      clear HI
      have HI := HI_
      clear HI_
      have HT_ := Lib.hid (HT.out.grow hb_)
      clear HT
      have HT := HT_
      clear HT_
      have HRA_ := Lib.hid (HRA.out.grow hb_)
      clear HRA
      have HRA := HRA_
      clear HRA_
      clear hb_
      go_wp2_with (first | (with_reducible refine wpl_loadb (o := ⟨_, .load _ _, _, _, _, _⟩) rfl rfl row_cert HX.out.blk rfl HX.out.len ?_) | (with_reducible refine wpl_loadw (o := ⟨_, .load _ _, _, _, _, _⟩) (by first | rfl | (go_simp; done) | fail) rfl row_cert HX.out.blk rfl HX.out.len ?_) | (with_reducible refine wpl_loadb (o := ⟨_, .load _ _, _, _, _, _⟩) rfl rfl row_id HY.out.blk rfl HY.out.len ?_) | (with_reducible refine wpl_loadw (o := ⟨_, .load _ _, _, _, _, _⟩) (by first | rfl | (go_simp; done) | fail) rfl row_id HY.out.blk rfl HY.out.len ?_))
      refine (P1.out _ _ (fun w' hb' => I1.out _ _ _ _ (HRA.out.grow hb') K2.out (HI.out.grow hb') (HT.out.grow hb'))).mono ?_
      rintro e w_ ⟨rfl, hb_⟩
      have HB_ := Lib.hid (HB.out.grow' hb_)
      clear HB
      have HB := HB_
      clear HB_
      have HX_ := Lib.hid (HX.out.grow hb_)
      clear HX
      have HX := HX_
      clear HX_
      have HY_ := Lib.hid (HY.out.grow hb_)
      clear HY
      have HY := HY_
      clear HY_
      have HT_ := Lib.hid (HT.out.grow hb_)
      clear HT
      have HT := HT_
      clear HT_
      clear hb_
      have ck := HX.out.blk.at_ IA.out.1
      have cs := HX.out.blk.at_ IA.out.2.1
      have hd1 := HD1.out; have hd2 := HD2.out; have q3 := HQ.out
      have FMX := Lib.hid (MX.out _ _ _ HX.out.blk)
      cases is with
      | false =>
        have hp : pr = false := by rw [← HPR.out]; rfl
        subst hp
        go_wp2_with (first | (with_reducible refine wpl_loadb (o := ⟨_, .load _ _, _, _, _, _⟩) rfl rfl row_cert HX.out.blk rfl HX.out.len ?_) | (with_reducible refine wpl_loadw (o := ⟨_, .load _ _, _, _, _, _⟩) (by first | rfl | (go_simp; done) | fail) rfl row_cert HX.out.blk rfl HX.out.len ?_) | (with_reducible refine wpl_loadb (o := ⟨_, .load _ _, _, _, _, _⟩) rfl rfl row_id HY.out.blk rfl HY.out.len ?_) | (with_reducible refine wpl_loadw (o := ⟨_, .load _ _, _, _, _, _⟩) (by first | rfl | (go_simp; done) | fail) rfl row_id HY.out.blk rfl HY.out.len ?_))
        refine (P2.out _).mono ?_
        clear ck cs FMX
        rintro e w_ ⟨rfl, hb_⟩
        have HB_ := Lib.hid (HB.out.grow' hb_)
        clear HB
        have HB := HB_
        clear HB_
        have HT_ := Lib.hid (HT.out.grow hb_)
        clear HT
        have HT := HT_
        clear HT_
        clear hb_
        go_wp2_with fail
        refine (awake11_any _ HT.out).mono ?_
        rintro e w_ ⟨rfl, hb_⟩
        have HB_ := Lib.hid (HB.out.grow' hb_)
        clear HB
        have HB := HB_
        clear HB_
        clear hb_
        go_wp2_with fail
        go_ret
        exact ⟨rfl, HB.out⟩
      | true =>
        cases d1 with
        | false =>
          have hp : pr = false := by rw [← HPR.out]; rfl
          subst hp
          go_wp2_with (first | (with_reducible refine wpl_loadb (o := ⟨_, .load _ _, _, _, _, _⟩) rfl rfl row_cert HX.out.blk rfl HX.out.len ?_) | (with_reducible refine wpl_loadw (o := ⟨_, .load _ _, _, _, _, _⟩) (by first | rfl | (go_simp; done) | fail) rfl row_cert HX.out.blk rfl HX.out.len ?_) | (with_reducible refine wpl_loadb (o := ⟨_, .load _ _, _, _, _, _⟩) rfl rfl row_id HY.out.blk rfl HY.out.len ?_) | (with_reducible refine wpl_loadw (o := ⟨_, .load _ _, _, _, _, _⟩) (by first | rfl | (go_simp; done) | fail) rfl row_id HY.out.blk rfl HY.out.len ?_))
          refine (P2.out _).mono ?_
          clear ck cs FMX
          rintro e w_ ⟨rfl, hb_⟩
          have HB_ := Lib.hid (HB.out.grow' hb_)
          clear HB
          have HB := HB_
          clear HB_
          have HT_ := Lib.hid (HT.out.grow hb_)
          clear HT
          have HT := HT_
          clear HT_
          clear hb_
          go_wp2_with fail
          refine (awake11_any _ HT.out).mono ?_
          rintro e w_ ⟨rfl, hb_⟩
          have HB_ := Lib.hid (HB.out.grow' hb_)
          clear HB
          have HB := HB_
          clear HB_
          clear hb_
          go_wp2_with fail
          go_ret
          exact ⟨rfl, HB.out⟩
        | true =>
          cases d2 with
          | false =>
            have hp : pr = false := by rw [← HPR.out]; rfl
            subst hp
            go_wp2_with (first | (with_reducible refine wpl_loadb (o := ⟨_, .load _ _, _, _, _, _⟩) rfl rfl row_cert HX.out.blk rfl HX.out.len ?_) | (with_reducible refine wpl_loadw (o := ⟨_, .load _ _, _, _, _, _⟩) (by first | rfl | (go_simp; done) | fail) rfl row_cert HX.out.blk rfl HX.out.len ?_) | (with_reducible refine wpl_loadb (o := ⟨_, .load _ _, _, _, _, _⟩) rfl rfl row_id HY.out.blk rfl HY.out.len ?_) | (with_reducible refine wpl_loadw (o := ⟨_, .load _ _, _, _, _, _⟩) (by first | rfl | (go_simp; done) | fail) rfl row_id HY.out.blk rfl HY.out.len ?_))
            refine (P2.out _).mono ?_
            clear ck cs FMX
            rintro e w_ ⟨rfl, hb_⟩
            have HB_ := Lib.hid (HB.out.grow' hb_)
            clear HB
            have HB := HB_
            clear HB_
            have HT_ := Lib.hid (HT.out.grow hb_)
            clear HT
            have HT := HT_
            clear HT_
            clear hb_
            go_wp2_with fail
            refine (awake11_any _ HT.out).mono ?_
            rintro e w_ ⟨rfl, hb_⟩
            have HB_ := Lib.hid (HB.out.grow' hb_)
            clear HB
            have HB := HB_
            clear HB_
            clear hb_
            go_wp2_with fail
            go_ret
            exact ⟨rfl, HB.out⟩
          | true =>
            have hp : pr = d3 := by rw [← HPR.out]; rfl
            subst hp
            go_wp2_with (first | (with_reducible refine wpl_loadmw (o := ⟨some 67, _, _, _, _, _⟩) (by first | rfl | (go_simp; done) | fail) rfl row_id FMX.out rfl DX.out.len ?_) | (with_reducible refine wpl_loadw (o := ⟨_, .load _ _, _, _, _, _⟩) (by first | rfl | (go_simp; done) | fail) rfl row_cert HX.out.blk rfl HX.out.len ?_) | (with_reducible refine wpl_loadw (o := ⟨_, .load _ _, _, _, _, _⟩) (by first | rfl | (go_simp; done) | fail) rfl row_id HY.out.blk rfl HY.out.len ?_) | (with_reducible refine wpl_loadb (o := ⟨_, .load _ _, _, _, _, _⟩) rfl rfl row_id HY.out.blk rfl HY.out.len ?_) | (with_reducible refine wpl_loadb (o := ⟨_, .load _ _, _, _, _, _⟩) rfl rfl row_cert HX.out.blk rfl HX.out.len ?_))
            refine (P2.out _).mono ?_
            clear ck cs FMX
            rintro e w_ ⟨rfl, hb_⟩
            have HB_ := Lib.hid (HB.out.grow' hb_)
            clear HB
            have HB := HB_
            clear HB_
            have HT_ := Lib.hid (HT.out.grow hb_)
            clear HT
            have HT := HT_
            clear HT_
            clear hb_
            go_wp2_with fail
            refine (awake11_any _ HT.out).mono ?_
            rintro e w_ ⟨rfl, hb_⟩
            have HB_ := Lib.hid (HB.out.grow' hb_)
            clear HB
            have HB := HB_
            clear HB_
            clear hb_
            go_wp2_with fail
            go_ret
            exact ⟨rfl, HB.out⟩
  · have g1 : decide (60 < (n : Int)) = true := by simp; omega
    obtain ⟨xv, hxv⟩ : ∃ v, v = certV (.slice A2 n2 c2) x := ⟨_, rfl⟩
    rw [← hxv] at HD ⊢
    obtain ⟨zv, hzv⟩ : ∃ v, v = id.map B := ⟨_, rfl⟩
    rw [← hzv] at HZ ⊢
    clear hs hi ht hx hid hb2 hxv hzv G2 HN2
    go_enter Tryd.func12, Tryd.ntmps12
    go_wp2_with (first | (with_reducible refine wpl_box (o := ⟨some 8, _, _, _, _, _⟩) rfl rfl rfl ?_))
    intro w2_ hb2_ hb_ hsz2_
    have HX_ := Lib.hid (at_mk hb2_ HD.out.len)
    clear hb2_ hsz2_
    have HB_ := Lib.hid (HB.out.grow' hb_)
    clear HB
    have HB := HB_
    clear HB_
    have HT_ := Lib.hid (HT.out.grow hb_)
    clear HT
    have HT := HT_
    clear HT_
    have HX := HX_
    clear hb_ HX_
    try clear w_
    rename World => w_
    go_wp2_with (first | (with_reducible refine wpl_box (o := ⟨some 11, _, _, _, _, _⟩) rfl rfl rfl ?_))
    intro w2_ hb2_ hb_ hsz2_
    have HX_ := Lib.hid (at_mk hb2_ HZ.out.len)
    clear hb2_ hsz2_
    have HG_ := Lib.hid HB.out.size
    have HB_ := Lib.hid (HB.out.grow' hb_)
    clear HB
    have HB := HB_
    clear HB_
    have HX_ := Lib.hid (HX.out.grow hb_)
    clear HX
    have HX := HX_
    clear HX_
    have HT_ := Lib.hid (HT.out.grow hb_)
    clear HT
    have HT := HT_
    clear HT_
    generalize hg_ : w_.heap.size = g1 at HX_ HG_ ⊢
    clear hg_
    have HY_g := HG_
    clear HG_
    have HY := HX_
    clear hb_ HX_
    try clear w_
    rename World => w_
    go_wp2_with fail
    refine (awake11_any _ HT.out).mono ?_
    rintro e w_ ⟨rfl, hb_⟩
    have HB_ := Lib.hid (HB.out.grow' hb_)
    clear HB
    have HB := HB_
    clear HB_
    clear hb_
    go_wp2_with fail
    go_ret
    exact ⟨rfl, HB.out⟩
theorem certTells_walk (A : Option Addr) (n c : Nat) (seed : List UInt8) (s : Int) (A2 : Option Addr) (n2 c2 : Nat) (x : Cer) (kind shard : Int) (id : List UInt8) (w : World) (hs : Sl w w.heap.size 1 A n (seed.map B)) (hc : n ≤ c) (hm : c ≤ maxLen) (ws : (Lit.int .u8 s).wf = true) (hx : x.ok) (hi : Ids w A2 n2 c2 x.path) (hm2 : c2 ≤ maxLen) (wk : (Lit.int .i64 kind).wf = true) (wsh : (Lit.int .i64 shard).wf = true) (hid : id.length = 32) (ht : Tabs w) :
    Calls Tryd.prog 12 #[.slice A n c, .int .u8 s, .agg (certV (.slice A2 n2 c2) x).toArray, .int .i64 kind, .int .i64 shard, .agg (id.map B).toArray] w fun e w' => e = .returned (.bool true) ∧ Below w.heap.size w w' := by
  have b1 := bounds_u8 ws
  have e1 : s.tmod 64 = s % 64 := Int.tmod_eq_emod_of_nonneg b1.1
  have p1 : (((s % 64).toNat : Nat) : Int) = s % 64 := by omega
  exact certTells_any A n c seed s A2 n2 c2 x kind shard id (s % 64).toNat (1 + (s % 64).toNat) w hs hc (IntWalk.i64_in _ (by omega)) (wrap64_in _ (by omega)) (by rw [e1]; exact p1.symm) (by omega) (by omega) hx hi hid ht
end Go.Proofs.YtphmefhnffoafaaDoor

/- The given card CertTellsCardSaid, out of the walk certTells_walk: for every input the law returns true, and each argument reads as it did; the tables of package sha are tied to the program's text. No condition. -/
namespace Go.Proofs.YtphmefhnffoafaaDoor.lawCertTells
open Go.ChangeShapes Go.WideShapes Go.ChangeAt Go.RowKit
open Go.ChangeMaps (open_string shut_string)
set_option linter.unusedVariables false

theorem laidOut : laidOutB Tryd.prog = true := laid_out
set_option maxRecDepth 100000 in
theorem contract (H : Type) (enc : TypeId × Value → H) (W : World) (base : Nat) (args : Array Value) (ds gs : List (DataW H)) (before : List MemPlace)
    (hval0 : ∀ (j : Nat) t v, Tryd.f12.params[j]? = some t → args[j]? = some v → Value.okWide Tryd.prog W .any base t v)
    (hW : DataW.Whole enc Tryd.prog Tryd.f12.params.toList Rows.certTellsSpec.vars false W args.toList ds gs before) (hL : laidMetH Tryd.prog Rows.certTellsRow.laid W) :
    Calls Tryd.prog 12 args W fun e W' => ∃ v, e = .returned v ∧ Rows.certTellsSpec.post enc Tryd.prog Tryd.f12 false true false false W args v W' := by
  have hval : ∀ (j : Nat) t v, Tryd.f12.params[j]? = some t → args[j]? = some v → Value.okWide Tryd.prog W .any base t v := hval0
  have hW' := hW
  obtain ⟨p, q, hA0, hV, rfl, hfz, hnd⟩ := hW
  have hA : DataW.TrodAll enc Tryd.prog W 0 (fun _ => true) true Tryd.f12.params.toList args.toList ds p := hA0
  rw [Tryd.params12] at hA hval
  obtain ⟨v0, vs0, d0, ds0, p0, q0, hargs, rfl, rfl, h0, r0⟩ := trodAll_cons hA
  obtain ⟨v1, vs1, d1, ds1, p1, q1, rfl, rfl, rfl, h1, r1⟩ := trodAll_cons r0
  obtain ⟨v2, vs2, d2, ds2, p2, q2, rfl, rfl, rfl, h2, r2⟩ := trodAll_cons r1
  obtain ⟨v3, vs3, d3, ds3, p3, q3, rfl, rfl, rfl, h3, r3⟩ := trodAll_cons r2
  obtain ⟨v4, vs4, d4, ds4, p4, q4, rfl, rfl, rfl, h4, r4⟩ := trodAll_cons r3
  obtain ⟨v5, vs5, d5, ds5, p5, q5, rfl, rfl, rfl, h5, r5⟩ := trodAll_cons r4
  obtain ⟨rfl, rfl, rfl⟩ := trodAll_nil r5
  obtain rfl : args = #[v0, v1, v2, v3, v4, v5] := by cases args; simp_all
  obtain ⟨rfl, rfl⟩ := trodVars_none hV
  have k0 := h0
  have lt0 : ∀ x ∈ p0, x.block < W.heap.size := by obtain ⟨m, hm⟩ := k0; exact DataW.trod_lt m _ _ _ hm
  obtain ⟨x0_0, x0_1, x0_2, x0_3, rfl, f0_0, f0_1, f0_2⟩ := open_b (hval 0 26 v0 rfl rfl) h0
  have k1 := h1
  have lt1 : ∀ x ∈ p1, x.block < W.heap.size := by obtain ⟨m, hm⟩ := k1; exact DataW.trod_lt m _ _ _ hm
  obtain ⟨a1, rfl, rfl, rfl, w1⟩ := open_int Tryd.underlying5 (hval 1 5 v1 rfl rfl) h1
  have k2 := h2
  have lt2 : ∀ x ∈ p2, x.block < W.heap.size := by obtain ⟨m, hm⟩ := k2; exact DataW.trod_lt m _ _ _ hm
  obtain ⟨x2_0, x2_1, x2_2, x2_3, rfl, f2_0, f2_1, f2_2⟩ := open_cert (hval 2 74 v2 rfl rfl) h2
  have k3 := h3
  have lt3 : ∀ x ∈ p3, x.block < W.heap.size := by obtain ⟨m, hm⟩ := k3; exact DataW.trod_lt m _ _ _ hm
  obtain ⟨a3, rfl, rfl, rfl, w3⟩ := open_int Tryd.underlying3 (hval 3 3 v3 rfl rfl) h3
  have k4 := h4
  have lt4 : ∀ x ∈ p4, x.block < W.heap.size := by obtain ⟨m, hm⟩ := k4; exact DataW.trod_lt m _ _ _ hm
  obtain ⟨a4, rfl, rfl, rfl, w4⟩ := open_int Tryd.underlying3 (hval 4 3 v4 rfl rfl) h4
  have k5 := h5
  have lt5 : ∀ x ∈ p5, x.block < W.heap.size := by obtain ⟨m, hm⟩ := k5; exact DataW.trod_lt m _ _ _ hm
  obtain ⟨x5_0, rfl, f5_0⟩ := open_dig (hval 5 23 v5 rfl rfl) h5
  have htabs : Tabs W := tabs_of hL
  clear hA0 hval0 hL
  refine (certTells_walk x0_0 x0_1 x0_2 x0_3 a1 x2_0 x2_1 x2_2 x2_3 a3 a4 x5_0 W f0_0 f0_1 f0_2 w1 f2_0 f2_1 f2_2 w3 w4 f5_0 htabs).mono fun e W' ⟨he, bel⟩ => ?_
  subst he
  exact ⟨_, rfl, _, _, _, [], _, [], hW', trodAll_mk1 (shut_bool Tryd.underlying4 _), (trodAll_cons_mk (Below.trod laidOut (by kernel_rfl) (of_decide_eq_true (by kernel_rfl)) k0 bel lt0) (trodAll_cons_mk (Below.trod laidOut (by kernel_rfl) (of_decide_eq_true (by kernel_rfl)) k1 bel lt1) (trodAll_cons_mk (Below.trod laidOut (by kernel_rfl) (of_decide_eq_true (by kernel_rfl)) k2 bel lt2) (trodAll_cons_mk (Below.trod laidOut (by kernel_rfl) (of_decide_eq_true (by kernel_rfl)) k3 bel lt3) (trodAll_cons_mk (Below.trod laidOut (by kernel_rfl) (of_decide_eq_true (by kernel_rfl)) k4 bel lt4) (trodAll_cons_mk (Below.trod laidOut (by kernel_rfl) (of_decide_eq_true (by kernel_rfl)) k5 bel lt5) trodAll_mk0)))))), rfl, bel.frame _, fun h => by cases h⟩

theorem laid_met (os : Os) : laidMet Tryd.prog Rows.certTellsRow.laid ((laidWorld os).forCall (fun _ _ => 0) ⟨#[], #[.slice none 0 0, .int .u8 0, .agg (certV (.slice none 0 0) noCer).toArray, .int .i64 0, .int .i64 0, .agg (zeroD.map B).toArray], []⟩).memory :=
  laidMet_of_run' 8 (by kernel_rfl) (by kernel_rfl)
theorem reads (os : Os) {H : Type} (enc : TypeId × Value → H) : ∃ ds places, DataW.whole enc Tryd.prog ((laidWorld os).forCall (fun _ _ => 0) ⟨#[], #[.slice none 0 0, .int .u8 0, .agg (certV (.slice none 0 0) noCer).toArray, .int .i64 0, .int .i64 0, .agg (zeroD.map B).toArray], []⟩).memory Tryd.f12.params.toList Rows.certTellsSpec.vars false #[.slice none 0 0, .int .u8 0, .agg (certV (.slice none 0 0) noCer).toArray, .int .i64 0, .int .i64 0, .agg (zeroD.map B).toArray].toList 8 = some (ds, [], places) := by
  obtain ⟨⟨ds, gs, pl⟩, h, e⟩ := Option.map_eq_some_iff.1 (show (DataW.whole enc Tryd.prog ((laidWorld os).forCall (fun _ _ => 0) ⟨#[], #[.slice none 0 0, .int .u8 0, .agg (certV (.slice none 0 0) noCer).toArray, .int .i64 0, .int .i64 0, .agg (zeroD.map B).toArray], []⟩).memory Tryd.f12.params.toList Rows.certTellsSpec.vars false #[.slice none 0 0, .int .u8 0, .agg (certV (.slice none 0 0) noCer).toArray, .int .i64 0, .int .i64 0, .agg (zeroD.map B).toArray].toList 8).map (fun x => x.2.1) = some [] by kernel_rfl)
  simp only at e
  subst e
  exact ⟨ds, pl, h⟩

set_option maxRecDepth 100000 in
theorem lifted (os : Os) (started : os.Started) (H : Type) (enc : TypeId × Value → H) (F : Stop.Interp) :
    ReturnsInHanded {} Tryd.checked os 12 .any ((OpenSpec.ofChange Rows.certTellsSpec).preRow enc Tryd.prog Tryd.f12 Rows.certTellsRow.domain false Rows.certTellsRow.laid) (((OpenSpec.ofChange Rows.certTellsSpec).at F).post enc Tryd.prog Tryd.f12 false true false false) := by
  obtain ⟨ds, places, hx⟩ := reads os enc
  refine returnsInHanded_of_row (C := Tryd.checked) (s := OpenSpec.ofChange Rows.certTellsSpec) own_knob started (by kernel_rfl) Tryd.func12
    (witness_row_at (enc := enc) (C := Tryd.checked) false (laidWorld os) #[.slice none 0 0, .int .u8 0, .agg (certV (.slice none 0 0) noCer).toArray, .int .i64 0, .int .i64 0, .agg (zeroD.map B).toArray] rfl (by kernel_rfl) (by kernel_rfl) (by kernel_rfl)
      (OpenSpec.preRow_of_cond 8 hx (by kernel_rfl) (fun k hk => by cases hk) (by kernel_rfl) (laid_met os))) ?_
  intro W base args ds gs before hval hW _ _ _ hL _ _
  exact contract H enc W base args ds gs before hval hW hL

theorem said : Rows.CertTellsSaid :=
  OpenClaim.holds_of_cond 12 Tryd.f12 rfl rfl rfl rfl rfl rfl rfl ⟨rfl, rfl, rfl, rfl, rfl⟩ rfl rfl rfl rfl rfl (by kernel_rfl) Tryd.func12 (by kernel_rfl)
    (of_decide_eq_true (by kernel_rfl)) (by unfold Func.isWrapper; first | (rw [if_pos (by decide +kernel)]; kernel_rfl) | (rw [if_neg (by decide +kernel)]; exact ⟨rfl, rfl⟩))
    (fun os started H enc _ F => by rw [OpenClaim.pre_eq_preRow]; exact lifted os started H enc F)

theorem plain (f : FuncId) (fn : Func) (hf : Tryd.pinned.checked.prog.funcNamed "seisin/seisinlaw11.CertTells" = some f) (hfn : Tryd.pinned.checked.prog.funcs[f]? = some fn) :
    true = Tryd.pinned.checked.prog.looks [] ∧ ∀ (j : Nat) t, fn.params[j]? = some t → Tryd.pinned.checked.prog.wantsStandIn t = false := by
  obtain rfl : f = 12 := Option.some.inj ((show Tryd.prog.funcNamed "seisin/seisinlaw11.CertTells" = some 12 by kernel_rfl).symm.trans hf) |>.symm
  obtain rfl : fn = Tryd.f12 := (Option.some.inj (Tryd.func12.symm.trans hfn)).symm
  refine ⟨by kernel_rfl, fun j t ht => ?_⟩
  rw [Tryd.params12] at ht
  have hm : t ∈ [26, 5, 74, 3, 3, 23] := by simpa using Array.mem_of_getElem? ht
  have hall : ([26, 5, 74, 3, 3, 23].all fun u => !Tryd.prog.wantsStandIn u) = true := by kernel_rfl
  exact (show Tryd.prog.wantsStandIn t = false by simpa using List.all_eq_true.1 hall t hm)

theorem proved : Rows.CertTellsCardSaid :=
  Claim7.holds_tied_plain_at .later [] _ _ _ _ said (fun _ h => by cases h) (by kernel_rfl) (fun _ h => by cases h) certTells_row_tie rfl ⟨rfl, rfl⟩ (by kernel_rfl) rfl plain (by kernel_rfl)
#print axioms proved
end Go.Proofs.YtphmefhnffoafaaDoor.lawCertTells

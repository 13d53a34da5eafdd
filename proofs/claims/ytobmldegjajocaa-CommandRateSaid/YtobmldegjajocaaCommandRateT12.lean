/- Contracts: the same digests, the same certificates. Printed by mkcertb.py. -/
import Derived.Test.YtobmldegjajocaaCommandRateT9
import Derived.Test.YtobmldegjajocaaCommandRateT8
import Derived.Test.YtobmldegjajocaaCommandRateT10
import Derived.Test.YtobmldegjajocaaCommandRateT11
set_option linter.unusedSimpArgs false
/- Contracts: the same digests, the same certificates. Printed by mkcertb.py. -/
namespace Go.Proofs.Ytobmldegjajocaa
open Go.RowKit Go.Shelf
set_option linter.unusedVariables false
theorem cert_cl {v : Value} (hv : v.oneCell' = true) {x : Cer} (h : x.ok) : Cl 137 (certV v x) := ⟨certV_len h, cert_one v hv x⟩
theorem entV_inj {a b : Ent} (ha : a.ok) (hb : b.ok) (h : entV a = entV b) : a = b := by
  obtain ⟨k, s, t, m, y, p⟩ := a; obtain ⟨k2, s2, t2, m2, y2, p2⟩ := b
  simp only [entV, List.cons.injEq, Value.int.injEq, true_and] at h
  obtain ⟨h1, h2, h3⟩ := h
  have := List.append_inj h3 (by rw [List.length_map, List.length_map, show t.length = 32 from ha.2.2.1, show t2.length = 32 from hb.2.2.1])
  obtain ⟨h4, h5⟩ := this
  have h6 : t = t2 := map_B_injH h4
  simp only [List.cons.injEq, Value.int.injEq, true_and, and_true] at h5
  obtain ⟨h7, h8, h9⟩ := h5
  subst h1 h2 h6 h7 h8 h9; rfl
theorem ent_eq {a b : Ent} (ha : a.ok) (hb : b.ok) : ∃ r : Bool, (r = true ↔ a = b) ∧ ∀ w, (Op.equalIn 10000 54 (.agg (entV a).toArray) (.agg (entV b).toArray)).run Try.prog w = .ok r w := by
  obtain ⟨n4, hn4⟩ := types_3
  obtain ⟨r, hr, hq⟩ := eql_deep key_entry (m := 3) (by omega) (by kernel_rfl) (by kernel_rfl) (by kernel_rfl) (entV a) (entV b) (by rw [entV_length ha, cells_entry]) (by rw [entV_length hb, cells_entry]) (by rw [hn4]; exact lits_ent (n4 + 1) _ ha) (by rw [hn4]; exact lits_ent (n4 + 1) _ hb)
  exact ⟨r, hr.trans ⟨fun h => entV_inj ha hb h, fun h => by rw [h]⟩, hq⟩
theorem hdr_eq {a b : Hdr} (ha : a.ok) (hb : b.ok) : ∃ r : Bool, (r = true ↔ a = b) ∧ ∀ w, (Op.equalIn 10000 57 (.agg (hdrV a).toArray) (.agg (hdrV b).toArray)).run Try.prog w = .ok r w := by
  obtain ⟨n4, hn4⟩ := types_3
  obtain ⟨r, hr, hq⟩ := eql_deep key_header (m := 3) (by omega) (by kernel_rfl) (by kernel_rfl) (by kernel_rfl) (hdrV a) (hdrV b) (by rw [hdrV_length ha, cells_header]) (by rw [hdrV_length hb, cells_header]) (by rw [hn4]; exact lits_hdr (n4 + 1) _ ha) (by rw [hn4]; exact lits_hdr (n4 + 1) _ hb)
  exact ⟨r, hr.trans ⟨fun h => hdrV_inj ha hb h, fun h => by rw [h]⟩, hq⟩
theorem cer_eq {x y : Cer} {re rp rh rt : Bool} (h1 : re = true ↔ x.e = y.e) (h2 : decide (x.path = y.path) = rp) (h3 : rh = true ↔ x.h = y.h) (h4 : (x.tag == y.tag) = rt) : decide (x = y) = (re && rp && rh && rt) := by
  rw [Bool.eq_iff_iff, decide_eq_true_iff]
  simp only [Bool.and_eq_true, h1, h3, ← h2, ← h4, decide_eq_true_iff, beq_iff_eq]
  cases x; cases y; simp [and_assoc]
set_option maxRecDepth 100000 in
set_option maxHeartbeats 1000000 in
theorem eqids_any {res : Bool} {A A2 : Option Addr} {n c n2 c2 : Nat} {ds es : List (List UInt8)} (hres : decide (ds = es) = res) (w : World) (hn : n ≤ 1000000) (h1 : Ids w A n c ds) (h2 : Ids w A2 n2 c2 es) :
    Calls Try.prog 90 #[.slice A n c, .slice A2 n2 c2] w fun e w' => e = .returned (.bool res) ∧ Below w.heap.size w w' := by
  have H1 := Lib.hid h1; have H2 := Lib.hid h2
  have HL1 := Lib.hid h1.2.1; have HL2 := Lib.hid h2.2.1
  have HRES := Lib.hid hres
  clear h1 h2 hres
  by_cases hl : n = n2
  · subst hl
    go_enter Try.func90, Try.ntmps90
    go_wp2_with fail
    go_loopw [13] (fun i wr => ∃ k : Nat, k ≤ n ∧ i = .int .i64 k ∧ Hid (ds.take k = es.take k) ∧ Hid (Below w.heap.size w wr)) (fun i _ => n - (intOf i).toNat)
    case atStart => exact ⟨0, by omega, rfl, Lib.hid rfl, Lib.hid (Below.refl _ _)⟩
    case round =>
      obtain ⟨k, hk, rfl, hup, hbw⟩ := hrel
      by_cases hlt : k < n
      · have HB := hbw
        have H1A := Lib.hid (H1.out.up HB.out)
        have H2A := Lib.hid (H2.out.up HB.out)
        try go_wp2_with fail
        repeat' (first | (with_reducible refine wp_plan (id := 6) Grow [0,0,0,2,0,0,0,2,0] (.get 0 (.get 1 (.get 2 (.get 3 (.get 4 (.get 5 (.get 6 (.get 7 (.get 8 .done))))))))) (by kernel_rfl) (by kernel_rfl) Grow.refl Grow.trans ?_) | go_values | go_skip | go_guarded | go_step | go_upon | go_back)
        intro w_ hd_
        have hb_ := hd_.grow
        have HB_ := Lib.hid (HB.out.grow' hb_)
        clear HB
        have HB := HB_
        clear HB_
        have H1A_ := Lib.hid (H1A.out.grow hb_)
        clear H1A
        have H1A := H1A_
        clear H1A_
        have H2A_ := Lib.hid (H2A.out.grow hb_)
        clear H2A
        have H2A := H2A_
        clear H2A_
        clear hb_ hd_
        obtain ⟨b1, o1, d, rfl, hd, hd32, hb1, hc1⟩ := H1A.out.key hlt
        obtain ⟨b2, o2, d2, rfl, hd2, he32, hb2, hc2⟩ := H2A.out.key hlt
        obtain ⟨vs, hvs⟩ : ∃ vs, vs = d.map B := ⟨_, rfl⟩
        obtain ⟨us, hus⟩ : ∃ us, us = d2.map B := ⟨_, rfl⟩
        obtain ⟨q, hq⟩ : ∃ q, (d == d2) = q := ⟨_, rfl⟩
        have HV := Lib.hid (show Dig vs d from ⟨hvs, hd32⟩)
        have HU := Lib.hid (show Dig us d2 from ⟨hus, he32⟩)
        rw [← hvs] at hc1
        rw [← hus] at hc2
        have HC1 := Lib.hid hc1; have HC2 := Lib.hid hc2
        have HB1 := Lib.hid hb1; have HB2 := Lib.hid hb2
        have HD1 := Lib.hid hd; have HD2 := Lib.hid hd2
        have hne := HV.out.neq_b HU.out hq
        have HQ := Lib.hid hq
        clear hvs hus hc1 hc2 hb1 hb2 hd hd2 hd32 he32 hq
        repeat (first | (refine pl_calm rfl rfl (by first | exact wanted_none rfl | (go_simp; done) | rfl) (fun w_ => by first | (go_simp; rfl) | (go_simp; done) | rfl) (fun K hK => ?_); go_simp; refine hK _ _ ?_; clear hK K) | (refine pl_skip rfl (by first | (go_simp; done) | rfl) (fun K hK => ?_); go_simp; refine hK _ _ ?_; clear hK K) | (refine pl_skipa rfl (by first | (go_simp; done) | rfl) (fun K hK => ?_); go_simp; refine hK _ _ ?_; clear hK K))
        refine pl_loadm rfl (by decide) (by exact wanted_none rfl) rfl row_id HC1.out HB1.out (by first | rfl | (go_simp; done) | rfl) HV.out.len (fun K hK => ?_)
        go_simp
        refine hK _ _ ?_
        clear hK K
        repeat (first | (refine pl_calm rfl rfl (by first | exact wanted_none rfl | (go_simp; done) | rfl) (fun w_ => by first | (go_simp; rfl) | (go_simp; done) | rfl) (fun K hK => ?_); go_simp; refine hK _ _ ?_; clear hK K) | (refine pl_skip rfl (by first | (go_simp; done) | rfl) (fun K hK => ?_); go_simp; refine hK _ _ ?_; clear hK K) | (refine pl_skipa rfl (by first | (go_simp; done) | rfl) (fun K hK => ?_); go_simp; refine hK _ _ ?_; clear hK K))
        refine pl_loadm rfl (by decide) (by exact wanted_none rfl) rfl row_id HC2.out HB2.out (by first | rfl | (go_simp; done) | rfl) HU.out.len (fun K hK => ?_)
        go_simp
        refine hK _ _ ?_
        clear hK K
        repeat (first | (refine pl_calm rfl rfl (by first | exact wanted_none rfl | (go_simp; done) | rfl) (fun w_ => by first | (go_simp; rfl) | (go_simp; done) | rfl) (fun K hK => ?_); go_simp; refine hK _ _ ?_; clear hK K) | (refine pl_skip rfl (by first | (go_simp; done) | rfl) (fun K hK => ?_); go_simp; refine hK _ _ ?_; clear hK K) | (refine pl_skipa rfl (by first | (go_simp; done) | rfl) (fun K hK => ?_); go_simp; refine hK _ _ ?_; clear hK K))
        refine pl_done ?_
        cases q with
        | true =>
          have HE := Lib.hid (show d = d2 from by simpa using HQ.out)
          go_wp2_with fail
          go_roundw
          case rel => exact ⟨k + 1, by omega, by go_num, Lib.hid (by rw [List.take_add_one, List.take_add_one, HD1.out, HD2.out, hup.out, HE.out]), HB⟩
          case measure => simp [intOf]; omega
        | false =>
          have HF := Lib.hid (show res = false by
            rw [← HRES.out, decide_eq_false_iff_not]
            intro h
            have h1 := HD1.out; have h2 := HD2.out
            rw [h, h2] at h1
            have h3 := Option.some.inj h1
            have h4 := HQ.out
            rw [h3] at h4; simp at h4)
          go_wp2_with fail
          go_ret
          exact ⟨by rw [HF.out]; rfl, HB.out⟩
      · have HF := Lib.hid (show res = true by
            rw [← HRES.out, decide_eq_true_iff]
            have h := hup.out
            rw [List.take_of_length_le (by rw [HL1.out]; omega), List.take_of_length_le (by rw [HL2.out]; omega)] at h
            exact h)
        go_wp2_with fail
        go_ret
        exact ⟨by rw [HF.out]; rfl, hbw.out⟩
  · have g1 : ((n : Int) == (n2 : Int)) = false := by simp; omega
    have g2 : ((n : Int) != (n2 : Int)) = true := by simp; omega
    have g3 : (n == n2) = false := by simp; omega
    have g4 : (n != n2) = true := by simp; omega
    have g5 : decide (n = n2) = false := by simp; omega
    have HF := Lib.hid (show res = false by rw [← HRES.out, decide_eq_false_iff_not]; intro h; have h1 := HL1.out; have h2 := HL2.out; rw [h, h2] at h1; exact hl h1.symm)
    clear hl
    go_enter Try.func90, Try.ntmps90
    go_wp2_with fail
    go_ret
    exact ⟨by rw [HF.out]; rfl, Below.refl _ _⟩
set_option maxRecDepth 100000 in
set_option maxHeartbeats 2000000 in
theorem csame_any {res : Bool} {A A2 : Option Addr} {n c n2 c2 : Nat} {x y : Cer} (hres : decide (x = y) = res) (w : World) (hx : x.ok) (hy : y.ok) (hn : n ≤ 1000000) (h1 : Ids w A n c x.path) (h2 : Ids w A2 n2 c2 y.path) :
    Calls Try.prog 48 #[.agg (certV (.slice A n c) x).toArray, .agg (certV (.slice A2 n2 c2) y).toArray] w fun e w' => e = .returned (.bool res) ∧ Below w.heap.size w w' := by
  have H1 := Lib.hid h1; have H2 := Lib.hid h2
  have HXO := Lib.hid hx; have HYO := Lib.hid hy
  obtain ⟨re, he1, he2⟩ := ent_eq hx.1 hy.1
  obtain ⟨rh, hh1, hh2⟩ := hdr_eq hx.2.2.1 hy.2.2.1
  obtain ⟨rp, hp⟩ : ∃ q, decide (x.path = y.path) = q := ⟨_, rfl⟩
  obtain ⟨rt, hq⟩ : ∃ q, (x.tag == y.tag) = q := ⟨_, rfl⟩
  have ht := (dig_map hx.2.2.2).eql_b (dig_map hy.2.2.2) hq
  have HRES := Lib.hid (show res = (re && rp && rh && rt) by rw [← hres]; exact cer_eq he1 hp hh1 hq)
  have HE2 := Lib.hid (fun (_ : Unit) => he2); have HH2 := Lib.hid (fun (_ : Unit) => hh2); have HT2 := Lib.hid (fun (_ : Unit) => ht)
  have HP := Lib.hid (fun w h1 h2 => eqids_any (A := A) (n := n) (c := c) (A2 := A2) (n2 := n2) (c2 := c2) hp w hn h1 h2)
  clear he1 hh1 hp hq hres h1 h2 hn ht he2 hh2
  have HD := Lib.hid (cert_cl (v := .slice A n c) rfl hx); have HD2 := Lib.hid (cert_cl (v := .slice A2 n2 c2) rfl hy)
  have LE := Lib.hid (entV_length hx.1); have LE2 := Lib.hid (entV_length hy.1)
  have LH := Lib.hid (hdrV_length hx.2.2.1); have LH2 := Lib.hid (hdrV_length hy.2.2.1)
  have LT := Lib.hid (show (x.tag.map B).length = 32 by rw [List.length_map]; exact hx.2.2.2); have LT2 := Lib.hid (show (y.tag.map B).length = 32 by rw [List.length_map]; exact hy.2.2.2)
  have HV := Lib.hid (cert_v (v := .slice A n c) hx); have HV2 := Lib.hid (cert_v (v := .slice A2 n2 c2) hy)
  have ME := Lib.hid (fun w g t hb => midCE (c := x) (v := .slice A n c) (w := w) (g := g) (t := t) hb); have ME2 := Lib.hid (fun w g t hb => midCE (c := y) (v := .slice A2 n2 c2) (w := w) (g := g) (t := t) hb)
  have MH := Lib.hid (fun w g t hb => midCH (c := x) (v := .slice A n c) (w := w) (g := g) (t := t) hx hb); have MH2 := Lib.hid (fun w g t hb => midCH (c := y) (v := .slice A2 n2 c2) (w := w) (g := g) (t := t) hy hb)
  have MT := Lib.hid (fun w g t hb => midCT (c := x) (v := .slice A n c) (w := w) (g := g) (t := t) hx hb); have MT2 := Lib.hid (fun w g t hb => midCT (c := y) (v := .slice A2 n2 c2) (w := w) (g := g) (t := t) hy hb)
  clear hx hy
  obtain ⟨xv, hxv⟩ : ∃ v, v = certV (.slice A n c) x := ⟨_, rfl⟩
  obtain ⟨yv, hyv⟩ : ∃ v, v = certV (.slice A2 n2 c2) y := ⟨_, rfl⟩
  rw [← hxv] at HD HV ME MH MT ⊢
  rw [← hyv] at HD2 HV2 ME2 MH2 MT2 ⊢
  obtain ⟨ev, hev⟩ : ∃ v, v = entV x.e := ⟨_, rfl⟩
  obtain ⟨eu, heu⟩ : ∃ v, v = entV y.e := ⟨_, rfl⟩
  obtain ⟨hv, hhv⟩ : ∃ v, v = hdrV x.h := ⟨_, rfl⟩
  obtain ⟨hu, hhu⟩ : ∃ v, v = hdrV y.h := ⟨_, rfl⟩
  obtain ⟨tv, htv⟩ : ∃ v, v = x.tag.map B := ⟨_, rfl⟩
  obtain ⟨tu, htu⟩ : ∃ v, v = y.tag.map B := ⟨_, rfl⟩
  rw [← hev] at LE ME
  rw [← heu] at LE2 ME2
  rw [← hhv] at LH MH
  rw [← hhu] at LH2 MH2
  rw [← htv] at LT MT
  rw [← htu] at LT2 MT2
  rw [← hev, ← heu] at HE2
  rw [← hhv, ← hhu] at HH2
  rw [← htv, ← htu] at HT2
  have qe := HE2.out (); have qh := HH2.out (); have qt := HT2.out ()
  clear hxv hyv hev heu hhv hhu htv htu HE2 HH2 HT2 HXO HYO
  have HB := Lib.hid (Below.refl w.heap.size w)
  obtain ⟨g0, hg0⟩ : ∃ g, g = w.heap.size := ⟨_, rfl⟩
  go_enter Try.func48, Try.ntmps48
  go_wp2_with (first | (with_reducible refine wpl_box (o := ⟨some 2, _, _, _, _, _⟩) rfl rfl rfl ?_))
  intro w2_ hb2_ hb_ hsz2_
  have HX_ := Lib.hid (at_mk hb2_ HD.out.len)
  clear hb2_ hsz2_
  have HB_ := Lib.hid (HB.out.grow' hb_)
  clear HB
  have HB := HB_
  clear HB_
  have H1_ := Lib.hid (H1.out.grow hb_)
  clear H1
  have H1 := H1_
  clear H1_
  have H2_ := Lib.hid (H2.out.grow hb_)
  clear H2
  have H2 := H2_
  clear H2_
  have HX := HX_
  clear hb_ HX_
  try clear w_
  rename World => w_
  go_wp2_with (first | (with_reducible refine wpl_box (o := ⟨some 3, _, _, _, _, _⟩) rfl rfl rfl ?_))
  intro w2_ hb2_ hb_ hsz2_
  have HX_ := Lib.hid (at_mk hb2_ HD2.out.len)
  clear hb2_ hsz2_
  have HG_ := Lib.hid HB.out.size
  have HB_ := Lib.hid (HB.out.grow' hb_)
  clear HB
  have HB := HB_
  clear HB_
  have H1_ := Lib.hid (H1.out.grow hb_)
  clear H1
  have H1 := H1_
  clear H1_
  have H2_ := Lib.hid (H2.out.grow hb_)
  clear H2
  have H2 := H2_
  clear H2_
  have HX_ := Lib.hid (HX.out.grow hb_)
  clear HX
  have HX := HX_
  clear HX_
  generalize hg_ : w_.heap.size = g1 at HX_ HG_ ⊢
  clear hg_
  have HY_g := HG_
  clear HG_
  have HY := HX_
  clear hb_ HX_
  try clear w_
  rename World => w_
  cases re with
  | false =>
    have HRES_ := Lib.hid (show res = false by rw [HRES.out]; simp)
    have FME := Lib.hid (ME.out _ _ _ HX.out.blk)
    have FMH := Lib.hid (MH.out _ _ _ HX.out.blk)
    have FMT := Lib.hid (MT.out _ _ _ HX.out.blk)
    have FME2 := Lib.hid (ME2.out _ _ _ HY.out.blk)
    have FMH2 := Lib.hid (MH2.out _ _ _ HY.out.blk)
    have FMT2 := Lib.hid (MT2.out _ _ _ HY.out.blk)
    have c1 := HX.out.blk.at_ HV.out; have c2 := HY.out.blk.at_ HV2.out
    go_wp2_with (first | (with_reducible refine wpl_loadm (o := ⟨some 6, _, _, _, _, _⟩) rfl rfl row_entry FME.out rfl LE.out ?_) | (with_reducible refine wpl_loadmw (o := ⟨some 6, _, _, _, _, _⟩) (by first | rfl | (go_simp; done) | fail) rfl row_entry FME.out rfl LE.out ?_) | (with_reducible refine wpl_loadm (o := ⟨some 8, _, _, _, _, _⟩) rfl rfl row_entry FME2.out rfl LE2.out ?_) | (with_reducible refine wpl_loadmw (o := ⟨some 8, _, _, _, _, _⟩) (by first | rfl | (go_simp; done) | fail) rfl row_entry FME2.out rfl LE2.out ?_) | (with_reducible refine wpl_loadm (o := ⟨some 19, _, _, _, _, _⟩) rfl rfl row_header FMH.out rfl LH.out ?_) | (with_reducible refine wpl_loadmw (o := ⟨some 19, _, _, _, _, _⟩) (by first | rfl | (go_simp; done) | fail) rfl row_header FMH.out rfl LH.out ?_) | (with_reducible refine wpl_loadm (o := ⟨some 21, _, _, _, _, _⟩) rfl rfl row_header FMH2.out rfl LH2.out ?_) | (with_reducible refine wpl_loadmw (o := ⟨some 21, _, _, _, _, _⟩) (by first | rfl | (go_simp; done) | fail) rfl row_header FMH2.out rfl LH2.out ?_) | (with_reducible refine wpl_loadm (o := ⟨some 26, _, _, _, _, _⟩) rfl rfl row_aid FMT.out rfl LT.out ?_) | (with_reducible refine wpl_loadmw (o := ⟨some 26, _, _, _, _, _⟩) (by first | rfl | (go_simp; done) | fail) rfl row_aid FMT.out rfl LT.out ?_) | (with_reducible refine wpl_loadm (o := ⟨some 28, _, _, _, _, _⟩) rfl rfl row_aid FMT2.out rfl LT2.out ?_) | (with_reducible refine wpl_loadmw (o := ⟨some 28, _, _, _, _, _⟩) (by first | rfl | (go_simp; done) | fail) rfl row_aid FMT2.out rfl LT2.out ?_))
    go_ret
    exact ⟨by rw [HRES_.out]; rfl, HB.out⟩
  | true =>
    cases rp with
    | false =>
      have HRES_ := Lib.hid (show res = false by rw [HRES.out]; simp)
      have FME := Lib.hid (ME.out _ _ _ HX.out.blk)
      have FMH := Lib.hid (MH.out _ _ _ HX.out.blk)
      have FMT := Lib.hid (MT.out _ _ _ HX.out.blk)
      have FME2 := Lib.hid (ME2.out _ _ _ HY.out.blk)
      have FMH2 := Lib.hid (MH2.out _ _ _ HY.out.blk)
      have FMT2 := Lib.hid (MT2.out _ _ _ HY.out.blk)
      have c1 := HX.out.blk.at_ HV.out; have c2 := HY.out.blk.at_ HV2.out
      go_wp2_with (first | (with_reducible refine wpl_loadm (o := ⟨some 6, _, _, _, _, _⟩) rfl rfl row_entry FME.out rfl LE.out ?_) | (with_reducible refine wpl_loadmw (o := ⟨some 6, _, _, _, _, _⟩) (by first | rfl | (go_simp; done) | fail) rfl row_entry FME.out rfl LE.out ?_) | (with_reducible refine wpl_loadm (o := ⟨some 8, _, _, _, _, _⟩) rfl rfl row_entry FME2.out rfl LE2.out ?_) | (with_reducible refine wpl_loadmw (o := ⟨some 8, _, _, _, _, _⟩) (by first | rfl | (go_simp; done) | fail) rfl row_entry FME2.out rfl LE2.out ?_) | (with_reducible refine wpl_loadm (o := ⟨some 19, _, _, _, _, _⟩) rfl rfl row_header FMH.out rfl LH.out ?_) | (with_reducible refine wpl_loadmw (o := ⟨some 19, _, _, _, _, _⟩) (by first | rfl | (go_simp; done) | fail) rfl row_header FMH.out rfl LH.out ?_) | (with_reducible refine wpl_loadm (o := ⟨some 21, _, _, _, _, _⟩) rfl rfl row_header FMH2.out rfl LH2.out ?_) | (with_reducible refine wpl_loadmw (o := ⟨some 21, _, _, _, _, _⟩) (by first | rfl | (go_simp; done) | fail) rfl row_header FMH2.out rfl LH2.out ?_) | (with_reducible refine wpl_loadm (o := ⟨some 26, _, _, _, _, _⟩) rfl rfl row_aid FMT.out rfl LT.out ?_) | (with_reducible refine wpl_loadmw (o := ⟨some 26, _, _, _, _, _⟩) (by first | rfl | (go_simp; done) | fail) rfl row_aid FMT.out rfl LT.out ?_) | (with_reducible refine wpl_loadm (o := ⟨some 28, _, _, _, _, _⟩) rfl rfl row_aid FMT2.out rfl LT2.out ?_) | (with_reducible refine wpl_loadmw (o := ⟨some 28, _, _, _, _, _⟩) (by first | rfl | (go_simp; done) | fail) rfl row_aid FMT2.out rfl LT2.out ?_))
      refine (HP.out _ H1.out H2.out).mono ?_
      clear c1 c2 FME FMH FMT FME2 FMH2 FMT2
      rintro e w2_ ⟨rfl, hb_⟩
      have hb_ := hb_
      clear hb_
      have HB_ := Lib.hid (HB.out.grow' hb_)
      clear HB
      have HB := HB_
      clear HB_
      have HX_ := Lib.hid (HX.out.grow hb_)
      clear HX
      have HX := HX_
      clear HX_
      have HY_ := Lib.hid (HY.out.grow hb_)
      clear HY
      have HY := HY_
      clear HY_
      clear hb_
      try clear w_
      rename World => w_
      have FME := Lib.hid (ME.out _ _ _ HX.out.blk)
      have FMH := Lib.hid (MH.out _ _ _ HX.out.blk)
      have FMT := Lib.hid (MT.out _ _ _ HX.out.blk)
      have FME2 := Lib.hid (ME2.out _ _ _ HY.out.blk)
      have FMH2 := Lib.hid (MH2.out _ _ _ HY.out.blk)
      have FMT2 := Lib.hid (MT2.out _ _ _ HY.out.blk)
      have c1 := HX.out.blk.at_ HV.out; have c2 := HY.out.blk.at_ HV2.out
      go_wp2_with (first | (with_reducible refine wpl_loadm (o := ⟨some 6, _, _, _, _, _⟩) rfl rfl row_entry FME.out rfl LE.out ?_) | (with_reducible refine wpl_loadmw (o := ⟨some 6, _, _, _, _, _⟩) (by first | rfl | (go_simp; done) | fail) rfl row_entry FME.out rfl LE.out ?_) | (with_reducible refine wpl_loadm (o := ⟨some 8, _, _, _, _, _⟩) rfl rfl row_entry FME2.out rfl LE2.out ?_) | (with_reducible refine wpl_loadmw (o := ⟨some 8, _, _, _, _, _⟩) (by first | rfl | (go_simp; done) | fail) rfl row_entry FME2.out rfl LE2.out ?_) | (with_reducible refine wpl_loadm (o := ⟨some 19, _, _, _, _, _⟩) rfl rfl row_header FMH.out rfl LH.out ?_) | (with_reducible refine wpl_loadmw (o := ⟨some 19, _, _, _, _, _⟩) (by first | rfl | (go_simp; done) | fail) rfl row_header FMH.out rfl LH.out ?_) | (with_reducible refine wpl_loadm (o := ⟨some 21, _, _, _, _, _⟩) rfl rfl row_header FMH2.out rfl LH2.out ?_) | (with_reducible refine wpl_loadmw (o := ⟨some 21, _, _, _, _, _⟩) (by first | rfl | (go_simp; done) | fail) rfl row_header FMH2.out rfl LH2.out ?_) | (with_reducible refine wpl_loadm (o := ⟨some 26, _, _, _, _, _⟩) rfl rfl row_aid FMT.out rfl LT.out ?_) | (with_reducible refine wpl_loadmw (o := ⟨some 26, _, _, _, _, _⟩) (by first | rfl | (go_simp; done) | fail) rfl row_aid FMT.out rfl LT.out ?_) | (with_reducible refine wpl_loadm (o := ⟨some 28, _, _, _, _, _⟩) rfl rfl row_aid FMT2.out rfl LT2.out ?_) | (with_reducible refine wpl_loadmw (o := ⟨some 28, _, _, _, _, _⟩) (by first | rfl | (go_simp; done) | fail) rfl row_aid FMT2.out rfl LT2.out ?_))
      go_ret
      exact ⟨by rw [HRES_.out]; rfl, HB.out⟩
    | true =>
      cases rh with
      | false =>
        have HRES_ := Lib.hid (show res = false by rw [HRES.out]; simp)
        have FME := Lib.hid (ME.out _ _ _ HX.out.blk)
        have FMH := Lib.hid (MH.out _ _ _ HX.out.blk)
        have FMT := Lib.hid (MT.out _ _ _ HX.out.blk)
        have FME2 := Lib.hid (ME2.out _ _ _ HY.out.blk)
        have FMH2 := Lib.hid (MH2.out _ _ _ HY.out.blk)
        have FMT2 := Lib.hid (MT2.out _ _ _ HY.out.blk)
        have c1 := HX.out.blk.at_ HV.out; have c2 := HY.out.blk.at_ HV2.out
        go_wp2_with (first | (with_reducible refine wpl_loadm (o := ⟨some 6, _, _, _, _, _⟩) rfl rfl row_entry FME.out rfl LE.out ?_) | (with_reducible refine wpl_loadmw (o := ⟨some 6, _, _, _, _, _⟩) (by first | rfl | (go_simp; done) | fail) rfl row_entry FME.out rfl LE.out ?_) | (with_reducible refine wpl_loadm (o := ⟨some 8, _, _, _, _, _⟩) rfl rfl row_entry FME2.out rfl LE2.out ?_) | (with_reducible refine wpl_loadmw (o := ⟨some 8, _, _, _, _, _⟩) (by first | rfl | (go_simp; done) | fail) rfl row_entry FME2.out rfl LE2.out ?_) | (with_reducible refine wpl_loadm (o := ⟨some 19, _, _, _, _, _⟩) rfl rfl row_header FMH.out rfl LH.out ?_) | (with_reducible refine wpl_loadmw (o := ⟨some 19, _, _, _, _, _⟩) (by first | rfl | (go_simp; done) | fail) rfl row_header FMH.out rfl LH.out ?_) | (with_reducible refine wpl_loadm (o := ⟨some 21, _, _, _, _, _⟩) rfl rfl row_header FMH2.out rfl LH2.out ?_) | (with_reducible refine wpl_loadmw (o := ⟨some 21, _, _, _, _, _⟩) (by first | rfl | (go_simp; done) | fail) rfl row_header FMH2.out rfl LH2.out ?_) | (with_reducible refine wpl_loadm (o := ⟨some 26, _, _, _, _, _⟩) rfl rfl row_aid FMT.out rfl LT.out ?_) | (with_reducible refine wpl_loadmw (o := ⟨some 26, _, _, _, _, _⟩) (by first | rfl | (go_simp; done) | fail) rfl row_aid FMT.out rfl LT.out ?_) | (with_reducible refine wpl_loadm (o := ⟨some 28, _, _, _, _, _⟩) rfl rfl row_aid FMT2.out rfl LT2.out ?_) | (with_reducible refine wpl_loadmw (o := ⟨some 28, _, _, _, _, _⟩) (by first | rfl | (go_simp; done) | fail) rfl row_aid FMT2.out rfl LT2.out ?_))
        refine (HP.out _ H1.out H2.out).mono ?_
        clear c1 c2 FME FMH FMT FME2 FMH2 FMT2
        rintro e w2_ ⟨rfl, hb_⟩
        have hb_ := hb_
        clear hb_
        have HB_ := Lib.hid (HB.out.grow' hb_)
        clear HB
        have HB := HB_
        clear HB_
        have HX_ := Lib.hid (HX.out.grow hb_)
        clear HX
        have HX := HX_
        clear HX_
        have HY_ := Lib.hid (HY.out.grow hb_)
        clear HY
        have HY := HY_
        clear HY_
        clear hb_
        try clear w_
        rename World => w_
        have FME := Lib.hid (ME.out _ _ _ HX.out.blk)
        have FMH := Lib.hid (MH.out _ _ _ HX.out.blk)
        have FMT := Lib.hid (MT.out _ _ _ HX.out.blk)
        have FME2 := Lib.hid (ME2.out _ _ _ HY.out.blk)
        have FMH2 := Lib.hid (MH2.out _ _ _ HY.out.blk)
        have FMT2 := Lib.hid (MT2.out _ _ _ HY.out.blk)
        have c1 := HX.out.blk.at_ HV.out; have c2 := HY.out.blk.at_ HV2.out
        go_wp2_with (first | (with_reducible refine wpl_loadm (o := ⟨some 6, _, _, _, _, _⟩) rfl rfl row_entry FME.out rfl LE.out ?_) | (with_reducible refine wpl_loadmw (o := ⟨some 6, _, _, _, _, _⟩) (by first | rfl | (go_simp; done) | fail) rfl row_entry FME.out rfl LE.out ?_) | (with_reducible refine wpl_loadm (o := ⟨some 8, _, _, _, _, _⟩) rfl rfl row_entry FME2.out rfl LE2.out ?_) | (with_reducible refine wpl_loadmw (o := ⟨some 8, _, _, _, _, _⟩) (by first | rfl | (go_simp; done) | fail) rfl row_entry FME2.out rfl LE2.out ?_) | (with_reducible refine wpl_loadm (o := ⟨some 19, _, _, _, _, _⟩) rfl rfl row_header FMH.out rfl LH.out ?_) | (with_reducible refine wpl_loadmw (o := ⟨some 19, _, _, _, _, _⟩) (by first | rfl | (go_simp; done) | fail) rfl row_header FMH.out rfl LH.out ?_) | (with_reducible refine wpl_loadm (o := ⟨some 21, _, _, _, _, _⟩) rfl rfl row_header FMH2.out rfl LH2.out ?_) | (with_reducible refine wpl_loadmw (o := ⟨some 21, _, _, _, _, _⟩) (by first | rfl | (go_simp; done) | fail) rfl row_header FMH2.out rfl LH2.out ?_) | (with_reducible refine wpl_loadm (o := ⟨some 26, _, _, _, _, _⟩) rfl rfl row_aid FMT.out rfl LT.out ?_) | (with_reducible refine wpl_loadmw (o := ⟨some 26, _, _, _, _, _⟩) (by first | rfl | (go_simp; done) | fail) rfl row_aid FMT.out rfl LT.out ?_) | (with_reducible refine wpl_loadm (o := ⟨some 28, _, _, _, _, _⟩) rfl rfl row_aid FMT2.out rfl LT2.out ?_) | (with_reducible refine wpl_loadmw (o := ⟨some 28, _, _, _, _, _⟩) (by first | rfl | (go_simp; done) | fail) rfl row_aid FMT2.out rfl LT2.out ?_))
        go_ret
        exact ⟨by rw [HRES_.out]; rfl, HB.out⟩
      | true =>
        cases rt with
        | false =>
          have HRES_ := Lib.hid (show res = false by rw [HRES.out]; simp)
          have FME := Lib.hid (ME.out _ _ _ HX.out.blk)
          have FMH := Lib.hid (MH.out _ _ _ HX.out.blk)
          have FMT := Lib.hid (MT.out _ _ _ HX.out.blk)
          have FME2 := Lib.hid (ME2.out _ _ _ HY.out.blk)
          have FMH2 := Lib.hid (MH2.out _ _ _ HY.out.blk)
          have FMT2 := Lib.hid (MT2.out _ _ _ HY.out.blk)
          have c1 := HX.out.blk.at_ HV.out; have c2 := HY.out.blk.at_ HV2.out
          go_wp2_with (first | (with_reducible refine wpl_loadm (o := ⟨some 6, _, _, _, _, _⟩) rfl rfl row_entry FME.out rfl LE.out ?_) | (with_reducible refine wpl_loadmw (o := ⟨some 6, _, _, _, _, _⟩) (by first | rfl | (go_simp; done) | fail) rfl row_entry FME.out rfl LE.out ?_) | (with_reducible refine wpl_loadm (o := ⟨some 8, _, _, _, _, _⟩) rfl rfl row_entry FME2.out rfl LE2.out ?_) | (with_reducible refine wpl_loadmw (o := ⟨some 8, _, _, _, _, _⟩) (by first | rfl | (go_simp; done) | fail) rfl row_entry FME2.out rfl LE2.out ?_) | (with_reducible refine wpl_loadm (o := ⟨some 19, _, _, _, _, _⟩) rfl rfl row_header FMH.out rfl LH.out ?_) | (with_reducible refine wpl_loadmw (o := ⟨some 19, _, _, _, _, _⟩) (by first | rfl | (go_simp; done) | fail) rfl row_header FMH.out rfl LH.out ?_) | (with_reducible refine wpl_loadm (o := ⟨some 21, _, _, _, _, _⟩) rfl rfl row_header FMH2.out rfl LH2.out ?_) | (with_reducible refine wpl_loadmw (o := ⟨some 21, _, _, _, _, _⟩) (by first | rfl | (go_simp; done) | fail) rfl row_header FMH2.out rfl LH2.out ?_) | (with_reducible refine wpl_loadm (o := ⟨some 26, _, _, _, _, _⟩) rfl rfl row_aid FMT.out rfl LT.out ?_) | (with_reducible refine wpl_loadmw (o := ⟨some 26, _, _, _, _, _⟩) (by first | rfl | (go_simp; done) | fail) rfl row_aid FMT.out rfl LT.out ?_) | (with_reducible refine wpl_loadm (o := ⟨some 28, _, _, _, _, _⟩) rfl rfl row_aid FMT2.out rfl LT2.out ?_) | (with_reducible refine wpl_loadmw (o := ⟨some 28, _, _, _, _, _⟩) (by first | rfl | (go_simp; done) | fail) rfl row_aid FMT2.out rfl LT2.out ?_))
          refine (HP.out _ H1.out H2.out).mono ?_
          clear c1 c2 FME FMH FMT FME2 FMH2 FMT2
          rintro e w2_ ⟨rfl, hb_⟩
          have hb_ := hb_
          clear hb_
          have HB_ := Lib.hid (HB.out.grow' hb_)
          clear HB
          have HB := HB_
          clear HB_
          have HX_ := Lib.hid (HX.out.grow hb_)
          clear HX
          have HX := HX_
          clear HX_
          have HY_ := Lib.hid (HY.out.grow hb_)
          clear HY
          have HY := HY_
          clear HY_
          clear hb_
          try clear w_
          rename World => w_
          have FME := Lib.hid (ME.out _ _ _ HX.out.blk)
          have FMH := Lib.hid (MH.out _ _ _ HX.out.blk)
          have FMT := Lib.hid (MT.out _ _ _ HX.out.blk)
          have FME2 := Lib.hid (ME2.out _ _ _ HY.out.blk)
          have FMH2 := Lib.hid (MH2.out _ _ _ HY.out.blk)
          have FMT2 := Lib.hid (MT2.out _ _ _ HY.out.blk)
          have c1 := HX.out.blk.at_ HV.out; have c2 := HY.out.blk.at_ HV2.out
          go_wp2_with (first | (with_reducible refine wpl_loadm (o := ⟨some 6, _, _, _, _, _⟩) rfl rfl row_entry FME.out rfl LE.out ?_) | (with_reducible refine wpl_loadmw (o := ⟨some 6, _, _, _, _, _⟩) (by first | rfl | (go_simp; done) | fail) rfl row_entry FME.out rfl LE.out ?_) | (with_reducible refine wpl_loadm (o := ⟨some 8, _, _, _, _, _⟩) rfl rfl row_entry FME2.out rfl LE2.out ?_) | (with_reducible refine wpl_loadmw (o := ⟨some 8, _, _, _, _, _⟩) (by first | rfl | (go_simp; done) | fail) rfl row_entry FME2.out rfl LE2.out ?_) | (with_reducible refine wpl_loadm (o := ⟨some 19, _, _, _, _, _⟩) rfl rfl row_header FMH.out rfl LH.out ?_) | (with_reducible refine wpl_loadmw (o := ⟨some 19, _, _, _, _, _⟩) (by first | rfl | (go_simp; done) | fail) rfl row_header FMH.out rfl LH.out ?_) | (with_reducible refine wpl_loadm (o := ⟨some 21, _, _, _, _, _⟩) rfl rfl row_header FMH2.out rfl LH2.out ?_) | (with_reducible refine wpl_loadmw (o := ⟨some 21, _, _, _, _, _⟩) (by first | rfl | (go_simp; done) | fail) rfl row_header FMH2.out rfl LH2.out ?_) | (with_reducible refine wpl_loadm (o := ⟨some 26, _, _, _, _, _⟩) rfl rfl row_aid FMT.out rfl LT.out ?_) | (with_reducible refine wpl_loadmw (o := ⟨some 26, _, _, _, _, _⟩) (by first | rfl | (go_simp; done) | fail) rfl row_aid FMT.out rfl LT.out ?_) | (with_reducible refine wpl_loadm (o := ⟨some 28, _, _, _, _, _⟩) rfl rfl row_aid FMT2.out rfl LT2.out ?_) | (with_reducible refine wpl_loadmw (o := ⟨some 28, _, _, _, _, _⟩) (by first | rfl | (go_simp; done) | fail) rfl row_aid FMT2.out rfl LT2.out ?_))
          go_ret
          exact ⟨by rw [HRES_.out]; rfl, HB.out⟩
        | true =>
          have HRES_ := Lib.hid (show res = true by rw [HRES.out]; rfl)
          have FME := Lib.hid (ME.out _ _ _ HX.out.blk)
          have FMH := Lib.hid (MH.out _ _ _ HX.out.blk)
          have FMT := Lib.hid (MT.out _ _ _ HX.out.blk)
          have FME2 := Lib.hid (ME2.out _ _ _ HY.out.blk)
          have FMH2 := Lib.hid (MH2.out _ _ _ HY.out.blk)
          have FMT2 := Lib.hid (MT2.out _ _ _ HY.out.blk)
          have c1 := HX.out.blk.at_ HV.out; have c2 := HY.out.blk.at_ HV2.out
          go_wp2_with (first | (with_reducible refine wpl_loadm (o := ⟨some 6, _, _, _, _, _⟩) rfl rfl row_entry FME.out rfl LE.out ?_) | (with_reducible refine wpl_loadmw (o := ⟨some 6, _, _, _, _, _⟩) (by first | rfl | (go_simp; done) | fail) rfl row_entry FME.out rfl LE.out ?_) | (with_reducible refine wpl_loadm (o := ⟨some 8, _, _, _, _, _⟩) rfl rfl row_entry FME2.out rfl LE2.out ?_) | (with_reducible refine wpl_loadmw (o := ⟨some 8, _, _, _, _, _⟩) (by first | rfl | (go_simp; done) | fail) rfl row_entry FME2.out rfl LE2.out ?_) | (with_reducible refine wpl_loadm (o := ⟨some 19, _, _, _, _, _⟩) rfl rfl row_header FMH.out rfl LH.out ?_) | (with_reducible refine wpl_loadmw (o := ⟨some 19, _, _, _, _, _⟩) (by first | rfl | (go_simp; done) | fail) rfl row_header FMH.out rfl LH.out ?_) | (with_reducible refine wpl_loadm (o := ⟨some 21, _, _, _, _, _⟩) rfl rfl row_header FMH2.out rfl LH2.out ?_) | (with_reducible refine wpl_loadmw (o := ⟨some 21, _, _, _, _, _⟩) (by first | rfl | (go_simp; done) | fail) rfl row_header FMH2.out rfl LH2.out ?_) | (with_reducible refine wpl_loadm (o := ⟨some 26, _, _, _, _, _⟩) rfl rfl row_aid FMT.out rfl LT.out ?_) | (with_reducible refine wpl_loadmw (o := ⟨some 26, _, _, _, _, _⟩) (by first | rfl | (go_simp; done) | fail) rfl row_aid FMT.out rfl LT.out ?_) | (with_reducible refine wpl_loadm (o := ⟨some 28, _, _, _, _, _⟩) rfl rfl row_aid FMT2.out rfl LT2.out ?_) | (with_reducible refine wpl_loadmw (o := ⟨some 28, _, _, _, _, _⟩) (by first | rfl | (go_simp; done) | fail) rfl row_aid FMT2.out rfl LT2.out ?_))
          refine (HP.out _ H1.out H2.out).mono ?_
          clear c1 c2 FME FMH FMT FME2 FMH2 FMT2
          rintro e w2_ ⟨rfl, hb_⟩
          have hb_ := hb_
          clear hb_
          have HB_ := Lib.hid (HB.out.grow' hb_)
          clear HB
          have HB := HB_
          clear HB_
          have HX_ := Lib.hid (HX.out.grow hb_)
          clear HX
          have HX := HX_
          clear HX_
          have HY_ := Lib.hid (HY.out.grow hb_)
          clear HY
          have HY := HY_
          clear HY_
          clear hb_
          try clear w_
          rename World => w_
          have FME := Lib.hid (ME.out _ _ _ HX.out.blk)
          have FMH := Lib.hid (MH.out _ _ _ HX.out.blk)
          have FMT := Lib.hid (MT.out _ _ _ HX.out.blk)
          have FME2 := Lib.hid (ME2.out _ _ _ HY.out.blk)
          have FMH2 := Lib.hid (MH2.out _ _ _ HY.out.blk)
          have FMT2 := Lib.hid (MT2.out _ _ _ HY.out.blk)
          have c1 := HX.out.blk.at_ HV.out; have c2 := HY.out.blk.at_ HV2.out
          go_wp2_with (first | (with_reducible refine wpl_loadm (o := ⟨some 6, _, _, _, _, _⟩) rfl rfl row_entry FME.out rfl LE.out ?_) | (with_reducible refine wpl_loadmw (o := ⟨some 6, _, _, _, _, _⟩) (by first | rfl | (go_simp; done) | fail) rfl row_entry FME.out rfl LE.out ?_) | (with_reducible refine wpl_loadm (o := ⟨some 8, _, _, _, _, _⟩) rfl rfl row_entry FME2.out rfl LE2.out ?_) | (with_reducible refine wpl_loadmw (o := ⟨some 8, _, _, _, _, _⟩) (by first | rfl | (go_simp; done) | fail) rfl row_entry FME2.out rfl LE2.out ?_) | (with_reducible refine wpl_loadm (o := ⟨some 19, _, _, _, _, _⟩) rfl rfl row_header FMH.out rfl LH.out ?_) | (with_reducible refine wpl_loadmw (o := ⟨some 19, _, _, _, _, _⟩) (by first | rfl | (go_simp; done) | fail) rfl row_header FMH.out rfl LH.out ?_) | (with_reducible refine wpl_loadm (o := ⟨some 21, _, _, _, _, _⟩) rfl rfl row_header FMH2.out rfl LH2.out ?_) | (with_reducible refine wpl_loadmw (o := ⟨some 21, _, _, _, _, _⟩) (by first | rfl | (go_simp; done) | fail) rfl row_header FMH2.out rfl LH2.out ?_) | (with_reducible refine wpl_loadm (o := ⟨some 26, _, _, _, _, _⟩) rfl rfl row_aid FMT.out rfl LT.out ?_) | (with_reducible refine wpl_loadmw (o := ⟨some 26, _, _, _, _, _⟩) (by first | rfl | (go_simp; done) | fail) rfl row_aid FMT.out rfl LT.out ?_) | (with_reducible refine wpl_loadm (o := ⟨some 28, _, _, _, _, _⟩) rfl rfl row_aid FMT2.out rfl LT2.out ?_) | (with_reducible refine wpl_loadmw (o := ⟨some 28, _, _, _, _, _⟩) (by first | rfl | (go_simp; done) | fail) rfl row_aid FMT2.out rfl LT2.out ?_))
          go_ret
          exact ⟨by rw [HRES_.out]; rfl, HB.out⟩
end Go.Proofs.Ytobmldegjajocaa

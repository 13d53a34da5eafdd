/- The walk of TxSame. Printed by mktsamew.py. -/
import Derived.Test.YtphmefhnffoafaaDoorTxSameB8
import Derived.Test.YtphmefhnffoafaaDoorTxSameB11
set_option linter.unusedSimpArgs false
/- The walk of TxSame. Printed by mktsamew.py. -/
namespace Go.Proofs.YtphmefhnffoafaaDoor
open Go.RowKit Go.Shelf
set_option linter.unusedVariables false
theorem great_no {t : Txn} (h : ¬ greatT t = true) : t.ins.length ≤ 20 ∧ t.outs.length ≤ 20 ∧ ∀ i ∈ t.ins, i.secret.length ≤ 100 := by
  unfold greatT at h
  simp only [Bool.or_eq_true, decide_eq_true_iff, List.any_eq_true, not_or, not_exists, not_and] at h
  exact ⟨by omega, by omega, fun i hi => by have := h.2 i hi; omega⟩
theorem txn_ok {w : World} {A : Option Addr} {n c : Nat} {A2 : Option Addr} {n2 c2 : Nat} {fee ex : Int} {l : List (Value × Inp)} {os : List Outp} (hi : InsAt w A n c l) (ho : OutsAt w A2 n2 c2 os) (hf : U64 fee) (hx : I64 ex) : Txn.ok ⟨l.map Prod.snd, os, fee, ex⟩ := by
  refine ⟨fun i h => ?_, ho.2.1, hf, hx⟩
  obtain ⟨p, hp, rfl⟩ := List.mem_map.1 h
  exact (hi.2.1 p hp).2
theorem tidB_length (t : Txn) : (tidB t).length = 32 := by
  unfold tidB
  by_cases h : checkT t = 0
  · rw [if_pos h]; exact sha_length _
  · rw [if_neg h]; rfl
set_option maxRecDepth 100000 in
set_option maxHeartbeats 8000000 in
theorem txSame_walk (A : Option Addr) (n c : Nat) (A2 : Option Addr) (n2 c2 : Nat) (l : List (Value × Inp)) (os : List Outp) (fee ex : Int) (B1 : Option Addr) (m d : Nat) (B2 : Option Addr) (m2 d2 : Nat) (l2 : List (Value × Inp)) (qs : List Outp) (fee2 ex2 : Int) (w : World)
    (hi : InsAt w A n c l) (ho : OutsAt w A2 n2 c2 os) (hf : U64 fee) (hx : I64 ex) (hm : c ≤ maxLen) (hm2 : c2 ≤ maxLen) (hi' : InsAt w B1 m d l2) (ho' : OutsAt w B2 m2 d2 qs) (hf' : U64 fee2) (hx' : I64 ex2) (hm' : d ≤ maxLen) (hm2' : d2 ≤ maxLen) (ht : Tabs w) :
    Calls Tryd.prog 7 #[.agg (txV A n c A2 n2 c2 fee ex).toArray, .agg (txV B1 m d B2 m2 d2 fee2 ex2).toArray] w fun e w' => e = .returned (.bool true) ∧ Below w.heap.size w w' := by
  have HAW := Lib.hid (fun (w' : World) => awake7_any w')
  have hn : n ≤ 9223372036854775807 := by have := hi.2.2.2; unfold maxLen at hm; omega
  have hn2 : n2 ≤ 9223372036854775807 := by have := ho.2.2.2; unfold maxLen at hm2; omega
  have hq : m ≤ 9223372036854775807 := by have := hi'.2.2.2; unfold maxLen at hm'; omega
  have hq2 : m2 ≤ 9223372036854775807 := by have := ho'.2.2.2; unfold maxLen at hm2'; omega
  have HTC := Lib.hid (txV_cl (A := A) (n := n) (c := c) (A2 := A2) (n2 := n2) (c2 := c2) (fee := fee) (ex := ex))
  have HUC := Lib.hid (txV_cl (A := B1) (n := m) (c := d) (A2 := B2) (n2 := m2) (c2 := d2) (fee := fee2) (ex := ex2))
  have G1 := Lib.hid (fun (w' : World) (hg : Grow w w') => rtgreat_any (A := A) (n := n) (c := c) (A2 := A2) (n2 := n2) (c2 := c2) (fee := fee) (ex := ex) w' (hi.grow hg) ho.2.2.1 hn hn2)
  have G2 := Lib.hid (fun (w' : World) (hg : Grow w w') => rtgreat_any (A := B1) (n := m) (c := d) (A2 := B2) (n2 := m2) (c2 := d2) (fee := fee2) (ex := ex2) w' (hi'.grow hg) ho'.2.2.1 hq hq2)
  obtain ⟨ta, hta⟩ : ∃ t : Txn, t = ⟨l.map Prod.snd, os, fee, ex⟩ := ⟨_, rfl⟩
  obtain ⟨tb, htb⟩ : ∃ t : Txn, t = ⟨l2.map Prod.snd, qs, fee2, ex2⟩ := ⟨_, rfl⟩
  rw [← hta] at G1
  rw [← htb] at G2
  have hka : ta.ok := by rw [hta]; exact txn_ok hi ho hf hx
  have hkb : tb.ok := by rw [htb]; exact txn_ok hi' ho' hf' hx'
  obtain ⟨gz, hgz⟩ : ∃ z : Int, z = if greatT ta then 1 else 0 := ⟨_, rfl⟩
  obtain ⟨gy, hgy⟩ : ∃ z : Int, z = if greatT tb then 1 else 0 := ⟨_, rfl⟩
  rw [← hgz] at G1
  rw [← hgy] at G2
  obtain ⟨s, hs⟩ := ex_bool (ta = tb)
  obtain ⟨tv, htv⟩ : ∃ q, q = txV A n c A2 n2 c2 fee ex := ⟨_, rfl⟩
  obtain ⟨uv, huv⟩ : ∃ q, q = txV B1 m d B2 m2 d2 fee2 ex2 := ⟨_, rfl⟩
  rw [← htv] at HTC G1 ⊢
  rw [← huv] at HUC G2 ⊢
  by_cases ga : greatT ta = true
  · rw [if_pos ga] at hgz
    subst hgz
    clear hgy hs hta htb htv huv hi ho hi' ho' hka hkb hn hn2 hq hq2 hm hm2 hm' hm2' ht ga G2
    obtain ⟨w_, hw⟩ : ∃ x, x = w := ⟨_, rfl⟩
    have HB := Lib.hid (show Below w.heap.size w w_ by rw [hw]; exact Below.refl _ _)
    suffices H : Calls Tryd.prog 7 #[.agg tv.toArray, .agg uv.toArray] w_ fun e w' => e = .returned (.bool true) ∧ Below w.heap.size w w' by rw [hw] at H; exact H
    clear hw
    go_enter Tryd.func7, Tryd.ntmps7
    go_wp2_with (first | (with_reducible refine wpl_box (o := ⟨some 2, _, _, _, _, _⟩) rfl rfl rfl ?_))
    intro w2_ hb2_ hb_ hsz2_
    have HX_ := Lib.hid (at_mk hb2_ HTC.out.len)
    clear hb2_ hsz2_
    have HG_ := Lib.hid HB.out.size
    have HB_ := Lib.hid (HB.out.grow' hb_)
    clear HB
    have HB := HB_
    clear HB_
    generalize hg_ : w_.heap.size = g1 at HX_ HG_ ⊢
    clear hg_
    have HX_g := HG_
    clear HG_
    have HX := HX_
    clear hb_ HX_
    try clear w_
    rename World => w_
    go_wp2_with (first | (with_reducible refine wpl_box (o := ⟨some 3, _, _, _, _, _⟩) rfl rfl rfl ?_))
    intro w2_ hb2_ hb_ hsz2_
    have HX_ := Lib.hid (at_mk hb2_ HUC.out.len)
    clear hb2_ hsz2_
    have HG_ := Lib.hid HB.out.size
    have HB_ := Lib.hid (HB.out.grow' hb_)
    clear HB
    have HB := HB_
    clear HB_
    have HX_ := Lib.hid (HX.out.grow hb_)
    clear HX
    have HX := HX_
    clear HX_
    generalize hg_ : w_.heap.size = g2 at HX_ HG_ ⊢
    clear hg_
    have HY_g := HG_
    clear HG_
    have HY := HX_
    clear hb_ HX_
    try clear w_
    rename World => w_
    go_wp2_with (first | (with_reducible refine wpl_loadb (o := ⟨_, .load _ _, _, _, _, _⟩) rfl rfl row_tx HX.out.blk rfl HX.out.len ?_) | (with_reducible refine wpl_loadw (o := ⟨_, .load _ _, _, _, _, _⟩) (by first | rfl | (go_simp; done) | fail) rfl row_tx HX.out.blk rfl HX.out.len ?_) | (with_reducible refine wpl_loadb (o := ⟨_, .load _ _, _, _, _, _⟩) rfl rfl row_tx HY.out.blk rfl HY.out.len ?_) | (with_reducible refine wpl_loadw (o := ⟨_, .load _ _, _, _, _, _⟩) (by first | rfl | (go_simp; done) | fail) rfl row_tx HY.out.blk rfl HY.out.len ?_))
    refine (G1.out _ HB.out).mono ?_
    rintro e w_ ⟨rfl, hb_⟩
    have HB_ := Lib.hid (HB.out.grow' hb_)
    clear HB
    have HB := HB_
    clear HB_
    have HX_ := Lib.hid (HX.out.grow hb_)
    clear HX
    have HX := HX_
    clear HX_
    have HY_ := Lib.hid (HY.out.grow hb_)
    clear HY
    have HY := HY_
    clear HY_
    clear hb_
    go_wp2_with fail
    refine (awake7_any _).mono ?_
    rintro e w_ ⟨rfl, hb_⟩
    have HB_ := Lib.hid (HB.out.grow' hb_)
    clear HB
    have HB := HB_
    clear HB_
    clear hb_
    go_wp2_with fail
    go_ret
    exact ⟨rfl, HB.out⟩
  rw [if_neg ga] at hgz
  subst hgz
  by_cases gb : greatT tb = true
  · rw [if_pos gb] at hgy
    subst hgy
    clear hs hta htb htv huv hi ho hi' ho' hka hkb hn hn2 hq hq2 hm hm2 hm' hm2' ht ga gb
    obtain ⟨w_, hw⟩ : ∃ x, x = w := ⟨_, rfl⟩
    have HB := Lib.hid (show Below w.heap.size w w_ by rw [hw]; exact Below.refl _ _)
    suffices H : Calls Tryd.prog 7 #[.agg tv.toArray, .agg uv.toArray] w_ fun e w' => e = .returned (.bool true) ∧ Below w.heap.size w w' by rw [hw] at H; exact H
    clear hw
    go_enter Tryd.func7, Tryd.ntmps7
    go_wp2_with (first | (with_reducible refine wpl_box (o := ⟨some 2, _, _, _, _, _⟩) rfl rfl rfl ?_))
    intro w2_ hb2_ hb_ hsz2_
    have HX_ := Lib.hid (at_mk hb2_ HTC.out.len)
    clear hb2_ hsz2_
    have HG_ := Lib.hid HB.out.size
    have HB_ := Lib.hid (HB.out.grow' hb_)
    clear HB
    have HB := HB_
    clear HB_
    generalize hg_ : w_.heap.size = g1 at HX_ HG_ ⊢
    clear hg_
    have HX_g := HG_
    clear HG_
    have HX := HX_
    clear hb_ HX_
    try clear w_
    rename World => w_
    go_wp2_with (first | (with_reducible refine wpl_box (o := ⟨some 3, _, _, _, _, _⟩) rfl rfl rfl ?_))
    intro w2_ hb2_ hb_ hsz2_
    have HX_ := Lib.hid (at_mk hb2_ HUC.out.len)
    clear hb2_ hsz2_
    have HG_ := Lib.hid HB.out.size
    have HB_ := Lib.hid (HB.out.grow' hb_)
    clear HB
    have HB := HB_
    clear HB_
    have HX_ := Lib.hid (HX.out.grow hb_)
    clear HX
    have HX := HX_
    clear HX_
    generalize hg_ : w_.heap.size = g2 at HX_ HG_ ⊢
    clear hg_
    have HY_g := HG_
    clear HG_
    have HY := HX_
    clear hb_ HX_
    try clear w_
    rename World => w_
    go_wp2_with (first | (with_reducible refine wpl_loadb (o := ⟨_, .load _ _, _, _, _, _⟩) rfl rfl row_tx HX.out.blk rfl HX.out.len ?_) | (with_reducible refine wpl_loadw (o := ⟨_, .load _ _, _, _, _, _⟩) (by first | rfl | (go_simp; done) | fail) rfl row_tx HX.out.blk rfl HX.out.len ?_) | (with_reducible refine wpl_loadb (o := ⟨_, .load _ _, _, _, _, _⟩) rfl rfl row_tx HY.out.blk rfl HY.out.len ?_) | (with_reducible refine wpl_loadw (o := ⟨_, .load _ _, _, _, _, _⟩) (by first | rfl | (go_simp; done) | fail) rfl row_tx HY.out.blk rfl HY.out.len ?_))
    refine (G1.out _ HB.out).mono ?_
    rintro e w_ ⟨rfl, hb_⟩
    have HB_ := Lib.hid (HB.out.grow' hb_)
    clear HB
    have HB := HB_
    clear HB_
    have HX_ := Lib.hid (HX.out.grow hb_)
    clear HX
    have HX := HX_
    clear HX_
    have HY_ := Lib.hid (HY.out.grow hb_)
    clear HY
    have HY := HY_
    clear HY_
    clear hb_
    go_wp2_with (first | (with_reducible refine wpl_loadb (o := ⟨_, .load _ _, _, _, _, _⟩) rfl rfl row_tx HX.out.blk rfl HX.out.len ?_) | (with_reducible refine wpl_loadw (o := ⟨_, .load _ _, _, _, _, _⟩) (by first | rfl | (go_simp; done) | fail) rfl row_tx HX.out.blk rfl HX.out.len ?_) | (with_reducible refine wpl_loadb (o := ⟨_, .load _ _, _, _, _, _⟩) rfl rfl row_tx HY.out.blk rfl HY.out.len ?_) | (with_reducible refine wpl_loadw (o := ⟨_, .load _ _, _, _, _, _⟩) (by first | rfl | (go_simp; done) | fail) rfl row_tx HY.out.blk rfl HY.out.len ?_))
    refine (G2.out _ HB.out).mono ?_
    rintro e w_ ⟨rfl, hb_⟩
    have HB_ := Lib.hid (HB.out.grow' hb_)
    clear HB
    have HB := HB_
    clear HB_
    have HX_ := Lib.hid (HX.out.grow hb_)
    clear HX
    have HX := HX_
    clear HX_
    have HY_ := Lib.hid (HY.out.grow hb_)
    clear HY
    have HY := HY_
    clear HY_
    clear hb_
    go_wp2_with fail
    refine (awake7_any _).mono ?_
    rintro e w_ ⟨rfl, hb_⟩
    have HB_ := Lib.hid (HB.out.grow' hb_)
    clear HB
    have HB := HB_
    clear HB_
    clear hb_
    go_wp2_with fail
    go_ret
    exact ⟨rfl, HB.out⟩
  rw [if_neg gb] at hgy
  subst hgy
  obtain ⟨k1, k2, k3⟩ := great_no ga
  obtain ⟨j1, j2, j3⟩ := great_no gb
  have en : n ≤ 20 := by rw [hta] at k1; simp only [List.length_map] at k1; rw [hi.2.2.1] at k1; exact k1
  have en2 : n2 ≤ 20 := by rw [hta] at k2; have h := ho.2.2.1; simp only at k2; omega
  have em : m ≤ 20 := by rw [htb] at j1; simp only [List.length_map] at j1; rw [hi'.2.2.1] at j1; exact j1
  have em2 : m2 ≤ 20 := by rw [htb] at j2; have h := ho'.2.2.1; simp only at j2; omega
  have es : ∀ p ∈ l, p.2.secret.length ≤ 1000000 := fun p hp => by have := k3 p.2 (by rw [hta]; exact List.mem_map_of_mem hp); omega
  have hres : s = true ↔ (⟨l.map Prod.snd, os, fee, ex⟩ : Txn) = ⟨l2.map Prod.snd, qs, fee2, ex2⟩ := by rw [← hta, ← htb]; exact hs
  have HS1 := Lib.hid (fun (w' : World) (hg : Grow w w') => rtsame_any (c := c) (c2 := d) (d := c2) (d2 := d2) hres w' (by omega) (by omega) es (hi.grow hg) (hi'.grow hg) (ho.grow hg) (ho'.grow hg))
  have HS2 := Lib.hid (fun (w' : World) (hg : Grow w w') => tsame_any (c := c) (c2 := d) (d := c2) (d2 := d2) hres w' (by omega) (by omega) es (hi.grow hg) (hi'.grow hg) (ho.grow hg) (ho'.grow hg))
  have HS3 := Lib.hid (fun (w' : World) (hg : Grow w w') => tsame_any (res := true) (c := c) (c2 := c) (d := c2) (d2 := c2) (l := l) (l2 := l) (os := os) (os2 := os) (fee := fee) (fee2 := fee) (ex := ex) (ex2 := ex) (by simp) w' (by omega) (by omega) es (hi.grow hg) (hi.grow hg) (ho.grow hg) (ho.grow hg))
  have HK1 := Lib.hid (fun (w' : World) (hg : Grow w w') => rtcheck_any (fee := fee) (ex := ex) w' (hi.grow hg) (ho.grow hg) (by omega) (by omega) hf hx)
  have HK2 := Lib.hid (fun (w' : World) (hg : Grow w w') => rtcheck_any (fee := fee2) (ex := ex2) w' (hi'.grow hg) (ho'.grow hg) (by omega) (by omega) hf' hx')
  have HP1 := Lib.hid (fun (w' : World) (hg : Grow w w') => tput_any (fee := fee) (ex := ex) w' (hi.grow hg) (ho.grow hg) (by omega) (by omega) hf hx)
  have HP2 := Lib.hid (fun (w' : World) (hg : Grow w w') => tput_any (fee := fee2) (ex := ex2) w' (hi'.grow hg) (ho'.grow hg) (by omega) (by omega) hf' hx')
  obtain ⟨za, hza⟩ : ∃ q, Dig q (tidB ta) := ⟨(tidB ta).map B, rfl, tidB_length _⟩
  obtain ⟨zb, hzb⟩ : ∃ q, Dig q (tidB tb) := ⟨(tidB tb).map B, rfl, tidB_length _⟩
  have HI1 := Lib.hid (fun (w' : World) (hg : Grow w w') => tid_any (fee := fee) (ex := ex) (by rw [← hta]; exact hza) w' (hi.grow hg) (ho.grow hg) (by omega) (by omega) hf hx (ht.grow hg))
  have HI2 := Lib.hid (fun (w' : World) (hg : Grow w w') => tid_any (fee := fee2) (ex := ex2) (by rw [← htb]; exact hzb) w' (hi'.grow hg) (ho'.grow hg) (by omega) (by omega) hf' hx' (ht.grow hg))
  have HR1 := Lib.hid (fun (h : checkT ta = 0) (w' : World) (hg : Grow w w') => rtid_any (fee := fee) (ex := ex) (by rw [← hta]; exact h) (by rw [← hta]; exact hza) w' (hi.grow hg) (ho.grow hg) hf hx)
  have HR2 := Lib.hid (fun (h : checkT tb = 0) (w' : World) (hg : Grow w w') => rtid_any (fee := fee2) (ex := ex2) (by rw [← htb]; exact h) (by rw [← htb]; exact hzb) w' (hi'.grow hg) (ho'.grow hg) hf' hx')
  rw [← hta] at HK1 HP1
  rw [← htb] at HK2 HP2
  rw [← htv] at HS1 HS2 HS3 HK1 HP1 HI1 HR1
  rw [← huv] at HS1 HS2 HK2 HP2 HI2 HR2
  obtain ⟨dd, hdd⟩ : ∃ q, (tidB ta == tidB tb) = q := ⟨_, rfl⟩
  have q1 := hza.eql_b hzb hdd
  obtain ⟨sm, hsm⟩ : ∃ q, decide (tformB ta = tformB tb) = q := ⟨_, rfl⟩
  have HDD := Lib.hid (show s = true → dd = true from fun h => by rw [← hdd, hs.1 h]; simp)
  have HSM := Lib.hid (show s = true → sm = true from fun h => by rw [← hsm, hs.1 h]; simp)
  obtain ⟨ca, hca⟩ : ∃ z, z = checkT ta := ⟨_, rfl⟩
  obtain ⟨cb, hcb⟩ : ∃ z, z = checkT tb := ⟨_, rfl⟩
  have HSN := Lib.hid (show s = false → ca = 0 → cb = 0 → sm = false from fun h1 h2 h3 => by
    rw [← hsm, decide_eq_false_iff_not]
    intro h
    rw [hca] at h2; rw [hcb] at h3
    unfold tformB at h
    rw [if_pos h2, if_pos h3] at h
    have h4 := hs.2 (putT_inj hka hkb h2 h3 h)
    rw [h1] at h4; cases h4)
  have HLA := Lib.hid (show ca = 0 → (tformB ta).length ≤ 1000000 from fun h => by
    rw [hca] at h
    unfold tformB
    rw [if_pos h]
    have := putTB_le hka h; omega)
  rw [← hca] at HK1 HP1 HR1
  rw [← hcb] at HK2 HP2 HR2
  obtain ⟨xa, hxa⟩ : ∃ z, z = tformB ta := ⟨_, rfl⟩
  obtain ⟨xb, hxb⟩ : ∃ z, z = tformB tb := ⟨_, rfl⟩
  rw [← hxa] at HP1 HLA hsm
  rw [← hxb] at HP2 hsm
  obtain ⟨la, hla⟩ : ∃ z, z = xa.length := ⟨_, rfl⟩
  obtain ⟨lb, hlb⟩ : ∃ z, z = xb.length := ⟨_, rfl⟩
  rw [← hla] at HP1 HLA
  rw [← hlb] at HP2
  clear hs hres hta htb htv huv hi ho hi' ho' hka hkb hn hn2 hq hq2 hm hm2 hm' hm2' ht ga gb k1 k2 k3 j1 j2 j3 en en2 em em2 es hza hzb hdd hca hcb hxa hxb hla hlb hf hx hf' hx'
  have HR1_ := Lib.hid (show ∀ h : ca = 0, _ from HR1.out); have HR2_ := Lib.hid (show ∀ h : cb = 0, _ from HR2.out)
  clear HR1 HR2
  obtain ⟨w_, hw⟩ : ∃ x, x = w := ⟨_, rfl⟩
  have HB := Lib.hid (show Below w.heap.size w w_ by rw [hw]; exact Below.refl _ _)
  suffices H : Calls Tryd.prog 7 #[.agg tv.toArray, .agg uv.toArray] w_ fun e w' => e = .returned (.bool true) ∧ Below w.heap.size w w' by rw [hw] at H; exact H
  clear hw
  go_enter Tryd.func7, Tryd.ntmps7
  go_wp2_with (first | (with_reducible refine wpl_box (o := ⟨some 2, _, _, _, _, _⟩) rfl rfl rfl ?_))
  intro w2_ hb2_ hb_ hsz2_
  have HX_ := Lib.hid (at_mk hb2_ HTC.out.len)
  clear hb2_ hsz2_
  have HG_ := Lib.hid HB.out.size
  have HB_ := Lib.hid (HB.out.grow' hb_)
  clear HB
  have HB := HB_
  clear HB_
  generalize hg_ : w_.heap.size = g1 at HX_ HG_ ⊢
  clear hg_
  have HX_g := HG_
  clear HG_
  have HX := HX_
  clear hb_ HX_
  try clear w_
  rename World => w_
  go_wp2_with (first | (with_reducible refine wpl_box (o := ⟨some 3, _, _, _, _, _⟩) rfl rfl rfl ?_))
  intro w2_ hb2_ hb_ hsz2_
  have HX_ := Lib.hid (at_mk hb2_ HUC.out.len)
  clear hb2_ hsz2_
  have HG_ := Lib.hid HB.out.size
  have HB_ := Lib.hid (HB.out.grow' hb_)
  clear HB
  have HB := HB_
  clear HB_
  have HX_ := Lib.hid (HX.out.grow hb_)
  clear HX
  have HX := HX_
  clear HX_
  generalize hg_ : w_.heap.size = g2 at HX_ HG_ ⊢
  clear hg_
  have HY_g := HG_
  clear HG_
  have HY := HX_
  clear hb_ HX_
  try clear w_
  rename World => w_
  go_wp2_with (first | (with_reducible refine wpl_loadb (o := ⟨_, .load _ _, _, _, _, _⟩) rfl rfl row_tx HX.out.blk rfl HX.out.len ?_) | (with_reducible refine wpl_loadw (o := ⟨_, .load _ _, _, _, _, _⟩) (by first | rfl | (go_simp; done) | fail) rfl row_tx HX.out.blk rfl HX.out.len ?_) | (with_reducible refine wpl_loadb (o := ⟨_, .load _ _, _, _, _, _⟩) rfl rfl row_tx HY.out.blk rfl HY.out.len ?_) | (with_reducible refine wpl_loadw (o := ⟨_, .load _ _, _, _, _, _⟩) (by first | rfl | (go_simp; done) | fail) rfl row_tx HY.out.blk rfl HY.out.len ?_))
  refine (G1.out _ HB.out).mono ?_
  rintro e w_ ⟨rfl, hb_⟩
  have HB_ := Lib.hid (HB.out.grow' hb_)
  clear HB
  have HB := HB_
  clear HB_
  have HX_ := Lib.hid (HX.out.grow hb_)
  clear HX
  have HX := HX_
  clear HX_
  have HY_ := Lib.hid (HY.out.grow hb_)
  clear HY
  have HY := HY_
  clear HY_
  clear hb_
  go_wp2_with (first | (with_reducible refine wpl_loadb (o := ⟨_, .load _ _, _, _, _, _⟩) rfl rfl row_tx HX.out.blk rfl HX.out.len ?_) | (with_reducible refine wpl_loadw (o := ⟨_, .load _ _, _, _, _, _⟩) (by first | rfl | (go_simp; done) | fail) rfl row_tx HX.out.blk rfl HX.out.len ?_) | (with_reducible refine wpl_loadb (o := ⟨_, .load _ _, _, _, _, _⟩) rfl rfl row_tx HY.out.blk rfl HY.out.len ?_) | (with_reducible refine wpl_loadw (o := ⟨_, .load _ _, _, _, _, _⟩) (by first | rfl | (go_simp; done) | fail) rfl row_tx HY.out.blk rfl HY.out.len ?_))
  refine (G2.out _ HB.out).mono ?_
  rintro e w_ ⟨rfl, hb_⟩
  have HB_ := Lib.hid (HB.out.grow' hb_)
  clear HB
  have HB := HB_
  clear HB_
  have HX_ := Lib.hid (HX.out.grow hb_)
  clear HX
  have HX := HX_
  clear HX_
  have HY_ := Lib.hid (HY.out.grow hb_)
  clear HY
  have HY := HY_
  clear HY_
  clear hb_
  clear G1 G2
  go_wp2_with (first | (with_reducible refine wpl_loadb (o := ⟨_, .load _ _, _, _, _, _⟩) rfl rfl row_tx HX.out.blk rfl HX.out.len ?_) | (with_reducible refine wpl_loadw (o := ⟨_, .load _ _, _, _, _, _⟩) (by first | rfl | (go_simp; done) | fail) rfl row_tx HX.out.blk rfl HX.out.len ?_) | (with_reducible refine wpl_loadb (o := ⟨_, .load _ _, _, _, _, _⟩) rfl rfl row_tx HY.out.blk rfl HY.out.len ?_) | (with_reducible refine wpl_loadw (o := ⟨_, .load _ _, _, _, _, _⟩) (by first | rfl | (go_simp; done) | fail) rfl row_tx HY.out.blk rfl HY.out.len ?_))
  refine (HS1.out _ HB.out).mono ?_
  rintro e w_ ⟨rfl, hb_⟩
  have HB_ := Lib.hid (HB.out.grow' hb_)
  clear HB
  have HB := HB_
  clear HB_
  have HX_ := Lib.hid (HX.out.grow hb_)
  clear HX
  have HX := HX_
  clear HX_
  have HY_ := Lib.hid (HY.out.grow hb_)
  clear HY
  have HY := HY_
  clear HY_
  clear hb_
  cases s with
  | true =>
    go_wp2_with (first | (with_reducible refine wpl_loadb (o := ⟨_, .load _ _, _, _, _, _⟩) rfl rfl row_tx HX.out.blk rfl HX.out.len ?_) | (with_reducible refine wpl_loadw (o := ⟨_, .load _ _, _, _, _, _⟩) (by first | rfl | (go_simp; done) | fail) rfl row_tx HX.out.blk rfl HX.out.len ?_) | (with_reducible refine wpl_loadb (o := ⟨_, .load _ _, _, _, _, _⟩) rfl rfl row_tx HY.out.blk rfl HY.out.len ?_) | (with_reducible refine wpl_loadw (o := ⟨_, .load _ _, _, _, _, _⟩) (by first | rfl | (go_simp; done) | fail) rfl row_tx HY.out.blk rfl HY.out.len ?_))
    refine (HS2.out _ HB.out).mono ?_
    rintro e w_ ⟨rfl, hb_⟩
    have HB_ := Lib.hid (HB.out.grow' hb_)
    clear HB
    have HB := HB_
    clear HB_
    have HX_ := Lib.hid (HX.out.grow hb_)
    clear HX
    have HX := HX_
    clear HX_
    have HY_ := Lib.hid (HY.out.grow hb_)
    clear HY
    have HY := HY_
    clear HY_
    clear hb_
    go_wp2_with (first | (with_reducible refine wpl_loadb (o := ⟨_, .load _ _, _, _, _, _⟩) rfl rfl row_tx HX.out.blk rfl HX.out.len ?_) | (with_reducible refine wpl_loadw (o := ⟨_, .load _ _, _, _, _, _⟩) (by first | rfl | (go_simp; done) | fail) rfl row_tx HX.out.blk rfl HX.out.len ?_) | (with_reducible refine wpl_loadb (o := ⟨_, .load _ _, _, _, _, _⟩) rfl rfl row_tx HY.out.blk rfl HY.out.len ?_) | (with_reducible refine wpl_loadw (o := ⟨_, .load _ _, _, _, _, _⟩) (by first | rfl | (go_simp; done) | fail) rfl row_tx HY.out.blk rfl HY.out.len ?_))
    refine (HS3.out _ HB.out).mono ?_
    rintro e w_ ⟨rfl, hb_⟩
    have HB_ := Lib.hid (HB.out.grow' hb_)
    clear HB
    have HB := HB_
    clear HB_
    have HX_ := Lib.hid (HX.out.grow hb_)
    clear HX
    have HX := HX_
    clear HX_
    have HY_ := Lib.hid (HY.out.grow hb_)
    clear HY
    have HY := HY_
    clear HY_
    clear hb_
    go_wp2_with (first | (with_reducible refine wpl_loadb (o := ⟨_, .load _ _, _, _, _, _⟩) rfl rfl row_tx HX.out.blk rfl HX.out.len ?_) | (with_reducible refine wpl_loadw (o := ⟨_, .load _ _, _, _, _, _⟩) (by first | rfl | (go_simp; done) | fail) rfl row_tx HX.out.blk rfl HX.out.len ?_) | (with_reducible refine wpl_loadb (o := ⟨_, .load _ _, _, _, _, _⟩) rfl rfl row_tx HY.out.blk rfl HY.out.len ?_) | (with_reducible refine wpl_loadw (o := ⟨_, .load _ _, _, _, _, _⟩) (by first | rfl | (go_simp; done) | fail) rfl row_tx HY.out.blk rfl HY.out.len ?_))
    refine (HK1.out _ HB.out).mono ?_
    rintro e w_ ⟨rfl, hb_⟩
    have HB_ := Lib.hid (HB.out.grow' hb_)
    clear HB
    have HB := HB_
    clear HB_
    have HX_ := Lib.hid (HX.out.grow hb_)
    clear HX
    have HX := HX_
    clear HX_
    have HY_ := Lib.hid (HY.out.grow hb_)
    clear HY
    have HY := HY_
    clear HY_
    clear hb_
    by_cases hc1 : ca = 0
    · subst hc1
      go_wp2_with (first | (with_reducible refine wpl_loadb (o := ⟨_, .load _ _, _, _, _, _⟩) rfl rfl row_tx HX.out.blk rfl HX.out.len ?_) | (with_reducible refine wpl_loadw (o := ⟨_, .load _ _, _, _, _, _⟩) (by first | rfl | (go_simp; done) | fail) rfl row_tx HX.out.blk rfl HX.out.len ?_) | (with_reducible refine wpl_loadb (o := ⟨_, .load _ _, _, _, _, _⟩) rfl rfl row_tx HY.out.blk rfl HY.out.len ?_) | (with_reducible refine wpl_loadw (o := ⟨_, .load _ _, _, _, _, _⟩) (by first | rfl | (go_simp; done) | fail) rfl row_tx HY.out.blk rfl HY.out.len ?_))
      refine (HK2.out _ HB.out).mono ?_
      rintro e w_ ⟨rfl, hb_⟩
      have HB_ := Lib.hid (HB.out.grow' hb_)
      clear HB
      have HB := HB_
      clear HB_
      have HX_ := Lib.hid (HX.out.grow hb_)
      clear HX
      have HX := HX_
      clear HX_
      have HY_ := Lib.hid (HY.out.grow hb_)
      clear HY
      have HY := HY_
      clear HY_
      clear hb_
      by_cases hc2 : cb = 0
      · subst hc2
        have hdd_ := HDD.out (by first | trivial | rfl)
        have hsm_ := HSM.out (by first | trivial | rfl)
        subst hdd_
        subst hsm_
        try go_wp2_with fail
        repeat' (first | (with_reducible refine wp_flow (id := 8) [0,1,3,7,15,7,63,127,255] [0,0,0,0,3,0,3,0,0] (fun i => match i with | 4 => spV (.agg za.toArray) | 6 => spV (.agg zb.toArray) | _ => spV undef) (by kernel_rfl) (by kernel_rfl) ?_) | go_values | go_skip | go_guarded | go_step | go_upon | go_back)
        intro w_ hd_
        have hb_ := hd_.grow
        have HB_ := Lib.hid (HB.out.grow' hb_)
        clear HB
        have HB := HB_
        clear HB_
        have HX_ := Lib.hid (HX.out.grow hb_)
        clear HX
        have HX := HX_
        clear HX_
        have HY_ := Lib.hid (HY.out.grow hb_)
        clear HY
        have HY := HY_
        clear HY_
        clear hb_ hd_
        show wpL _ _ _ _ _ _ _ [0,1,2,3,4,5,6,7,8] _ _
        repeat (first | (refine fl_loadb rfl (by decide) (by first | exact wanted_none rfl | (go_simp; done) | fail) rfl row_tx HX.out.blk (by first | rfl | (go_simp; done) | rfl) HX.out.len (fun K hK => ?_); go_simp; refine hK _ ?_; clear hK K) | (refine fl_loadb rfl (by decide) (by first | exact wanted_none rfl | (go_simp; done) | fail) rfl row_tx HY.out.blk (by first | rfl | (go_simp; done) | rfl) HY.out.len (fun K hK => ?_); go_simp; refine hK _ ?_; clear hK K) | (refine fl_skip rfl (by first | (go_simp; done) | fail) (fun K hK => ?_); go_simp; refine hK _ ?_; clear hK K) | (refine fl_calm rfl (by decide) (by first | exact wanted_none rfl | (go_simp; done) | fail) (fun w_ _ _ => by first | (go_simp; rfl) | (go_simp; done) | rfl) (fun K hK => ?_); go_simp; refine hK _ ?_; clear hK K))
        refine fl_done ?_
        intro w2_ hg_ hL_
        replace HB := Lib.hid (HB.out.grow' hg_)
        replace HX := Lib.hid (HX.out.grow hg_)
        replace HY := Lib.hid (HY.out.grow hg_)
        clear hg_ hL_
        try clear w_
        rename World => w_
        go_wp2_with (first | (with_reducible refine wpl_loadb (o := ⟨_, .load _ _, _, _, _, _⟩) rfl rfl row_tx HX.out.blk rfl HX.out.len ?_) | (with_reducible refine wpl_loadw (o := ⟨_, .load _ _, _, _, _, _⟩) (by first | rfl | (go_simp; done) | fail) rfl row_tx HX.out.blk rfl HX.out.len ?_) | (with_reducible refine wpl_loadb (o := ⟨_, .load _ _, _, _, _, _⟩) rfl rfl row_tx HY.out.blk rfl HY.out.len ?_) | (with_reducible refine wpl_loadw (o := ⟨_, .load _ _, _, _, _, _⟩) (by first | rfl | (go_simp; done) | fail) rfl row_tx HY.out.blk rfl HY.out.len ?_))
        refine (HP1.out _ HB.out).mono ?_
        rintro e w2_ ⟨A5, c5, rfl, hs5, hc5, hb_⟩
        have HS5 := Lib.hid hs5
        clear hs5 hc5
        have hb_ := hb_
        clear hb_
        have HB_ := Lib.hid (HB.out.grow' hb_)
        clear HB
        have HB := HB_
        clear HB_
        have HX_ := Lib.hid (HX.out.grow hb_)
        clear HX
        have HX := HX_
        clear HX_
        have HY_ := Lib.hid (HY.out.grow hb_)
        clear HY
        have HY := HY_
        clear HY_
        clear hb_
        try clear w_
        rename World => w_
        go_wp2_with (first | (with_reducible refine wpl_loadb (o := ⟨_, .load _ _, _, _, _, _⟩) rfl rfl row_tx HX.out.blk rfl HX.out.len ?_) | (with_reducible refine wpl_loadw (o := ⟨_, .load _ _, _, _, _, _⟩) (by first | rfl | (go_simp; done) | fail) rfl row_tx HX.out.blk rfl HX.out.len ?_) | (with_reducible refine wpl_loadb (o := ⟨_, .load _ _, _, _, _, _⟩) rfl rfl row_tx HY.out.blk rfl HY.out.len ?_) | (with_reducible refine wpl_loadw (o := ⟨_, .load _ _, _, _, _, _⟩) (by first | rfl | (go_simp; done) | fail) rfl row_tx HY.out.blk rfl HY.out.len ?_))
        refine (HP2.out _ HB.out).mono ?_
        rintro e w2_ ⟨A6, c6, rfl, hs6, hc6, hb_⟩
        have HS6 := Lib.hid hs6
        have HS5_ := Lib.hid (HS5.out.grow hb_)
        clear hs6 hc6 HS5
        have hb_ := hb_
        clear hb_
        have HB_ := Lib.hid (HB.out.grow' hb_)
        clear HB
        have HB := HB_
        clear HB_
        have HX_ := Lib.hid (HX.out.grow hb_)
        clear HX
        have HX := HX_
        clear HX_
        have HY_ := Lib.hid (HY.out.grow hb_)
        clear HY
        have HY := HY_
        clear HY_
        clear hb_
        try clear w_
        rename World => w_
        have HSB := Lib.hid (fun w h1 h2 => bytes1_any (A := A5) (n := la) (c := c5) (A2 := A6) (n2 := lb) (c2 := c6) (xs := xa) (ys := xb) hsm w h1 h2 (HLA.out (by first | trivial | rfl)))
        clear hsm
        try go_wp2_with fail
        repeat' (first | (with_reducible refine wp_flow (id := 12) [0,0,3,0,15,31,63,127,63,511,1023,63,4095,8191,16383,32767,65535,131071] [0,0,3,0,0,0,0,3,0,3,0,0,0,0,0,3,0,0] (fun i => match i with | 2 => spV (.bool true) | 7 => spV (.agg za.toArray) | 9 => spV (.agg zb.toArray) | 15 => spV (.bool true) | _ => spV undef) (by kernel_rfl) (by kernel_rfl) ?_) | go_values | go_skip | go_guarded | go_step | go_upon | go_back)
        intro w_ hd_
        have hb_ := hd_.grow
        have HB_ := Lib.hid (HB.out.grow' hb_)
        clear HB
        have HB := HB_
        clear HB_
        have HX_ := Lib.hid (HX.out.grow hb_)
        clear HX
        have HX := HX_
        clear HX_
        have HY_ := Lib.hid (HY.out.grow hb_)
        clear HY
        have HY := HY_
        clear HY_
        have HS5__ := Lib.hid (HS5_.out.grow hb_)
        clear HS5_
        have HS5_ := HS5__
        clear HS5__
        have HS6_ := Lib.hid (HS6.out.grow hb_)
        clear HS6
        have HS6 := HS6_
        clear HS6_
        clear hb_ hd_
        show wpL _ _ _ _ _ _ _ [0,1,2,3,4,5,6,7,8,9,10,11,12,13,14,15,16,17] _ _
        repeat (first | (refine fl_loadb rfl (by decide) (by first | exact wanted_none rfl | (go_simp; done) | fail) rfl row_tx HX.out.blk (by first | rfl | (go_simp; done) | rfl) HX.out.len (fun K hK => ?_); go_simp; refine hK _ ?_; clear hK K) | (refine fl_loadb rfl (by decide) (by first | exact wanted_none rfl | (go_simp; done) | fail) rfl row_tx HY.out.blk (by first | rfl | (go_simp; done) | rfl) HY.out.len (fun K hK => ?_); go_simp; refine hK _ ?_; clear hK K) | (refine fl_skip rfl (by first | (go_simp; done) | fail) (fun K hK => ?_); go_simp; refine hK _ ?_; clear hK K) | (refine fl_calm rfl (by decide) (by first | exact wanted_none rfl | (go_simp; done) | fail) (fun w_ _ _ => by first | (go_simp; rfl) | (go_simp; done) | rfl) (fun K hK => ?_); go_simp; refine hK _ ?_; clear hK K))
        refine fl_callv rfl (by kernel_rfl) rfl (by first | exact wanted_none rfl | (go_simp; done) | fail) (fun w_ => by first | (go_simp; exact ⟨rfl, rfl⟩) | (go_simp; rfl) | (go_simp; exact ⟨⟨rfl, rfl, rfl⟩, rfl⟩)) (fun w2_ hg_ hL_ => ?_) (fun K hK => ?_)
        · skip
          replace HS5_ := Lib.hid (HS5_.out.grow hg_)
          replace HS6 := Lib.hid (HS6.out.grow hg_)
          exact HSB.out _ HS5_.out HS6.out
        go_simp
        refine hK _ ?_
        clear hK K
        repeat (first | (refine fl_loadb rfl (by decide) (by first | exact wanted_none rfl | (go_simp; done) | fail) rfl row_tx HX.out.blk (by first | rfl | (go_simp; done) | rfl) HX.out.len (fun K hK => ?_); go_simp; refine hK _ ?_; clear hK K) | (refine fl_loadb rfl (by decide) (by first | exact wanted_none rfl | (go_simp; done) | fail) rfl row_tx HY.out.blk (by first | rfl | (go_simp; done) | rfl) HY.out.len (fun K hK => ?_); go_simp; refine hK _ ?_; clear hK K) | (refine fl_skip rfl (by first | (go_simp; done) | fail) (fun K hK => ?_); go_simp; refine hK _ ?_; clear hK K) | (refine fl_calm rfl (by decide) (by first | exact wanted_none rfl | (go_simp; done) | fail) (fun w_ _ _ => by first | (go_simp; rfl) | (go_simp; done) | rfl) (fun K hK => ?_); go_simp; refine hK _ ?_; clear hK K))
        refine fl_callv rfl (by kernel_rfl) rfl (by first | exact wanted_none rfl | (go_simp; done) | fail) (fun w_ => by first | (go_simp; exact ⟨rfl, rfl⟩) | (go_simp; rfl) | (go_simp; exact ⟨⟨rfl, rfl, rfl⟩, rfl⟩)) (fun w2_ hg_ hL_ => ?_) (fun K hK => ?_)
        · skip
          replace HB := Lib.hid (HB.out.grow' hg_)
          exact (HI1.out _ HB.out)
        go_simp
        refine hK _ ?_
        clear hK K
        repeat (first | (refine fl_loadb rfl (by decide) (by first | exact wanted_none rfl | (go_simp; done) | fail) rfl row_tx HX.out.blk (by first | rfl | (go_simp; done) | rfl) HX.out.len (fun K hK => ?_); go_simp; refine hK _ ?_; clear hK K) | (refine fl_loadb rfl (by decide) (by first | exact wanted_none rfl | (go_simp; done) | fail) rfl row_tx HY.out.blk (by first | rfl | (go_simp; done) | rfl) HY.out.len (fun K hK => ?_); go_simp; refine hK _ ?_; clear hK K) | (refine fl_skip rfl (by first | (go_simp; done) | fail) (fun K hK => ?_); go_simp; refine hK _ ?_; clear hK K) | (refine fl_calm rfl (by decide) (by first | exact wanted_none rfl | (go_simp; done) | fail) (fun w_ _ _ => by first | (go_simp; rfl) | (go_simp; done) | rfl) (fun K hK => ?_); go_simp; refine hK _ ?_; clear hK K))
        refine fl_callv rfl (by kernel_rfl) rfl (by first | exact wanted_none rfl | (go_simp; done) | fail) (fun w_ => by first | (go_simp; exact ⟨rfl, rfl⟩) | (go_simp; rfl) | (go_simp; exact ⟨⟨rfl, rfl, rfl⟩, rfl⟩)) (fun w2_ hg_ hL_ => ?_) (fun K hK => ?_)
        · skip
          replace HB := Lib.hid (HB.out.grow' hg_)
          exact (HI2.out _ HB.out)
        go_simp
        refine hK _ ?_
        clear hK K
        repeat (first | (refine fl_loadb rfl (by decide) (by first | exact wanted_none rfl | (go_simp; done) | fail) rfl row_tx HX.out.blk (by first | rfl | (go_simp; done) | rfl) HX.out.len (fun K hK => ?_); go_simp; refine hK _ ?_; clear hK K) | (refine fl_loadb rfl (by decide) (by first | exact wanted_none rfl | (go_simp; done) | fail) rfl row_tx HY.out.blk (by first | rfl | (go_simp; done) | rfl) HY.out.len (fun K hK => ?_); go_simp; refine hK _ ?_; clear hK K) | (refine fl_skip rfl (by first | (go_simp; done) | fail) (fun K hK => ?_); go_simp; refine hK _ ?_; clear hK K) | (refine fl_calm rfl (by decide) (by first | exact wanted_none rfl | (go_simp; done) | fail) (fun w_ _ _ => by first | (go_simp; rfl) | (go_simp; done) | rfl) (fun K hK => ?_); go_simp; refine hK _ ?_; clear hK K))
        refine fl_callv rfl (by kernel_rfl) rfl (by first | exact wanted_none rfl | (go_simp; done) | fail) (fun w_ => by first | (go_simp; exact ⟨rfl, rfl⟩) | (go_simp; rfl) | (go_simp; exact ⟨⟨rfl, rfl, rfl⟩, rfl⟩)) (fun w2_ hg_ hL_ => ?_) (fun K hK => ?_)
        · skip
          exact awake7_any _
        go_simp
        refine hK _ ?_
        clear hK K
        repeat (first | (refine fl_loadb rfl (by decide) (by first | exact wanted_none rfl | (go_simp; done) | fail) rfl row_tx HX.out.blk (by first | rfl | (go_simp; done) | rfl) HX.out.len (fun K hK => ?_); go_simp; refine hK _ ?_; clear hK K) | (refine fl_loadb rfl (by decide) (by first | exact wanted_none rfl | (go_simp; done) | fail) rfl row_tx HY.out.blk (by first | rfl | (go_simp; done) | rfl) HY.out.len (fun K hK => ?_); go_simp; refine hK _ ?_; clear hK K) | (refine fl_skip rfl (by first | (go_simp; done) | fail) (fun K hK => ?_); go_simp; refine hK _ ?_; clear hK K) | (refine fl_calm rfl (by decide) (by first | exact wanted_none rfl | (go_simp; done) | fail) (fun w_ _ _ => by first | (go_simp; rfl) | (go_simp; done) | rfl) (fun K hK => ?_); go_simp; refine hK _ ?_; clear hK K))
        refine fl_done ?_
        intro w2_ hg_ hL_
        replace HB := Lib.hid (HB.out.grow' hg_)
        replace HX := Lib.hid (HX.out.grow hg_)
        replace HY := Lib.hid (HY.out.grow hg_)
        clear hg_ hL_
        try clear w_
        rename World => w_
        go_wp2_with fail
        go_ret
        exact ⟨rfl, HB.out⟩
      · have z1 : (cb != 0) = true := by simp [hc2]
        have z2 : (cb == 0) = false := by simp [hc2]
        have z3 : decide (cb = 0) = false := by simp [hc2]
        go_wp2_with fail
        refine (awake7_any _).mono ?_
        rintro e w_ ⟨rfl, hb_⟩
        have HB_ := Lib.hid (HB.out.grow' hb_)
        clear HB
        have HB := HB_
        clear HB_
        clear hb_
        go_wp2_with fail
        go_ret
        exact ⟨rfl, HB.out⟩
    · have z1 : (ca != 0) = true := by simp [hc1]
      have z2 : (ca == 0) = false := by simp [hc1]
      have z3 : decide (ca = 0) = false := by simp [hc1]
      go_wp2_with fail
      refine (awake7_any _).mono ?_
      rintro e w_ ⟨rfl, hb_⟩
      have HB_ := Lib.hid (HB.out.grow' hb_)
      clear HB
      have HB := HB_
      clear HB_
      clear hb_
      go_wp2_with fail
      go_ret
      exact ⟨rfl, HB.out⟩
  | false =>
    go_wp2_with (first | (with_reducible refine wpl_loadb (o := ⟨_, .load _ _, _, _, _, _⟩) rfl rfl row_tx HX.out.blk rfl HX.out.len ?_) | (with_reducible refine wpl_loadw (o := ⟨_, .load _ _, _, _, _, _⟩) (by first | rfl | (go_simp; done) | fail) rfl row_tx HX.out.blk rfl HX.out.len ?_) | (with_reducible refine wpl_loadb (o := ⟨_, .load _ _, _, _, _, _⟩) rfl rfl row_tx HY.out.blk rfl HY.out.len ?_) | (with_reducible refine wpl_loadw (o := ⟨_, .load _ _, _, _, _, _⟩) (by first | rfl | (go_simp; done) | fail) rfl row_tx HY.out.blk rfl HY.out.len ?_))
    refine (HS2.out _ HB.out).mono ?_
    rintro e w_ ⟨rfl, hb_⟩
    have HB_ := Lib.hid (HB.out.grow' hb_)
    clear HB
    have HB := HB_
    clear HB_
    have HX_ := Lib.hid (HX.out.grow hb_)
    clear HX
    have HX := HX_
    clear HX_
    have HY_ := Lib.hid (HY.out.grow hb_)
    clear HY
    have HY := HY_
    clear HY_
    clear hb_
    go_wp2_with (first | (with_reducible refine wpl_loadb (o := ⟨_, .load _ _, _, _, _, _⟩) rfl rfl row_tx HX.out.blk rfl HX.out.len ?_) | (with_reducible refine wpl_loadw (o := ⟨_, .load _ _, _, _, _, _⟩) (by first | rfl | (go_simp; done) | fail) rfl row_tx HX.out.blk rfl HX.out.len ?_) | (with_reducible refine wpl_loadb (o := ⟨_, .load _ _, _, _, _, _⟩) rfl rfl row_tx HY.out.blk rfl HY.out.len ?_) | (with_reducible refine wpl_loadw (o := ⟨_, .load _ _, _, _, _, _⟩) (by first | rfl | (go_simp; done) | fail) rfl row_tx HY.out.blk rfl HY.out.len ?_))
    refine (HS3.out _ HB.out).mono ?_
    rintro e w_ ⟨rfl, hb_⟩
    have HB_ := Lib.hid (HB.out.grow' hb_)
    clear HB
    have HB := HB_
    clear HB_
    have HX_ := Lib.hid (HX.out.grow hb_)
    clear HX
    have HX := HX_
    clear HX_
    have HY_ := Lib.hid (HY.out.grow hb_)
    clear HY
    have HY := HY_
    clear HY_
    clear hb_
    go_wp2_with (first | (with_reducible refine wpl_loadb (o := ⟨_, .load _ _, _, _, _, _⟩) rfl rfl row_tx HX.out.blk rfl HX.out.len ?_) | (with_reducible refine wpl_loadw (o := ⟨_, .load _ _, _, _, _, _⟩) (by first | rfl | (go_simp; done) | fail) rfl row_tx HX.out.blk rfl HX.out.len ?_) | (with_reducible refine wpl_loadb (o := ⟨_, .load _ _, _, _, _, _⟩) rfl rfl row_tx HY.out.blk rfl HY.out.len ?_) | (with_reducible refine wpl_loadw (o := ⟨_, .load _ _, _, _, _, _⟩) (by first | rfl | (go_simp; done) | fail) rfl row_tx HY.out.blk rfl HY.out.len ?_))
    refine (HK1.out _ HB.out).mono ?_
    rintro e w_ ⟨rfl, hb_⟩
    have HB_ := Lib.hid (HB.out.grow' hb_)
    clear HB
    have HB := HB_
    clear HB_
    have HX_ := Lib.hid (HX.out.grow hb_)
    clear HX
    have HX := HX_
    clear HX_
    have HY_ := Lib.hid (HY.out.grow hb_)
    clear HY
    have HY := HY_
    clear HY_
    clear hb_
    by_cases hc1 : ca = 0
    · subst hc1
      go_wp2_with (first | (with_reducible refine wpl_loadb (o := ⟨_, .load _ _, _, _, _, _⟩) rfl rfl row_tx HX.out.blk rfl HX.out.len ?_) | (with_reducible refine wpl_loadw (o := ⟨_, .load _ _, _, _, _, _⟩) (by first | rfl | (go_simp; done) | fail) rfl row_tx HX.out.blk rfl HX.out.len ?_) | (with_reducible refine wpl_loadb (o := ⟨_, .load _ _, _, _, _, _⟩) rfl rfl row_tx HY.out.blk rfl HY.out.len ?_) | (with_reducible refine wpl_loadw (o := ⟨_, .load _ _, _, _, _, _⟩) (by first | rfl | (go_simp; done) | fail) rfl row_tx HY.out.blk rfl HY.out.len ?_))
      refine (HK2.out _ HB.out).mono ?_
      rintro e w_ ⟨rfl, hb_⟩
      have HB_ := Lib.hid (HB.out.grow' hb_)
      clear HB
      have HB := HB_
      clear HB_
      have HX_ := Lib.hid (HX.out.grow hb_)
      clear HX
      have HX := HX_
      clear HX_
      have HY_ := Lib.hid (HY.out.grow hb_)
      clear HY
      have HY := HY_
      clear HY_
      clear hb_
      by_cases hc2 : cb = 0
      · subst hc2
        have HRI1 := Lib.hid (HR1_.out (by first | trivial | rfl)); have HRI2 := Lib.hid (HR2_.out (by first | trivial | rfl))
        have HSF := Lib.hid (HSN.out (by first | trivial | rfl) (by first | trivial | rfl) (by first | trivial | rfl))
        cases dd with
        | true =>
          try go_wp2_with fail
          repeat' (first | (with_reducible refine wp_flow (id := 8) [0,1,3,7,15,7,63,127,255] [0,0,0,0,3,0,3,0,0] (fun i => match i with | 4 => spV (.agg za.toArray) | 6 => spV (.agg zb.toArray) | _ => spV undef) (by kernel_rfl) (by kernel_rfl) ?_) | go_values | go_skip | go_guarded | go_step | go_upon | go_back)
          intro w_ hd_
          have hb_ := hd_.grow
          have HB_ := Lib.hid (HB.out.grow' hb_)
          clear HB
          have HB := HB_
          clear HB_
          have HX_ := Lib.hid (HX.out.grow hb_)
          clear HX
          have HX := HX_
          clear HX_
          have HY_ := Lib.hid (HY.out.grow hb_)
          clear HY
          have HY := HY_
          clear HY_
          clear hb_ hd_
          show wpL _ _ _ _ _ _ _ [0,1,2,3,4,5,6,7,8] _ _
          repeat (first | (refine fl_loadb rfl (by decide) (by first | exact wanted_none rfl | (go_simp; done) | fail) rfl row_tx HX.out.blk (by first | rfl | (go_simp; done) | rfl) HX.out.len (fun K hK => ?_); go_simp; refine hK _ ?_; clear hK K) | (refine fl_loadb rfl (by decide) (by first | exact wanted_none rfl | (go_simp; done) | fail) rfl row_tx HY.out.blk (by first | rfl | (go_simp; done) | rfl) HY.out.len (fun K hK => ?_); go_simp; refine hK _ ?_; clear hK K) | (refine fl_skip rfl (by first | (go_simp; done) | fail) (fun K hK => ?_); go_simp; refine hK _ ?_; clear hK K) | (refine fl_calm rfl (by decide) (by first | exact wanted_none rfl | (go_simp; done) | fail) (fun w_ _ _ => by first | (go_simp; rfl) | (go_simp; done) | rfl) (fun K hK => ?_); go_simp; refine hK _ ?_; clear hK K))
          refine fl_callv rfl (by kernel_rfl) rfl (by first | exact wanted_none rfl | (go_simp; done) | fail) (fun w_ => by first | (go_simp; exact ⟨rfl, rfl⟩) | (go_simp; rfl) | (go_simp; exact ⟨⟨rfl, rfl, rfl⟩, rfl⟩)) (fun w2_ hg_ hL_ => ?_) (fun K hK => ?_)
          · skip
            replace HB := Lib.hid (HB.out.grow' hg_)
            exact (HRI1.out _ HB.out)
          go_simp
          refine hK _ ?_
          clear hK K
          repeat (first | (refine fl_loadb rfl (by decide) (by first | exact wanted_none rfl | (go_simp; done) | fail) rfl row_tx HX.out.blk (by first | rfl | (go_simp; done) | rfl) HX.out.len (fun K hK => ?_); go_simp; refine hK _ ?_; clear hK K) | (refine fl_loadb rfl (by decide) (by first | exact wanted_none rfl | (go_simp; done) | fail) rfl row_tx HY.out.blk (by first | rfl | (go_simp; done) | rfl) HY.out.len (fun K hK => ?_); go_simp; refine hK _ ?_; clear hK K) | (refine fl_skip rfl (by first | (go_simp; done) | fail) (fun K hK => ?_); go_simp; refine hK _ ?_; clear hK K) | (refine fl_calm rfl (by decide) (by first | exact wanted_none rfl | (go_simp; done) | fail) (fun w_ _ _ => by first | (go_simp; rfl) | (go_simp; done) | rfl) (fun K hK => ?_); go_simp; refine hK _ ?_; clear hK K))
          refine fl_callv rfl (by kernel_rfl) rfl (by first | exact wanted_none rfl | (go_simp; done) | fail) (fun w_ => by first | (go_simp; exact ⟨rfl, rfl⟩) | (go_simp; rfl) | (go_simp; exact ⟨⟨rfl, rfl, rfl⟩, rfl⟩)) (fun w2_ hg_ hL_ => ?_) (fun K hK => ?_)
          · skip
            replace HB := Lib.hid (HB.out.grow' hg_)
            exact (HRI2.out _ HB.out)
          go_simp
          refine hK _ ?_
          clear hK K
          repeat (first | (refine fl_loadb rfl (by decide) (by first | exact wanted_none rfl | (go_simp; done) | fail) rfl row_tx HX.out.blk (by first | rfl | (go_simp; done) | rfl) HX.out.len (fun K hK => ?_); go_simp; refine hK _ ?_; clear hK K) | (refine fl_loadb rfl (by decide) (by first | exact wanted_none rfl | (go_simp; done) | fail) rfl row_tx HY.out.blk (by first | rfl | (go_simp; done) | rfl) HY.out.len (fun K hK => ?_); go_simp; refine hK _ ?_; clear hK K) | (refine fl_skip rfl (by first | (go_simp; done) | fail) (fun K hK => ?_); go_simp; refine hK _ ?_; clear hK K) | (refine fl_calm rfl (by decide) (by first | exact wanted_none rfl | (go_simp; done) | fail) (fun w_ _ _ => by first | (go_simp; rfl) | (go_simp; done) | rfl) (fun K hK => ?_); go_simp; refine hK _ ?_; clear hK K))
          refine fl_done ?_
          intro w2_ hg_ hL_
          replace HB := Lib.hid (HB.out.grow' hg_)
          replace HX := Lib.hid (HX.out.grow hg_)
          replace HY := Lib.hid (HY.out.grow hg_)
          clear hg_ hL_
          try clear w_
          rename World => w_
          go_wp2_with fail
          refine (awake7_any _).mono ?_
          rintro e w_ ⟨rfl, hb_⟩
          have HB_ := Lib.hid (HB.out.grow' hb_)
          clear HB
          have HB := HB_
          clear HB_
          clear hb_
          go_wp2_with fail
          go_ret
          exact ⟨rfl, HB.out⟩
        | false =>
          have hsm_ := HSF.out
          subst hsm_
          try go_wp2_with fail
          repeat' (first | (with_reducible refine wp_flow (id := 8) [0,1,3,7,15,7,63,127,255] [0,0,0,0,3,0,3,0,0] (fun i => match i with | 4 => spV (.agg za.toArray) | 6 => spV (.agg zb.toArray) | _ => spV undef) (by kernel_rfl) (by kernel_rfl) ?_) | go_values | go_skip | go_guarded | go_step | go_upon | go_back)
          intro w_ hd_
          have hb_ := hd_.grow
          have HB_ := Lib.hid (HB.out.grow' hb_)
          clear HB
          have HB := HB_
          clear HB_
          have HX_ := Lib.hid (HX.out.grow hb_)
          clear HX
          have HX := HX_
          clear HX_
          have HY_ := Lib.hid (HY.out.grow hb_)
          clear HY
          have HY := HY_
          clear HY_
          clear hb_ hd_
          show wpL _ _ _ _ _ _ _ [0,1,2,3,4,5,6,7,8] _ _
          repeat (first | (refine fl_loadb rfl (by decide) (by first | exact wanted_none rfl | (go_simp; done) | fail) rfl row_tx HX.out.blk (by first | rfl | (go_simp; done) | rfl) HX.out.len (fun K hK => ?_); go_simp; refine hK _ ?_; clear hK K) | (refine fl_loadb rfl (by decide) (by first | exact wanted_none rfl | (go_simp; done) | fail) rfl row_tx HY.out.blk (by first | rfl | (go_simp; done) | rfl) HY.out.len (fun K hK => ?_); go_simp; refine hK _ ?_; clear hK K) | (refine fl_skip rfl (by first | (go_simp; done) | fail) (fun K hK => ?_); go_simp; refine hK _ ?_; clear hK K) | (refine fl_calm rfl (by decide) (by first | exact wanted_none rfl | (go_simp; done) | fail) (fun w_ _ _ => by first | (go_simp; rfl) | (go_simp; done) | rfl) (fun K hK => ?_); go_simp; refine hK _ ?_; clear hK K))
          refine fl_callv rfl (by kernel_rfl) rfl (by first | exact wanted_none rfl | (go_simp; done) | fail) (fun w_ => by first | (go_simp; exact ⟨rfl, rfl⟩) | (go_simp; rfl) | (go_simp; exact ⟨⟨rfl, rfl, rfl⟩, rfl⟩)) (fun w2_ hg_ hL_ => ?_) (fun K hK => ?_)
          · skip
            replace HB := Lib.hid (HB.out.grow' hg_)
            exact (HRI1.out _ HB.out)
          go_simp
          refine hK _ ?_
          clear hK K
          repeat (first | (refine fl_loadb rfl (by decide) (by first | exact wanted_none rfl | (go_simp; done) | fail) rfl row_tx HX.out.blk (by first | rfl | (go_simp; done) | rfl) HX.out.len (fun K hK => ?_); go_simp; refine hK _ ?_; clear hK K) | (refine fl_loadb rfl (by decide) (by first | exact wanted_none rfl | (go_simp; done) | fail) rfl row_tx HY.out.blk (by first | rfl | (go_simp; done) | rfl) HY.out.len (fun K hK => ?_); go_simp; refine hK _ ?_; clear hK K) | (refine fl_skip rfl (by first | (go_simp; done) | fail) (fun K hK => ?_); go_simp; refine hK _ ?_; clear hK K) | (refine fl_calm rfl (by decide) (by first | exact wanted_none rfl | (go_simp; done) | fail) (fun w_ _ _ => by first | (go_simp; rfl) | (go_simp; done) | rfl) (fun K hK => ?_); go_simp; refine hK _ ?_; clear hK K))
          refine fl_callv rfl (by kernel_rfl) rfl (by first | exact wanted_none rfl | (go_simp; done) | fail) (fun w_ => by first | (go_simp; exact ⟨rfl, rfl⟩) | (go_simp; rfl) | (go_simp; exact ⟨⟨rfl, rfl, rfl⟩, rfl⟩)) (fun w2_ hg_ hL_ => ?_) (fun K hK => ?_)
          · skip
            replace HB := Lib.hid (HB.out.grow' hg_)
            exact (HRI2.out _ HB.out)
          go_simp
          refine hK _ ?_
          clear hK K
          repeat (first | (refine fl_loadb rfl (by decide) (by first | exact wanted_none rfl | (go_simp; done) | fail) rfl row_tx HX.out.blk (by first | rfl | (go_simp; done) | rfl) HX.out.len (fun K hK => ?_); go_simp; refine hK _ ?_; clear hK K) | (refine fl_loadb rfl (by decide) (by first | exact wanted_none rfl | (go_simp; done) | fail) rfl row_tx HY.out.blk (by first | rfl | (go_simp; done) | rfl) HY.out.len (fun K hK => ?_); go_simp; refine hK _ ?_; clear hK K) | (refine fl_skip rfl (by first | (go_simp; done) | fail) (fun K hK => ?_); go_simp; refine hK _ ?_; clear hK K) | (refine fl_calm rfl (by decide) (by first | exact wanted_none rfl | (go_simp; done) | fail) (fun w_ _ _ => by first | (go_simp; rfl) | (go_simp; done) | rfl) (fun K hK => ?_); go_simp; refine hK _ ?_; clear hK K))
          refine fl_done ?_
          intro w2_ hg_ hL_
          replace HB := Lib.hid (HB.out.grow' hg_)
          replace HX := Lib.hid (HX.out.grow hg_)
          replace HY := Lib.hid (HY.out.grow hg_)
          clear hg_ hL_
          try clear w_
          rename World => w_
          go_wp2_with (first | (with_reducible refine wpl_loadb (o := ⟨_, .load _ _, _, _, _, _⟩) rfl rfl row_tx HX.out.blk rfl HX.out.len ?_) | (with_reducible refine wpl_loadw (o := ⟨_, .load _ _, _, _, _, _⟩) (by first | rfl | (go_simp; done) | fail) rfl row_tx HX.out.blk rfl HX.out.len ?_) | (with_reducible refine wpl_loadb (o := ⟨_, .load _ _, _, _, _, _⟩) rfl rfl row_tx HY.out.blk rfl HY.out.len ?_) | (with_reducible refine wpl_loadw (o := ⟨_, .load _ _, _, _, _, _⟩) (by first | rfl | (go_simp; done) | fail) rfl row_tx HY.out.blk rfl HY.out.len ?_))
          refine (HP1.out _ HB.out).mono ?_
          rintro e w2_ ⟨A5, c5, rfl, hs5, hc5, hb_⟩
          have HS5 := Lib.hid hs5
          clear hs5 hc5
          have hb_ := hb_
          clear hb_
          have HB_ := Lib.hid (HB.out.grow' hb_)
          clear HB
          have HB := HB_
          clear HB_
          have HX_ := Lib.hid (HX.out.grow hb_)
          clear HX
          have HX := HX_
          clear HX_
          have HY_ := Lib.hid (HY.out.grow hb_)
          clear HY
          have HY := HY_
          clear HY_
          clear hb_
          try clear w_
          rename World => w_
          go_wp2_with (first | (with_reducible refine wpl_loadb (o := ⟨_, .load _ _, _, _, _, _⟩) rfl rfl row_tx HX.out.blk rfl HX.out.len ?_) | (with_reducible refine wpl_loadw (o := ⟨_, .load _ _, _, _, _, _⟩) (by first | rfl | (go_simp; done) | fail) rfl row_tx HX.out.blk rfl HX.out.len ?_) | (with_reducible refine wpl_loadb (o := ⟨_, .load _ _, _, _, _, _⟩) rfl rfl row_tx HY.out.blk rfl HY.out.len ?_) | (with_reducible refine wpl_loadw (o := ⟨_, .load _ _, _, _, _, _⟩) (by first | rfl | (go_simp; done) | fail) rfl row_tx HY.out.blk rfl HY.out.len ?_))
          refine (HP2.out _ HB.out).mono ?_
          rintro e w2_ ⟨A6, c6, rfl, hs6, hc6, hb_⟩
          have HS6 := Lib.hid hs6
          have HS5_ := Lib.hid (HS5.out.grow hb_)
          clear hs6 hc6 HS5
          have hb_ := hb_
          clear hb_
          have HB_ := Lib.hid (HB.out.grow' hb_)
          clear HB
          have HB := HB_
          clear HB_
          have HX_ := Lib.hid (HX.out.grow hb_)
          clear HX
          have HX := HX_
          clear HX_
          have HY_ := Lib.hid (HY.out.grow hb_)
          clear HY
          have HY := HY_
          clear HY_
          clear hb_
          try clear w_
          rename World => w_
          have HSB := Lib.hid (fun w h1 h2 => bytes1_any (A := A5) (n := la) (c := c5) (A2 := A6) (n2 := lb) (c2 := c6) (xs := xa) (ys := xb) hsm w h1 h2 (HLA.out (by first | trivial | rfl)))
          clear hsm
          try go_wp2_with fail
          repeat' (first | (with_reducible refine wp_flow (id := 12) [0,0,3,0,15,31,63,127,63,511,1023,63,4095,8191,16383,32767,65535,131071] [0,0,3,0,0,0,0,3,0,3,0,0,0,0,0,3,0,0] (fun i => match i with | 2 => spV (.bool false) | 7 => spV (.agg za.toArray) | 9 => spV (.agg zb.toArray) | 15 => spV (.bool true) | _ => spV undef) (by kernel_rfl) (by kernel_rfl) ?_) | go_values | go_skip | go_guarded | go_step | go_upon | go_back)
          intro w_ hd_
          have hb_ := hd_.grow
          have HB_ := Lib.hid (HB.out.grow' hb_)
          clear HB
          have HB := HB_
          clear HB_
          have HX_ := Lib.hid (HX.out.grow hb_)
          clear HX
          have HX := HX_
          clear HX_
          have HY_ := Lib.hid (HY.out.grow hb_)
          clear HY
          have HY := HY_
          clear HY_
          have HS5__ := Lib.hid (HS5_.out.grow hb_)
          clear HS5_
          have HS5_ := HS5__
          clear HS5__
          have HS6_ := Lib.hid (HS6.out.grow hb_)
          clear HS6
          have HS6 := HS6_
          clear HS6_
          clear hb_ hd_
          show wpL _ _ _ _ _ _ _ [0,1,2,3,4,5,6,7,8,9,10,11,12,13,14,15,16,17] _ _
          repeat (first | (refine fl_loadb rfl (by decide) (by first | exact wanted_none rfl | (go_simp; done) | fail) rfl row_tx HX.out.blk (by first | rfl | (go_simp; done) | rfl) HX.out.len (fun K hK => ?_); go_simp; refine hK _ ?_; clear hK K) | (refine fl_loadb rfl (by decide) (by first | exact wanted_none rfl | (go_simp; done) | fail) rfl row_tx HY.out.blk (by first | rfl | (go_simp; done) | rfl) HY.out.len (fun K hK => ?_); go_simp; refine hK _ ?_; clear hK K) | (refine fl_skip rfl (by first | (go_simp; done) | fail) (fun K hK => ?_); go_simp; refine hK _ ?_; clear hK K) | (refine fl_calm rfl (by decide) (by first | exact wanted_none rfl | (go_simp; done) | fail) (fun w_ _ _ => by first | (go_simp; rfl) | (go_simp; done) | rfl) (fun K hK => ?_); go_simp; refine hK _ ?_; clear hK K))
          refine fl_callv rfl (by kernel_rfl) rfl (by first | exact wanted_none rfl | (go_simp; done) | fail) (fun w_ => by first | (go_simp; exact ⟨rfl, rfl⟩) | (go_simp; rfl) | (go_simp; exact ⟨⟨rfl, rfl, rfl⟩, rfl⟩)) (fun w2_ hg_ hL_ => ?_) (fun K hK => ?_)
          · skip
            replace HS5_ := Lib.hid (HS5_.out.grow hg_)
            replace HS6 := Lib.hid (HS6.out.grow hg_)
            exact HSB.out _ HS5_.out HS6.out
          go_simp
          refine hK _ ?_
          clear hK K
          repeat (first | (refine fl_loadb rfl (by decide) (by first | exact wanted_none rfl | (go_simp; done) | fail) rfl row_tx HX.out.blk (by first | rfl | (go_simp; done) | rfl) HX.out.len (fun K hK => ?_); go_simp; refine hK _ ?_; clear hK K) | (refine fl_loadb rfl (by decide) (by first | exact wanted_none rfl | (go_simp; done) | fail) rfl row_tx HY.out.blk (by first | rfl | (go_simp; done) | rfl) HY.out.len (fun K hK => ?_); go_simp; refine hK _ ?_; clear hK K) | (refine fl_skip rfl (by first | (go_simp; done) | fail) (fun K hK => ?_); go_simp; refine hK _ ?_; clear hK K) | (refine fl_calm rfl (by decide) (by first | exact wanted_none rfl | (go_simp; done) | fail) (fun w_ _ _ => by first | (go_simp; rfl) | (go_simp; done) | rfl) (fun K hK => ?_); go_simp; refine hK _ ?_; clear hK K))
          refine fl_callv rfl (by kernel_rfl) rfl (by first | exact wanted_none rfl | (go_simp; done) | fail) (fun w_ => by first | (go_simp; exact ⟨rfl, rfl⟩) | (go_simp; rfl) | (go_simp; exact ⟨⟨rfl, rfl, rfl⟩, rfl⟩)) (fun w2_ hg_ hL_ => ?_) (fun K hK => ?_)
          · skip
            replace HB := Lib.hid (HB.out.grow' hg_)
            exact (HI1.out _ HB.out)
          go_simp
          refine hK _ ?_
          clear hK K
          repeat (first | (refine fl_loadb rfl (by decide) (by first | exact wanted_none rfl | (go_simp; done) | fail) rfl row_tx HX.out.blk (by first | rfl | (go_simp; done) | rfl) HX.out.len (fun K hK => ?_); go_simp; refine hK _ ?_; clear hK K) | (refine fl_loadb rfl (by decide) (by first | exact wanted_none rfl | (go_simp; done) | fail) rfl row_tx HY.out.blk (by first | rfl | (go_simp; done) | rfl) HY.out.len (fun K hK => ?_); go_simp; refine hK _ ?_; clear hK K) | (refine fl_skip rfl (by first | (go_simp; done) | fail) (fun K hK => ?_); go_simp; refine hK _ ?_; clear hK K) | (refine fl_calm rfl (by decide) (by first | exact wanted_none rfl | (go_simp; done) | fail) (fun w_ _ _ => by first | (go_simp; rfl) | (go_simp; done) | rfl) (fun K hK => ?_); go_simp; refine hK _ ?_; clear hK K))
          refine fl_callv rfl (by kernel_rfl) rfl (by first | exact wanted_none rfl | (go_simp; done) | fail) (fun w_ => by first | (go_simp; exact ⟨rfl, rfl⟩) | (go_simp; rfl) | (go_simp; exact ⟨⟨rfl, rfl, rfl⟩, rfl⟩)) (fun w2_ hg_ hL_ => ?_) (fun K hK => ?_)
          · skip
            replace HB := Lib.hid (HB.out.grow' hg_)
            exact (HI2.out _ HB.out)
          go_simp
          refine hK _ ?_
          clear hK K
          repeat (first | (refine fl_loadb rfl (by decide) (by first | exact wanted_none rfl | (go_simp; done) | fail) rfl row_tx HX.out.blk (by first | rfl | (go_simp; done) | rfl) HX.out.len (fun K hK => ?_); go_simp; refine hK _ ?_; clear hK K) | (refine fl_loadb rfl (by decide) (by first | exact wanted_none rfl | (go_simp; done) | fail) rfl row_tx HY.out.blk (by first | rfl | (go_simp; done) | rfl) HY.out.len (fun K hK => ?_); go_simp; refine hK _ ?_; clear hK K) | (refine fl_skip rfl (by first | (go_simp; done) | fail) (fun K hK => ?_); go_simp; refine hK _ ?_; clear hK K) | (refine fl_calm rfl (by decide) (by first | exact wanted_none rfl | (go_simp; done) | fail) (fun w_ _ _ => by first | (go_simp; rfl) | (go_simp; done) | rfl) (fun K hK => ?_); go_simp; refine hK _ ?_; clear hK K))
          refine fl_callv rfl (by kernel_rfl) rfl (by first | exact wanted_none rfl | (go_simp; done) | fail) (fun w_ => by first | (go_simp; exact ⟨rfl, rfl⟩) | (go_simp; rfl) | (go_simp; exact ⟨⟨rfl, rfl, rfl⟩, rfl⟩)) (fun w2_ hg_ hL_ => ?_) (fun K hK => ?_)
          · skip
            exact awake7_any _
          go_simp
          refine hK _ ?_
          clear hK K
          repeat (first | (refine fl_loadb rfl (by decide) (by first | exact wanted_none rfl | (go_simp; done) | fail) rfl row_tx HX.out.blk (by first | rfl | (go_simp; done) | rfl) HX.out.len (fun K hK => ?_); go_simp; refine hK _ ?_; clear hK K) | (refine fl_loadb rfl (by decide) (by first | exact wanted_none rfl | (go_simp; done) | fail) rfl row_tx HY.out.blk (by first | rfl | (go_simp; done) | rfl) HY.out.len (fun K hK => ?_); go_simp; refine hK _ ?_; clear hK K) | (refine fl_skip rfl (by first | (go_simp; done) | fail) (fun K hK => ?_); go_simp; refine hK _ ?_; clear hK K) | (refine fl_calm rfl (by decide) (by first | exact wanted_none rfl | (go_simp; done) | fail) (fun w_ _ _ => by first | (go_simp; rfl) | (go_simp; done) | rfl) (fun K hK => ?_); go_simp; refine hK _ ?_; clear hK K))
          refine fl_done ?_
          intro w2_ hg_ hL_
          replace HB := Lib.hid (HB.out.grow' hg_)
          replace HX := Lib.hid (HX.out.grow hg_)
          replace HY := Lib.hid (HY.out.grow hg_)
          clear hg_ hL_
          try clear w_
          rename World => w_
          go_wp2_with fail
          go_ret
          exact ⟨rfl, HB.out⟩
      · have z1 : (cb != 0) = true := by simp [hc2]
        have z2 : (cb == 0) = false := by simp [hc2]
        have z3 : decide (cb = 0) = false := by simp [hc2]
        go_wp2_with fail
        refine (awake7_any _).mono ?_
        rintro e w_ ⟨rfl, hb_⟩
        have HB_ := Lib.hid (HB.out.grow' hb_)
        clear HB
        have HB := HB_
        clear HB_
        clear hb_
        go_wp2_with fail
        go_ret
        exact ⟨rfl, HB.out⟩
    · have z1 : (ca != 0) = true := by simp [hc1]
      have z2 : (ca == 0) = false := by simp [hc1]
      have z3 : decide (ca = 0) = false := by simp [hc1]
      go_wp2_with fail
      refine (awake7_any _).mono ?_
      rintro e w_ ⟨rfl, hb_⟩
      have HB_ := Lib.hid (HB.out.grow' hb_)
      clear HB
      have HB := HB_
      clear HB_
      clear hb_
      go_wp2_with fail
      go_ret
      exact ⟨rfl, HB.out⟩
end Go.Proofs.YtphmefhnffoafaaDoor

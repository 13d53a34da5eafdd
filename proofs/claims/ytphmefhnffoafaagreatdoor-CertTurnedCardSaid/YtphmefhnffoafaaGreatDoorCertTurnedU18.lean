/- Layer 5: climbing; whether a path climbs to a root. -/
import Derived.Test.YtphmefhnffoafaaGreatDoorCertTurnedU17
import Derived.Test.YtphmefhnffoafaaGreatDoorCertTurnedU13
import Derived.Test.YtphmefhnffoafaaGreatDoorCertTurnedU15
import Derived.Test.YtphmefhnffoafaaGreatDoorCertTurnedU14
import Derived.Test.YtphmefhnffoafaaGreatDoorCertTurnedU6
set_option linter.unusedSimpArgs false
namespace Go.Proofs.YtphmefhnffoafaaGreatDoor
open Go.RowKit Go.Shelf
set_option linter.unusedVariables false
attribute [local irreducible] nodeB leafB
theorem zero_dig5 : Dig (List.replicate 32 (B 0)) (List.replicate 32 0) := ⟨by simp, by simp⟩
theorem ones0 : ∀ u ∈ List.replicate 32 (B 0), u.oneCell' = true := by intro u hu; rw [List.eq_of_mem_replicate hu]; rfl
def upPhi (d : List UInt8) (i k : Nat) (p : List (List UInt8)) (d' : List UInt8) : Prop := ∀ x, climbB d i k p = some x → d' = x
set_option maxRecDepth 100000 in
set_option maxHeartbeats 2000000 in
theorem climb_any : ∀ (M N i n c : Nat) (A : Option Addr) (ds : List (List UInt8)) (xs : List Value) (d : List UInt8) (w : World), N ≤ M → 1 ≤ N → i < N → N ≤ 1048576 → n ≤ 9223372036854775807 → Dig xs d → Ids w A n c ds → Tabs w →
  Calls Tryz.prog 88 #[.agg xs.toArray, .int .i64 i, .int .i64 N, .slice A n c] w fun e w' => ∃ zs d', e = .returned (.tuple #[.agg zs.toArray, .bool (climbB d i N ds).isSome]) ∧ Dig zs d' ∧ upPhi d i N ds d' ∧ Below w.heap.size w w' := by
 intro M
 induction M with
 | zero => intro N i n c A ds xs d w h1 h2; omega
 | succ M ih =>
  intro N i n c A ds xs d w hNM hN1 hiN hN hnm hx hi ht
  by_cases hz : N ≤ M
  ·exact ih N i n c A ds xs d w hz hN1 hiN hN hnm hx hi ht
  have hNe : N = M + 1 := by omega
  have HT := kp ht; have HI := kp hi; have HX := kp hx
  have HDL := kp hi.2.1
  have hnc : n ≤ c := hi.2.2.2
  have HB := kp (Below.refl w.heap.size w)
  have hrid := row_id
  have HRI := kp hrid
  clear hrid
  by_cases h1 : N = 1
  ·subst h1
   have hi0 : i = 0 := by omega
   clear ih ht hi hx hNe hz hNM
   by_cases hn : n = 0
   ·subst hn
    obtain rfl : ds = [] := List.eq_nil_of_length_eq_zero HDL.out
    have HC := kp (show climbB d i 1 [] = some d by rw [climbB_one _ _ _ _ (by omega)]; rfl)
    go_enter Tryz.func88, Tryz.ntmps88
    go_wp2_with (first | (with_reducible refine wpl_box (o := ⟨some 4, _, _, _, _, _⟩) rfl rfl rfl ?_))
    intro w2_ hb2_ hb_ hsz2_
    have HX_ := kp (at_mk hb2_ HX.out.len)
    clear hb2_ hsz2_
    replace HB := kp (HB.out.grow' hb_)
    have HV := HX_
    clear hb_ HX_
    try clear w_
    rename World => w_
    go_wp2_with (first | (with_reducible refine wpl_alloc (o := ⟨some 8, _, _, _, _, _⟩) rfl rfl zero_id ?_))
    intro w2_ hb2_ hb_ hsz2_
    have HX_ := kp (at_mk hb2_ len_id)
    clear hb2_ hsz2_
    have HG_ := kp HB.out.size
    replace HB := kp (HB.out.grow' hb_)
    replace HV := kp (HV.out.grow hb_)
    generalize hg_ : w_.heap.size = gr at HX_ HG_ ⊢
    clear hg_
    have HR_g := HG_
    clear HG_
    have HR := HX_
    clear hb_ HX_
    try clear w_
    rename World => w_
    have HG := HR_g
    go_wp2_with (first | (with_reducible refine wpl_loadb (o := ⟨some 19, _, _, _, _, _⟩) rfl rfl row_id HV.out.blk rfl HV.out.len ?_) | (with_reducible refine wpl_storeb (o := ⟨none, .store _ _ _, _, _, _, _⟩) rfl rfl row_id HR.out.blk rfl rfl HR.out.len HX.out.len HX.out.one ?_))
    intro w2_ hb2_ hg2_ hsz2_
    replace HB := kp (put_below HB.out HG.out hg2_)
    replace HR := kp (at_mk hb2_ HX.out.len)
    clear hb2_ hg2_ hsz2_
    try clear w_
    rename World => w_
    go_wp2_with fail
    exact ret_cell2 rfl HRI.out HR.out.blk rfl HR.out.len rfl rfl ⟨_, d, by rw [HC.out]; rfl, HX.out, fun x hx => by rw [HC.out] at hx; exact Option.some.inj hx, HB.out⟩
   ·have HC := kp (show climbB d i 1 ds = none by rw [climbB_one _ _ _ _ (by omega), if_neg]; intro h; rw [h] at HDL; exact hn HDL.out.symm)
    have z1 : ((n : Int) == 0) = false := by simp; omega
    have z3 : decide ((n : Int) = 0) = false := by simp; omega
    have z5 : (n == 0) = false := by simp; omega
    have z7 : decide (n = 0) = false := by simp; omega
    go_enter Tryz.func88, Tryz.ntmps88
    go_wp2_with (first | (with_reducible refine wpl_box (o := ⟨some 4, _, _, _, _, _⟩) rfl rfl rfl ?_))
    intro w2_ hb2_ hb_ hsz2_
    have HX_ := kp (at_mk hb2_ HX.out.len)
    clear hb2_ hsz2_
    replace HB := kp (HB.out.grow' hb_)
    have HV := HX_
    clear hb_ HX_
    try clear w_
    rename World => w_
    go_wp2_with (first | (with_reducible refine wpl_alloc (o := ⟨some 8, _, _, _, _, _⟩) rfl rfl zero_id ?_))
    intro w2_ hb2_ hb_ hsz2_
    have HX_ := kp (at_mk hb2_ len_id)
    clear hb2_ hsz2_
    have HG_ := kp HB.out.size
    replace HB := kp (HB.out.grow' hb_)
    replace HV := kp (HV.out.grow hb_)
    generalize hg_ : w_.heap.size = gr at HX_ HG_ ⊢
    clear hg_
    have HR_g := HG_
    clear HG_
    have HR := HX_
    clear hb_ HX_
    try clear w_
    rename World => w_
    have HG := HR_g
    go_wp2_with (first | (with_reducible refine wpl_loadb (o := ⟨some 19, _, _, _, _, _⟩) rfl rfl row_id HV.out.blk rfl HV.out.len ?_) | (with_reducible refine wpl_storeb (o := ⟨none, .store _ _ _, _, _, _, _⟩) rfl rfl row_id HR.out.blk rfl rfl HR.out.len HX.out.len HX.out.one ?_))
    intro w2_ hb2_ hg2_ hsz2_
    replace HB := kp (put_below HB.out HG.out hg2_)
    replace HR := kp (at_mk hb2_ HX.out.len)
    clear hb2_ hg2_ hsz2_
    try clear w_
    rename World => w_
    go_wp2_with fail
    exact ret_cell2 rfl HRI.out HR.out.blk rfl HR.out.len rfl rfl ⟨_, d, by rw [HC.out]; rfl, HX.out, (fun x hx => by rw [HC.out] at hx; cases hx), HB.out⟩
  ·have hN2 : 2 ≤ N := by omega
   have y1 : ((N : Int) == 1) = false := by simp; omega
   have y3 : decide ((N : Int) = 1) = false := by simp; omega
   have y5 : (N == 1) = false := by simp; omega
   have y7 : decide (N = 1) = false := by simp; omega
   by_cases hn : n = 0
   ·subst hn
    obtain rfl : ds = [] := List.eq_nil_of_length_eq_zero HDL.out
    have HC := kp (climbB_nil d i N hN2)
    clear ih ht hi hx hNe hz hNM
    go_enter Tryz.func88, Tryz.ntmps88
    go_wp2_with (first | (with_reducible refine wpl_box (o := ⟨some 4, _, _, _, _, _⟩) rfl rfl rfl ?_))
    intro w2_ hb2_ hb_ hsz2_
    have HX_ := kp (at_mk hb2_ HX.out.len)
    clear hb2_ hsz2_
    replace HB := kp (HB.out.grow' hb_)
    have HV := HX_
    clear hb_ HX_
    try clear w_
    rename World => w_
    go_wp2_with (first | (with_reducible refine wpl_alloc (o := ⟨some 8, _, _, _, _, _⟩) rfl rfl zero_id ?_))
    intro w2_ hb2_ hb_ hsz2_
    have HX_ := kp (at_mk hb2_ len_id)
    clear hb2_ hsz2_
    have HG_ := kp HB.out.size
    replace HB := kp (HB.out.grow' hb_)
    replace HV := kp (HV.out.grow hb_)
    generalize hg_ : w_.heap.size = gr at HX_ HG_ ⊢
    clear hg_
    have HR_g := HG_
    clear HG_
    have HR := HX_
    clear hb_ HX_
    try clear w_
    rename World => w_
    have HG := HR_g
    go_wp2_with (first | (refine wpl_storeb (o := ⟨none, .store _ _ _, _, _, _, _⟩) (cs := List.replicate 32 (B 0)) rfl rfl row_id HR.out.blk rfl rfl HR.out.len len_id ones0 ?_))
    intro w2_ hb2_ hg2_ hsz2_
    replace HB := kp (put_below HB.out HG.out hg2_)
    replace HR := kp (at_mk hb2_ len_id)
    clear hb2_ hg2_ hsz2_
    try clear w_
    rename World => w_
    go_wp2_with fail
    exact ret_cell2 rfl HRI.out HR.out.blk rfl HR.out.len rfl rfl ⟨_, _, by rw [HC.out]; rfl, zero_dig5, (fun x hx => by rw [HC.out] at hx; cases hx), HB.out⟩
   ·obtain ⟨l, hl⟩ : ∃ l, n = l + 1 := ⟨n - 1, by omega⟩
    obtain ⟨last, hlast⟩ : ∃ x, ds[l]? = some x := ⟨_, List.getElem?_eq_getElem (by rw [HDL.out]; omega)⟩
    have hl32 : last.length = 32 := hi.2.2.1 _ (List.mem_of_getElem? hlast)
    obtain ⟨k, hk⟩ : ∃ k, k = halfN N := ⟨_, rfl⟩
    have hk1 : 1 ≤ k := by rw [hk]; exact halfN_pos N
    have hk2 : k < N := by rw [hk]; exact halfN_lt hN2
    have hln : l ≤ n := by omega
    have hln2 : l < n := by omega
    have hq : (n : Int) - 1 = (l : Int) := by omega
    have hq2 : RowKit.wrap64 (l : Int) = (l : Int) := wrap64_in _ (by omega)
    have hkM : k ≤ M := by omega
    have hdM : N - k ≤ M := by omega
    have hN16 : N ≤ 16777216 := by omega
    have hgl : ds.getLast? = some last := by rw [List.getLast?_eq_getElem?, HDL.out, hl]; exact hlast
    have hdrop : ds.dropLast = ds.take l := by rw [List.dropLast_eq_take, HDL.out, hl]; rfl
    obtain ⟨ls, hls⟩ : ∃ ls, ls = last.map B := ⟨_, rfl⟩
    have HLD := kp (show Dig ls last from ⟨hls, hl32⟩)
    have HIL := kp (show Ids w A l c (ds.take l) from hi.take hln)
    have z1 : ((n : Int) == 0) = false := by simp; omega
    have z3 : decide ((n : Int) = 0) = false := by simp; omega
    have z5 : (n == 0) = false := by simp; omega
    have z7 : decide (n = 0) = false := by simp; omega
    have HIH := kp ih
    clear ih ht hi hx hNe hz hNM hls hl32 hl
    by_cases hik : i < k
    ·have g3 : decide ((i : Int) < (k : Int)) = true := by simp; omega
     have HC := kp (show climbB d i N ds = (climbB d i k (ds.take l)).map fun x => nodeB x last by rw [climbB_left _ _ _ _ last hN2 hgl (by rw [← hk]; exact hik), hdrop, ← hk])
     obtain ⟨ok, hok⟩ : ∃ ok, (climbB d i k (ds.take l)).isSome = ok := ⟨_, rfl⟩
     have HOK := kp (show (climbB d i N ds).isSome = ok by rw [HC.out, Option.isSome_map]; exact hok)
     have HOK1 := kp hok
     clear hgl hdrop hok
     go_enter Tryz.func88, Tryz.ntmps88
     go_wp2_with (first | (with_reducible refine wpl_box (o := ⟨some 4, _, _, _, _, _⟩) rfl rfl rfl ?_))
     intro w2_ hb2_ hb_ hsz2_
     have HX_ := kp (at_mk hb2_ HX.out.len)
     clear hb2_ hsz2_
     replace HB := kp (HB.out.grow' hb_)
     replace HT := kp (HT.out.grow hb_)
     replace HI := kp (HI.out.grow hb_)
     replace HIL := kp (HIL.out.grow hb_)
     have HV := HX_
     clear hb_ HX_
     try clear w_
     rename World => w_
     go_wp2_with (first | (with_reducible refine wpl_alloc (o := ⟨some 8, _, _, _, _, _⟩) rfl rfl zero_id ?_))
     intro w2_ hb2_ hb_ hsz2_
     have HX_ := kp (at_mk hb2_ len_id)
     clear hb2_ hsz2_
     have HG_ := kp HB.out.size
     replace HB := kp (HB.out.grow' hb_)
     replace HV := kp (HV.out.grow hb_)
     replace HT := kp (HT.out.grow hb_)
     replace HI := kp (HI.out.grow hb_)
     replace HIL := kp (HIL.out.grow hb_)
     generalize hg_ : w_.heap.size = gr at HX_ HG_ ⊢
     clear hg_
     have HR_g := HG_
     clear HG_
     have HR := HX_
     clear hb_ HX_
     try clear w_
     rename World => w_
     have HG := HR_g
     go_wp2_with fail
     refine cl6 hN2 hN16 hk hln2 hlast HLD HI (kp ?_)
     intros
     rename_i w6 g11 hb6 hx6
     have HV11 := kp hx6
     have hb_ := hb6
     clear hb6
     replace HB := kp (HB.out.grow' hb_)
     replace HV := kp (HV.out.grow hb_)
     replace HT := kp (HT.out.grow hb_)
     replace HIL := kp (HIL.out.grow hb_)
     replace HR := kp (HR.out.grow hb_)
     clear hb_
     try clear w_
     rename World => w_
     go_wp2_with fail
     refine cl8 (N := N) (phi := upPhi d i k (ds.take l)) (ok := ok) hln hnc HV (kp ?_) (kp ?_)
     ·intro w1 hb1
      rw [← HOK1.out]
      exact HIH.out k i l c A (ds.take l) xs d w1 hkM hk1 hik (by omega) (by omega) HX.out (HIL.out.grow hb1) (HT.out.grow hb1)
     ·intros
      rename_i w8 g13 zs d' hb8 hx8 hd8 hp8
      have HVX := kp hx8
      have HZ := kp hd8
      have HPHI := kp hp8
      clear hx8 hd8 hp8
      have hb_ := hb8
      clear hb8
      replace HB := kp (HB.out.grow' hb_)
      replace HV11 := kp (HV11.out.grow hb_)
      replace HT := kp (HT.out.grow hb_)
      replace HR := kp (HR.out.grow hb_)
      clear hb_
      try clear w_
      rename World => w_
      obtain ⟨rs, hrs⟩ : ∃ rs, rs = (nodeB d' last).map B := ⟨_, rfl⟩
      have HRS := kp (show Dig rs (nodeB d' last) from ⟨hrs, nodeB_len _ _⟩)
      clear hrs
      go_wp2_with (first | (with_reducible refine wpl_loadb (o := ⟨_, .load _ _, _, _, _, _⟩) rfl rfl row_id HVX.out.blk rfl HVX.out.len ?_) | (with_reducible refine wpl_loadw (o := ⟨_, .load _ _, _, _, _, _⟩) (by first | rfl | (go_simp; done) | fail) rfl row_id HVX.out.blk rfl HVX.out.len ?_) | (with_reducible refine wpl_loadb (o := ⟨_, .load _ _, _, _, _, _⟩) rfl rfl row_id HV11.out.blk rfl HV11.out.len ?_) | (with_reducible refine wpl_loadw (o := ⟨_, .load _ _, _, _, _, _⟩) (by first | rfl | (go_simp; done) | fail) rfl row_id HV11.out.blk rfl HV11.out.len ?_))
      refine (node_any HZ.out HLD.out HRS.out _ HT.out).mono ?_
      rintro e w_ ⟨rfl, hb_⟩
      replace HB := kp (HB.out.grow' hb_)
      replace HR := kp (HR.out.grow hb_)
      clear hb_
      go_wp2_with (first | (with_reducible refine wpl_storeb (o := ⟨none, .store _ _ _, _, _, _, _⟩) rfl rfl row_id HR.out.blk rfl rfl HR.out.len HRS.out.len HRS.out.one ?_))
      intro w2_ hb2_ hg2_ hsz2_
      replace HB := kp (put_below HB.out HG.out hg2_)
      replace HR := kp (at_mk hb2_ HRS.out.len)
      clear hb2_ hg2_ hsz2_
      try clear w_
      rename World => w_
      go_wp2_with fail
      exact ret_cell2 rfl HRI.out HR.out.blk rfl HR.out.len rfl rfl ⟨_, _, by rw [HOK.out]; rfl, HRS.out, fun x hx => by
       rw [HC.out] at hx
       obtain ⟨x', h1, h2⟩ := Option.map_eq_some_iff.1 hx
       rw [HPHI.out x' h1]; exact h2, HB.out⟩
    ·have g3 : decide ((i : Int) < (k : Int)) = false := by simp; omega
     have HC := kp (show climbB d i N ds = (climbB d (i - k) (N - k) (ds.take l)).map fun x => nodeB last x by rw [climbB_right _ _ _ _ last hN2 hgl (by rw [← hk]; exact hik), hdrop, ← hk])
     obtain ⟨ok, hok⟩ : ∃ ok, (climbB d (i - k) (N - k) (ds.take l)).isSome = ok := ⟨_, rfl⟩
     have HOK := kp (show (climbB d i N ds).isSome = ok by rw [HC.out, Option.isSome_map]; exact hok)
     have HOK1 := kp hok
     clear hgl hdrop hok
     go_enter Tryz.func88, Tryz.ntmps88
     go_wp2_with (first | (with_reducible refine wpl_box (o := ⟨some 4, _, _, _, _, _⟩) rfl rfl rfl ?_))
     intro w2_ hb2_ hb_ hsz2_
     have HX_ := kp (at_mk hb2_ HX.out.len)
     clear hb2_ hsz2_
     replace HB := kp (HB.out.grow' hb_)
     replace HT := kp (HT.out.grow hb_)
     replace HI := kp (HI.out.grow hb_)
     replace HIL := kp (HIL.out.grow hb_)
     have HV := HX_
     clear hb_ HX_
     try clear w_
     rename World => w_
     go_wp2_with (first | (with_reducible refine wpl_alloc (o := ⟨some 8, _, _, _, _, _⟩) rfl rfl zero_id ?_))
     intro w2_ hb2_ hb_ hsz2_
     have HX_ := kp (at_mk hb2_ len_id)
     clear hb2_ hsz2_
     have HG_ := kp HB.out.size
     replace HB := kp (HB.out.grow' hb_)
     replace HV := kp (HV.out.grow hb_)
     replace HT := kp (HT.out.grow hb_)
     replace HI := kp (HI.out.grow hb_)
     replace HIL := kp (HIL.out.grow hb_)
     generalize hg_ : w_.heap.size = gr at HX_ HG_ ⊢
     clear hg_
     have HR_g := HG_
     clear HG_
     have HR := HX_
     clear hb_ HX_
     try clear w_
     rename World => w_
     have HG := HR_g
     go_wp2_with fail
     refine cl6 hN2 hN16 hk hln2 hlast HLD HI (kp ?_)
     intros
     rename_i w6 g11 hb6 hx6
     have HV11 := kp hx6
     have hb_ := hb6
     clear hb6
     replace HB := kp (HB.out.grow' hb_)
     replace HV := kp (HV.out.grow hb_)
     replace HT := kp (HT.out.grow hb_)
     replace HIL := kp (HIL.out.grow hb_)
     replace HR := kp (HR.out.grow hb_)
     clear hb_
     try clear w_
     rename World => w_
     go_wp2_with fail
     refine cl10 (phi := upPhi d (i - k) (N - k) (ds.take l)) (ok := ok) hln hnc (by omega) hiN hN16 HV (kp ?_) (kp ?_)
     ·intro w1 hb1
      rw [← HOK1.out]
      exact by
       have h := HIH.out (N - k) (i - k) l c A (ds.take l) xs d w1 hdM (by omega) (by omega) (by omega) (by omega) HX.out (HIL.out.grow hb1) (HT.out.grow hb1)
       rw [show ((i - k : Nat) : Int) = (i : Int) - (k : Int) by omega, show ((N - k : Nat) : Int) = (N : Int) - (k : Int) by omega] at h
       exact h
     ·intros
      rename_i w8 g13 zs d' hb8 hx8 hd8 hp8
      have HVX := kp hx8
      have HZ := kp hd8
      have HPHI := kp hp8
      clear hx8 hd8 hp8
      have hb_ := hb8
      clear hb8
      replace HB := kp (HB.out.grow' hb_)
      replace HV11 := kp (HV11.out.grow hb_)
      replace HT := kp (HT.out.grow hb_)
      replace HR := kp (HR.out.grow hb_)
      clear hb_
      try clear w_
      rename World => w_
      obtain ⟨rs, hrs⟩ : ∃ rs, rs = (nodeB last d').map B := ⟨_, rfl⟩
      have HRS := kp (show Dig rs (nodeB last d') from ⟨hrs, nodeB_len _ _⟩)
      clear hrs
      go_wp2_with (first | (with_reducible refine wpl_loadb (o := ⟨_, .load _ _, _, _, _, _⟩) rfl rfl row_id HVX.out.blk rfl HVX.out.len ?_) | (with_reducible refine wpl_loadw (o := ⟨_, .load _ _, _, _, _, _⟩) (by first | rfl | (go_simp; done) | fail) rfl row_id HVX.out.blk rfl HVX.out.len ?_) | (with_reducible refine wpl_loadb (o := ⟨_, .load _ _, _, _, _, _⟩) rfl rfl row_id HV11.out.blk rfl HV11.out.len ?_) | (with_reducible refine wpl_loadw (o := ⟨_, .load _ _, _, _, _, _⟩) (by first | rfl | (go_simp; done) | fail) rfl row_id HV11.out.blk rfl HV11.out.len ?_))
      refine (node_any HLD.out HZ.out HRS.out _ HT.out).mono ?_
      rintro e w_ ⟨rfl, hb_⟩
      replace HB := kp (HB.out.grow' hb_)
      replace HR := kp (HR.out.grow hb_)
      clear hb_
      go_wp2_with (first | (with_reducible refine wpl_storeb (o := ⟨none, .store _ _ _, _, _, _, _⟩) rfl rfl row_id HR.out.blk rfl rfl HR.out.len HRS.out.len HRS.out.one ?_))
      intro w2_ hb2_ hg2_ hsz2_
      replace HB := kp (put_below HB.out HG.out hg2_)
      replace HR := kp (at_mk hb2_ HRS.out.len)
      clear hb2_ hg2_ hsz2_
      try clear w_
      rename World => w_
      go_wp2_with fail
      exact ret_cell2 rfl HRI.out HR.out.blk rfl HR.out.len rfl rfl ⟨_, _, by rw [HOK.out]; rfl, HRS.out, fun x hx => by
       rw [HC.out] at hx
       obtain ⟨x', h1, h2⟩ := Option.map_eq_some_iff.1 hx
       rw [HPHI.out x' h1]; exact h2, HB.out⟩
def climbT (b : List UInt8) (i n : Int) (p : List (List UInt8)) : Option (List UInt8) := if n < 1 ∨ 1048576 < n ∨ i < 0 ∨ n ≤ i then none else climbB (leafB b) i.toNat n.toNat p
theorem climbB_32 (d : List UInt8) (hd : d.length = 32) : ∀ (M n i : Nat) (p : List (List UInt8)) (x : List UInt8), n ≤ M → climbB d i n p = some x → x.length = 32 := by
 intro M
 induction M with
 | zero =>
  intro n i p x hn h
  rw [climbB_one _ _ _ _ (by omega)] at h
  split at h
  ·cases h; exact hd
  ·cases h
 | succ M ih =>
  intro n i p x hn h
  by_cases h2 : n < 2
  ·rw [climbB_one _ _ _ _ h2] at h
   split at h
   ·cases h; exact hd
   ·cases h
  ·cases hl : p.getLast? with
   | none => rw [climbB, dif_neg h2, hl] at h; cases h
   | some last =>
    by_cases hk : i < halfN n
    ·rw [climbB_left _ _ _ _ last (by omega) hl hk] at h
     obtain ⟨y, _, rfl⟩ := Option.map_eq_some_iff.1 h
     exact nodeB_len _ _
    ·rw [climbB_right _ _ _ _ last (by omega) hl hk] at h
     obtain ⟨y, _, rfl⟩ := Option.map_eq_some_iff.1 h
     exact nodeB_len _ _
theorem climbT_32 {b : List UInt8} {i n : Int} {p : List (List UInt8)} {x : List UInt8} (h : climbT b i n p = some x) : x.length = 32 := by
 unfold climbT at h
 split at h
 ·cases h
 ·exact climbB_32 _ (leafB_len b) _ _ _ _ _ (Nat.le_refl _) h
def climbD (b : List UInt8) (i n : Int) (p : List (List UInt8)) : List UInt8 := (climbT b i n p).getD (List.replicate 32 0)
theorem climbD_len (b : List UInt8) (i n : Int) (p : List (List UInt8)) : (climbD b i n p).length = 32 := by
 unfold climbD
 cases h : climbT b i n p with
 | none => simp
 | some x => simpa using climbT_32 h
set_option maxRecDepth 100000 in
set_option maxHeartbeats 2000000 in
theorem tclimb_any (A A2 : Option Addr) (n c n2 c2 : Nat) (b : List UInt8) (i N : Int) (ds : List (List UInt8)) {zs : List Value} (hz : Dig zs (climbD b i N ds)) (w : World) (hs : Sl w w.heap.size 1 A n (b.map B)) (hc : n ≤ c) (hn : n ≤ 1000000) (hi : Ids w A2 n2 c2 ds) (hn2 : n2 ≤ 9223372036854775807) (ht : Tabs w) :
  Calls Tryz.prog 62 #[.slice A n c, .int .i64 i, .int .i64 N, .slice A2 n2 c2] w fun e w' => e = .returned (.tuple #[.agg zs.toArray, .bool (climbT b i N ds).isSome]) ∧ Below w.heap.size w w' := by
 have HT := kp ht; have HS := kp hs; have HI := kp hi; have HZ := kp hz
 have HB := kp (Below.refl w.heap.size w)
 have hrid := row_id
 have HRI := kp hrid
 clear hrid ht hs hi hz
 by_cases hbad : N < 1 ∨ 1048576 < N ∨ i < 0 ∨ N ≤ i
 ·have HC := kp (show climbT b i N ds = none by unfold climbT; rw [if_pos hbad])
  have HZE := kp (show zs = List.replicate 32 (B 0) by have h := HZ.out.1; unfold climbD at h; rw [HC.out] at h; rw [h]; simp)
  have HG := kp (Nat.le_refl w.heap.size)
  by_cases c1 : N < 1
  ·have g1 : decide (N < 1) = true := by simpa using c1
   go_enter Tryz.func62, Tryz.ntmps62
   go_wp2_with (first | (with_reducible refine wpl_alloc (o := ⟨some 8, _, _, _, _, _⟩) rfl rfl zero_id ?_))
   intro w2_ hb2_ hb_ hsz2_
   have HX_ := kp (at_mk hb2_ len_id)
   clear hb2_ hsz2_
   replace HB := kp (HB.out.grow' hb_)
   have HR := HX_
   clear hb_ HX_
   try clear w_
   rename World => w_
   go_wp2_with (first | (refine wpl_storeb (o := ⟨none, .store _ _ _, _, _, _, _⟩) (cs := List.replicate 32 (B 0)) rfl rfl row_id HR.out.blk rfl rfl HR.out.len len_id ones0 ?_))
   intro w2_ hb2_ hg2_ hsz2_
   replace HB := kp (put_below HB.out HG.out hg2_)
   replace HR := kp (at_mk hb2_ len_id)
   clear hb2_ hg2_ hsz2_
   try clear w_
   rename World => w_
   go_wp2_with fail
   exact ret_cell2 rfl HRI.out HR.out.blk rfl HR.out.len rfl rfl ⟨by rw [HC.out, HZE.out]; rfl, HB.out⟩
  ·have g1 : decide (N < 1) = false := by simpa using c1
   by_cases c2 : 1048576 < N
   ·have g2 : decide (1048576 < N) = true := by simpa using c2
    go_enter Tryz.func62, Tryz.ntmps62
    go_wp2_with (first | (with_reducible refine wpl_alloc (o := ⟨some 8, _, _, _, _, _⟩) rfl rfl zero_id ?_))
    intro w2_ hb2_ hb_ hsz2_
    have HX_ := kp (at_mk hb2_ len_id)
    clear hb2_ hsz2_
    replace HB := kp (HB.out.grow' hb_)
    have HR := HX_
    clear hb_ HX_
    try clear w_
    rename World => w_
    go_wp2_with (first | (refine wpl_storeb (o := ⟨none, .store _ _ _, _, _, _, _⟩) (cs := List.replicate 32 (B 0)) rfl rfl row_id HR.out.blk rfl rfl HR.out.len len_id ones0 ?_))
    intro w2_ hb2_ hg2_ hsz2_
    replace HB := kp (put_below HB.out HG.out hg2_)
    replace HR := kp (at_mk hb2_ len_id)
    clear hb2_ hg2_ hsz2_
    try clear w_
    rename World => w_
    go_wp2_with fail
    exact ret_cell2 rfl HRI.out HR.out.blk rfl HR.out.len rfl rfl ⟨by rw [HC.out, HZE.out]; rfl, HB.out⟩
   ·have g2 : decide (1048576 < N) = false := by simpa using c2
    by_cases c3 : i < 0
    ·have g3 : decide (i < 0) = true := by simpa using c3
     go_enter Tryz.func62, Tryz.ntmps62
     go_wp2_with (first | (with_reducible refine wpl_alloc (o := ⟨some 8, _, _, _, _, _⟩) rfl rfl zero_id ?_))
     intro w2_ hb2_ hb_ hsz2_
     have HX_ := kp (at_mk hb2_ len_id)
     clear hb2_ hsz2_
     replace HB := kp (HB.out.grow' hb_)
     have HR := HX_
     clear hb_ HX_
     try clear w_
     rename World => w_
     go_wp2_with (first | (refine wpl_storeb (o := ⟨none, .store _ _ _, _, _, _, _⟩) (cs := List.replicate 32 (B 0)) rfl rfl row_id HR.out.blk rfl rfl HR.out.len len_id ones0 ?_))
     intro w2_ hb2_ hg2_ hsz2_
     replace HB := kp (put_below HB.out HG.out hg2_)
     replace HR := kp (at_mk hb2_ len_id)
     clear hb2_ hg2_ hsz2_
     try clear w_
     rename World => w_
     go_wp2_with fail
     exact ret_cell2 rfl HRI.out HR.out.blk rfl HR.out.len rfl rfl ⟨by rw [HC.out, HZE.out]; rfl, HB.out⟩
    ·have g3 : decide (i < 0) = false := by simpa using c3
     have g4 : decide (N ≤ i) = true := by simp; omega
     go_enter Tryz.func62, Tryz.ntmps62
     go_wp2_with (first | (with_reducible refine wpl_alloc (o := ⟨some 8, _, _, _, _, _⟩) rfl rfl zero_id ?_))
     intro w2_ hb2_ hb_ hsz2_
     have HX_ := kp (at_mk hb2_ len_id)
     clear hb2_ hsz2_
     replace HB := kp (HB.out.grow' hb_)
     have HR := HX_
     clear hb_ HX_
     try clear w_
     rename World => w_
     go_wp2_with (first | (refine wpl_storeb (o := ⟨none, .store _ _ _, _, _, _, _⟩) (cs := List.replicate 32 (B 0)) rfl rfl row_id HR.out.blk rfl rfl HR.out.len len_id ones0 ?_))
     intro w2_ hb2_ hg2_ hsz2_
     replace HB := kp (put_below HB.out HG.out hg2_)
     replace HR := kp (at_mk hb2_ len_id)
     clear hb2_ hg2_ hsz2_
     try clear w_
     rename World => w_
     go_wp2_with fail
     exact ret_cell2 rfl HRI.out HR.out.blk rfl HR.out.len rfl rfl ⟨by rw [HC.out, HZE.out]; rfl, HB.out⟩
 ·obtain ⟨Nn, rfl⟩ : ∃ m : Nat, N = (m : Int) := ⟨N.toNat, by omega⟩
  obtain ⟨j, rfl⟩ : ∃ m : Nat, i = (m : Int) := ⟨i.toNat, by omega⟩
  have HC := kp (show climbT b j Nn ds = climbB (leafB b) j Nn ds by unfold climbT; rw [if_neg hbad]; rfl)
  have g1 : decide ((Nn : Int) < 1) = false := by simp; omega
  have g2 : decide (1048576 < (Nn : Int)) = false := by simp; omega
  have g3 : decide ((j : Int) < 0) = false := by simp
  have g4 : decide ((Nn : Int) ≤ (j : Int)) = false := by simp; omega
  obtain ⟨ls, hls⟩ : ∃ v, Dig v (leafB b) := ⟨(leafB b).map B, rfl, leafB_len b⟩
  have HLS := kp hls
  have hN1 : 1 ≤ Nn := by omega
  have hjN : j < Nn := by omega
  have hNM : Nn ≤ 1048576 := by omega
  clear hbad hls
  obtain ⟨ok, hok⟩ : ∃ ok, (climbB (leafB b) j Nn ds).isSome = ok := ⟨_, rfl⟩
  have HOK := kp hok
  clear hok
  go_enter Tryz.func62, Tryz.ntmps62
  have HG := kp (Nat.le_refl w.heap.size)
  go_wp2_with (first | (with_reducible refine wpl_alloc (o := ⟨some 8, _, _, _, _, _⟩) rfl rfl zero_id ?_))
  intro w2_ hb2_ hb_ hsz2_
  have HX_ := kp (at_mk hb2_ len_id)
  clear hb2_ hsz2_
  replace HB := kp (HB.out.grow' hb_)
  replace HT := kp (HT.out.grow hb_)
  replace HS := kp (HS.out.grow hb_)
  replace HI := kp (HI.out.grow hb_)
  have HR := HX_
  clear hb_ HX_
  try clear w_
  rename World => w_
  go_wp2_with fail
  refine (leaf_any _ _ _ _ HLS.out _ HS.out hc hn HT.out).mono ?_
  rintro e w_ ⟨rfl, hb_⟩
  replace HB := kp (HB.out.grow' hb_)
  replace HR := kp (HR.out.grow hb_)
  replace HT := kp (HT.out.grow hb_)
  replace HI := kp (HI.out.grow hb_)
  clear hb_
  go_wp2_with fail
  refine (climb_any Nn Nn j n2 c2 A2 ds ls (leafB b) _ (Nat.le_refl _) hN1 hjN hNM hn2 HLS.out HI.out HT.out).mono ?_
  rintro e w2_ ⟨xs2, d', rfl, hx, hp, hb_⟩
  rw [HOK.out]
  have HX2 := kp hx
  have HP := kp hp
  clear hx hp
  have hb_ := hb_
  clear hb_
  replace HB := kp (HB.out.grow' hb_)
  replace HR := kp (HR.out.grow hb_)
  clear hb_
  try clear w_
  rename World => w_
  go_wp2_with (first | (with_reducible refine wpl_alloc (o := ⟨some 10, _, _, _, _, _⟩) rfl rfl zero_id ?_))
  intro w1_ hb1_ hbw1_ hsz1_
  have HB1_ := kp (at_mk hb1_ len_id)
  have HBW1_ := kp hbw1_
  have HZ1_ := kp hsz1_
  clear hb1_ hbw1_ hsz1_
  go_wp2_with (first | (with_reducible refine wpl_storeb (o := ⟨none, .store _ _ _, _, _, _, _⟩) rfl rfl row_id HB1_.out.blk rfl rfl HB1_.out.len HX2.out.len HX2.out.one ?_))
  intro w2_ hb2_ hg2_ hsz2_
  have hb_ := var_grow HBW1_.out HZ1_.out hg2_
  have HX_ := kp (at_mk hb2_ HX2.out.len)
  clear hb2_ hg2_ hsz2_ HB1_ HBW1_ HZ1_
  replace HB := kp (HB.out.grow' hb_)
  replace HR := kp (HR.out.grow hb_)
  generalize hg_ : w_.heap.size = gx at HX_ ⊢
  clear hg_
  have HVX := HX_
  clear hb_ HX_
  clear w1_
  try clear w_
  rename World => w_
  cases ok with
  | true =>
   obtain ⟨x, hx⟩ := Option.isSome_iff_exists.1 HOK.out
   have HE := kp (show xs2 = zs by rw [HX2.out.1, HZ.out.1, HP.out x hx]; unfold climbD; rw [HC.out, hx]; rfl)
   have HCX := kp hx
   clear hx
   go_wp2_with (first | (with_reducible refine wpl_loadb (o := ⟨some 40, _, _, _, _, _⟩) rfl rfl row_id HVX.out.blk rfl HVX.out.len ?_) | (with_reducible refine wpl_storeb (o := ⟨none, .store _ _ _, _, _, _, _⟩) rfl rfl row_id HR.out.blk rfl rfl HR.out.len HX2.out.len HX2.out.one ?_))
   intro w2_ hb2_ hg2_ hsz2_
   replace HB := kp (put_below HB.out HG.out hg2_)
   replace HR := kp (at_mk hb2_ HX2.out.len)
   clear hb2_ hg2_ hsz2_
   try clear w_
   rename World => w_
   go_wp2_with fail
   exact ret_cell2 rfl HRI.out HR.out.blk rfl HR.out.len rfl rfl ⟨by rw [HE.out, HC.out, HOK.out]; rfl, HB.out⟩
  | false =>
   have HN := kp (show climbB (leafB b) j Nn ds = none by have := HOK.out; simpa using this)
   have HZE := kp (show zs = List.replicate 32 (B 0) by have h := HZ.out.1; unfold climbD at h; rw [HC.out, HN.out] at h; rw [h]; simp)
   go_wp2_with (first | (refine wpl_storeb (o := ⟨none, .store _ _ _, _, _, _, _⟩) (cs := List.replicate 32 (B 0)) rfl rfl row_id HR.out.blk rfl rfl HR.out.len len_id ones0 ?_))
   intro w2_ hb2_ hg2_ hsz2_
   replace HB := kp (put_below HB.out HG.out hg2_)
   replace HR := kp (at_mk hb2_ len_id)
   clear hb2_ hg2_ hsz2_
   try clear w_
   rename World => w_
   go_wp2_with fail
   exact ret_cell2 rfl HRI.out HR.out.blk rfl HR.out.len rfl rfl ⟨by rw [HC.out, HN.out, HZE.out]; rfl, HB.out⟩
end Go.Proofs.YtphmefhnffoafaaGreatDoor
namespace Go.Proofs.YtphmefhnffoafaaGreatDoor
open Go.RowKit Go.Shelf
set_option linter.unusedVariables false
attribute [local irreducible] nodeB leafB noneB
set_option maxRecDepth 100000 in
set_option maxHeartbeats 1000000 in
theorem tis5_any {res : Bool} {A A2 : Option Addr} {n c n2 c2 : Nat} {b r : List UInt8} {i N : Int} {ds : List (List UInt8)} {rs : List Value} (hres : decide (climbT b i N ds = some r) = res) (hr : Dig rs r) (w : World) (hs : Sl w w.heap.size 1 A n (b.map B)) (hc : n ≤ c) (hn : n ≤ 1000000) (hi : Ids w A2 n2 c2 ds) (hn2 : n2 ≤ 9223372036854775807) (ht : Tabs w) :
  Calls Tryz.prog 28 #[.agg rs.toArray, .slice A n c, .int .i64 i, .int .i64 N, .slice A2 n2 c2] w fun e w' => e = .returned (.bool res) ∧ Below w.heap.size w w' := by
 have HT := kp ht; have HS := kp hs; have HI := kp hi; have HR := kp hr
 have HB := kp (Below.refl w.heap.size w)
 obtain ⟨zs, hz⟩ : ∃ v, Dig v (climbD b i N ds) := ⟨(climbD b i N ds).map B, rfl, climbD_len b i N ds⟩
 have HZ := kp hz
 have HRES := kp hres
 clear ht hs hi hr hz hres
 obtain ⟨ok, hok⟩ : ∃ ok, (climbT b i N ds).isSome = ok := ⟨_, rfl⟩
 have HOK := kp hok
 clear hok
 go_enter Tryz.func28, Tryz.ntmps28
 go_wp2_with (first | (with_reducible refine wpl_box (o := ⟨some 5, _, _, _, _, _⟩) rfl rfl rfl ?_))
 intro w2_ hb2_ hb_ hsz2_
 have HX_ := kp (at_mk hb2_ HR.out.len)
 clear hb2_ hsz2_
 replace HB := kp (HB.out.grow' hb_)
 replace HT := kp (HT.out.grow hb_)
 replace HS := kp (HS.out.grow hb_)
 replace HI := kp (HI.out.grow hb_)
 have HV := HX_
 clear hb_ HX_
 try clear w_
 rename World => w_
 go_wp2_with fail
 refine (tclimb_any _ _ _ _ _ _ b i N ds HZ.out _ HS.out hc hn HI.out hn2 HT.out).mono ?_
 rintro e w2_ ⟨rfl, hb_⟩
 rw [HOK.out]
 have hb_ := hb_
 clear hb_
 replace HB := kp (HB.out.grow' hb_)
 replace HV := kp (HV.out.grow hb_)
 clear hb_
 try clear w_
 rename World => w_
 go_wp2_with (first | (with_reducible refine wpl_alloc (o := ⟨some 11, _, _, _, _, _⟩) rfl rfl zero_id ?_))
 intro w1_ hb1_ hbw1_ hsz1_
 have HB1_ := kp (at_mk hb1_ len_id)
 have HBW1_ := kp hbw1_
 have HZ1_ := kp hsz1_
 clear hb1_ hbw1_ hsz1_
 go_wp2_with (first | (with_reducible refine wpl_storeb (o := ⟨none, .store _ _ _, _, _, _, _⟩) rfl rfl row_id HB1_.out.blk rfl rfl HB1_.out.len HZ.out.len HZ.out.one ?_))
 intro w2_ hb2_ hg2_ hsz2_
 have hb_ := var_grow HBW1_.out HZ1_.out hg2_
 have HX_ := kp (at_mk hb2_ HZ.out.len)
 clear hb2_ hg2_ hsz2_ HB1_ HBW1_ HZ1_
 replace HB := kp (HB.out.grow' hb_)
 replace HV := kp (HV.out.grow hb_)
 generalize hg_ : w_.heap.size = gx at HX_ ⊢
 clear hg_
 have HVX := HX_
 clear hb_ HX_
 clear w1_
 try clear w_
 rename World => w_
 cases ok with
 | true =>
  obtain ⟨x, hx⟩ := Option.isSome_iff_exists.1 HOK.out
  have HD := kp (show decide (climbD b i N ds = r) = res by rw [← HRES.out]; unfold climbD; rw [hx]; simp)
  clear hx
  go_wp2_with (first | (with_reducible refine wpl_loadb (o := ⟨_, .load _ _, _, _, _, _⟩) rfl rfl row_id HVX.out.blk rfl HVX.out.len ?_) | (with_reducible refine wpl_loadw (o := ⟨_, .load _ _, _, _, _, _⟩) (by first | rfl | (go_simp; done) | fail) rfl row_id HVX.out.blk rfl HVX.out.len ?_) | (with_reducible refine wpl_loadb (o := ⟨_, .load _ _, _, _, _, _⟩) rfl rfl row_id HV.out.blk rfl HV.out.len ?_) | (with_reducible refine wpl_loadw (o := ⟨_, .load _ _, _, _, _, _⟩) (by first | rfl | (go_simp; done) | fail) rfl row_id HV.out.blk rfl HV.out.len ?_))
  refine (same_dig HZ.out HR.out _).mono ?_
  rintro e w_ ⟨rfl, hb_⟩
  have HB_ := kp (HB.out.grow' hb_)
  rw [HD.out]
  go_wp2_with fail
  go_ret
  exact ⟨rfl, HB_.out⟩
 | false =>
  have HN := kp (show res = false by rw [← HRES.out]; have h : climbT b i N ds = none := by have := HOK.out; simpa using this
                                     rw [h]; simp)
  go_wp2_with fail
  go_ret
  exact ⟨by rw [HN.out]; rfl, HB.out⟩
theorem Ids.own {w : World} {base n c : Nat} {A : Option Addr} {ds : List (List UInt8)} (h : OwnI w base A n c ds) (hl : ds.length = n) (h32 : ∀ d ∈ ds, d.length = 32) (hc : n ≤ c) : Ids w A n c ds := ⟨Sl.of_own h, hl, h32, hc⟩
theorem own_cap {w : World} {base n c : Nat} {A : Option Addr} {ds : List (List UInt8)} (h : OwnI w base A n c ds) : n ≤ c := by
 rcases Nat.eq_zero_or_pos n with h0 | h0
 ·omega
 ·obtain ⟨_, _, _, _, h⟩ := own_form h h0; exact h
theorem Ids.none_ (w : World) : Ids w none 0 0 [] := ⟨Sl.nil, rfl, by simp, Nat.le_refl _⟩
end Go.Proofs.YtphmefhnffoafaaGreatDoor
namespace Go.Proofs.YtphmefhnffoafaaGreatDoor
open Go.RowKit Go.Shelf
set_option linter.unusedVariables false
attribute [local irreducible] nodeB leafB noneB
theorem climbT_nat {b : List UInt8} {j N : Nat} {p : List (List UInt8)} (h : j < N) (hN : N ≤ 1048576) : climbT b j N p = climbB (leafB b) j N p := by
 unfold climbT; rw [if_neg (by omega)]; rfl
end Go.Proofs.YtphmefhnffoafaaGreatDoor
namespace Go.Proofs.YtphmefhnffoafaaGreatDoor
open Go.RowKit Go.Shelf
set_option linter.unusedVariables false
attribute [local irreducible] nodeB leafB noneB
theorem climb_path : ∀ (N : Nat) (l : List (List UInt8)) (i : Nat) (x : List UInt8), l.length ≤ N → l[i]? = some x → climbB (leafB x) i l.length (pathB l i) = some (rootB l) := by
 intro N
 induction N with
 | zero =>
  intro l i x hl hx
  have := (List.getElem?_eq_some_iff.1 hx).1
  omega
 | succ N ih =>
  intro l i x hl hx
  have hi := (List.getElem?_eq_some_iff.1 hx).1
  by_cases h2 : l.length < 2
  ·obtain ⟨y, rfl⟩ : ∃ y, l = [y] := by
    match l, hi with
    | [y], _ => exact ⟨y, rfl⟩
    | y :: z :: r, _ => simp only [List.length_cons] at h2; omega
   have hi0 : i = 0 := by simp only [List.length_cons, List.length_nil] at hi; omega
   subst hi0
   have hxy : y = x := by simpa using hx
   subst hxy
   rw [climbB_one _ _ _ _ h2, pathB_none _ _ (.inl h2), rootB_one]; rfl
  ·have h2' : 2 ≤ l.length := by omega
   have hk1 := halfN_pos l.length
   have hk2 := halfN_lt h2'
   by_cases hik : i < halfN l.length
   ·rw [pathB_left l i h2' hik, climbB_left _ _ _ _ (rootB (l.drop (halfN l.length))) h2' (by simp) hik, List.dropLast_concat, rootB_more l h2']
    have hlen : (l.take (halfN l.length)).length = halfN l.length := by rw [List.length_take]; omega
    have h := ih (l.take (halfN l.length)) i x (by omega) (by rw [List.getElem?_take_of_lt hik]; exact hx)
    rw [hlen] at h
    rw [h]; rfl
   ·rw [pathB_right l i h2' hi hik, climbB_right _ _ _ _ (rootB (l.take (halfN l.length))) h2' (by simp) hik, List.dropLast_concat, rootB_more l h2']
    have hlen : (l.drop (halfN l.length)).length = l.length - halfN l.length := by rw [List.length_drop]
    have h := ih (l.drop (halfN l.length)) (i - halfN l.length) x (by omega) (by rw [List.getElem?_drop, show halfN l.length + (i - halfN l.length) = i by omega]; exact hx)
    rw [hlen] at h
    rw [h]; rfl
def depB (i n : Nat) : Nat := if h : n < 2 then 0 else 1 + if i < halfN n then depB i (halfN n) else depB (i - halfN n) (n - halfN n)
termination_by n
decreasing_by
 ·exact halfN_lt (by omega)
 ·have := halfN_pos n; omega
theorem depB_left {i n : Nat} (h : ¬ n < 2) (hk : i < halfN n) : depB i n = 1 + depB i (halfN n) := by rw [depB, dif_neg h, if_pos hk]
theorem depB_right {i n : Nat} (h : ¬ n < 2) (hk : ¬ i < halfN n) : depB i n = 1 + depB (i - halfN n) (n - halfN n) := by rw [depB, dif_neg h, if_neg hk]
theorem climb_dep : ∀ (N n i : Nat) (d : List UInt8) (p : List (List UInt8)), n ≤ N → ((climbB d i n p).isSome = true ↔ p.length = depB i n) := by
 intro N
 induction N with
 | zero =>
  intro n i d p hn
  rw [climbB_one _ _ _ _ (by omega), depB, dif_pos (by omega)]
  by_cases hp : p = []
  ·subst hp; simp
  ·rw [if_neg hp]
   have : p.length ≠ 0 := fun h => hp (List.eq_nil_of_length_eq_zero h)
   simpa using this
 | succ N ih =>
  intro n i d p hn
  by_cases h2 : n < 2
  ·rw [climbB_one _ _ _ _ h2, depB, dif_pos h2]
   by_cases hp : p = []
   ·subst hp; simp
   ·rw [if_neg hp]
    have : p.length ≠ 0 := fun h => hp (List.eq_nil_of_length_eq_zero h)
    simpa using this
  ·have hk1 := halfN_pos n
   have hk2 := halfN_lt (show 2 ≤ n by omega)
   cases hl : p.getLast? with
   | none =>
    have hp : p = [] := by simpa using hl
    subst hp
    rw [climbB_nil _ _ _ (by omega), depB, dif_neg h2]
    simp only [Option.isSome_none, List.length_nil]
    constructor
    ·intro h; cases h
    ·intro h; omega
   | some last =>
    have hpl : p.length = p.dropLast.length + 1 := by
     have : p ≠ [] := fun h => by subst h; simp at hl
     have : 0 < p.length := List.length_pos_iff.2 this
     rw [List.length_dropLast]; omega
    by_cases hik : i < halfN n
    ·rw [climbB_left _ _ _ _ last (by omega) hl hik, Option.isSome_map, ih _ _ _ _ (by omega), depB_left h2 hik]
     omega
    ·rw [climbB_right _ _ _ _ last (by omega) hl hik, Option.isSome_map, ih _ _ _ _ (by omega), depB_right h2 hik]
     omega
theorem climbT_path {l : List (List UInt8)} {i : Nat} {x : List UInt8} (hx : l[i]? = some x) (hl : l.length ≤ 1048576) : climbT x i l.length (pathI l i) = some (rootB l) := by
 have hi := (List.getElem?_eq_some_iff.1 hx).1
 rw [climbT_nat hi hl, pathI_nat]
 exact climb_path l.length l i x (Nat.le_refl _) hx
end Go.Proofs.YtphmefhnffoafaaGreatDoor
namespace Go.Proofs.YtphmefhnffoafaaGreatDoor
open Go.RowKit
set_option linter.unusedVariables false
structure Cer where
 e : Ent
 path : List (List UInt8)
 h : Hdr
 tag : List UInt8
def Cer.ok (c : Cer) : Prop := c.e.ok ∧ (∀ d ∈ c.path, d.length = 32) ∧ c.h.ok ∧ c.tag.length = 32
def keyS (seed : List UInt8) (s : Int) : List UInt8 := tagB seed [UInt8.ofNat s.toNat]
def midC (c : Cer) : Bool := rightE c.e && rightH c.h && decide (c.e.shard = c.h.shard) && decide (c.e.epoch = c.h.epoch)
def treeC (c : Cer) : Bool := decide (climbT (putEB c.e) 1 3 c.path = some c.h.root)
def tagC (seed : List UInt8) (n : Nat) (c : Cer) : Bool := decide (c.h.shard < n) && decide (tagB (keyS seed c.h.shard) (putHB c.h) = c.tag)
def isC (seed : List UInt8) (n : Nat) (c : Cer) : Bool := midC c && treeC c && tagC seed n c
def certV (v : Value) (c : Cer) : List Value := entV c.e ++ v :: (hdrV c.h ++ c.tag.map B)
theorem certV_len {v : Value} {c : Cer} (h : c.ok) : (certV v c).length = 137 := by
 simp only [certV, List.length_append, List.length_cons, entV_length h.1, hdrV_length h.2.2.1, List.length_map, h.2.2.2]
theorem app_at {xs ys : List Value} {j : Nat} {u : Value} (n : Nat) (hn : xs.length = n) (h : ys[j]? = some u) : (xs ++ ys)[n + j]? = some u := by
 rw [List.getElem?_append_right (by omega), hn, Nat.add_sub_cancel_left]; exact h
theorem app_lt {xs ys : List Value} {j : Nat} {u : Value} (h : xs[j]? = some u) : (xs ++ ys)[j]? = some u := by
 rw [List.getElem?_append_left (List.getElem?_eq_some_iff.1 h).1]; exact h
theorem cert_e {v : Value} {c : Cer} {j : Nat} {u : Value} (h : (entV c.e)[j]? = some u) : (certV v c)[j]? = some u := app_lt h
theorem cert_v {v : Value} {c : Cer} (h : c.ok) : (certV v c)[37]? = some v := app_at (j := 0) 37 (entV_length h.1) rfl
theorem cert_h {v : Value} {c : Cer} (hk : c.ok) {j : Nat} {u : Value} (h : (hdrV c.h)[j]? = some u) : (certV v c)[38 + j]? = some u := by
 rw [show 38 + j = 37 + (1 + j) by omega]
 refine app_at 37 (entV_length hk.1) ?_
 rw [Nat.add_comm 1 j, List.getElem?_cons_succ]; exact app_lt h
theorem cert_t {v : Value} {c : Cer} (hk : c.ok) {j : Nat} {u : Value} (h : (c.tag.map B)[j]? = some u) : (certV v c)[105 + j]? = some u := by
 rw [show 105 + j = 37 + (67 + j + 1) by omega]
 refine app_at 37 (entV_length hk.1) ?_
 rw [List.getElem?_cons_succ]; exact app_at 67 (hdrV_length hk.2.2.1) h
section
variable {c : Cer} {v : Value} {w : World} {g : Nat} {t : TypeId}
theorem midCE (hb : Blk w g t (certV v c)) : ∀ j u, (entV c.e)[j]? = some u → w.cell? ⟨g, 0 + j, none⟩ = some u := fun j u hu => by rw [Nat.zero_add]; exact hb.at_ (cert_e hu)
theorem midCH (h : c.ok) (hb : Blk w g t (certV v c)) : ∀ j u, (hdrV c.h)[j]? = some u → w.cell? ⟨g, 38 + j, none⟩ = some u := fun j u hu => hb.at_ (cert_h h hu)
theorem midCT (h : c.ok) (hb : Blk w g t (certV v c)) : ∀ j u, (c.tag.map B)[j]? = some u → w.cell? ⟨g, 105 + j, none⟩ = some u := fun j u hu => hb.at_ (cert_t h hu)
theorem root_at {x : Hdr} (h : x.ok) {j : Nat} {u : Value} (hu : (x.root.map B)[j]? = some u) : (hdrV x)[35 + j]? = some u := by
 unfold hdrV
 rw [show 35 + j = 32 + j + 1 + 1 + 1 by omega, List.getElem?_cons_succ, List.getElem?_cons_succ, List.getElem?_cons_succ]
 exact app_at 32 (by rw [List.length_map]; exact h.2.2.2.1) hu
theorem midCR (h : c.ok) (hb : Blk w g t (certV v c)) : ∀ j u, (c.h.root.map B)[j]? = some u → w.cell? ⟨g, 73 + j, none⟩ = some u := fun j u hu => by
 rw [show 73 + j = 38 + (35 + j) by omega]; exact hb.at_ (cert_h h (root_at h.2.2.1 hu))
end
theorem cert_one (v : Value) (hv : v.oneCell' = true) (c : Cer) : ∀ u ∈ certV v c, u.oneCell' = true := by
 intro u hu
 simp only [certV, entV, hdrV, List.mem_append, List.mem_cons, List.mem_map, List.not_mem_nil, or_false] at hu
 rcases hu with (rfl | rfl | ⟨x, _, rfl⟩ | rfl | rfl | rfl) | rfl | (rfl | rfl | rfl | ⟨x, _, rfl⟩ | ⟨x, _, rfl⟩) | ⟨x, _, rfl⟩ <;> first | rfl | exact hv
instance : DecidableEq Ent := fun a b => by
 refine decidable_of_iff (a.kind = b.kind ∧ a.shard = b.shard ∧ a.tx = b.tx ∧ a.amount = b.amount ∧ a.why = b.why ∧ a.epoch = b.epoch) ?_
 cases a; cases b; simp
instance : DecidableEq Hdr := fun a b => by
 refine decidable_of_iff (a.shard = b.shard ∧ a.height = b.height ∧ a.epoch = b.epoch ∧ a.prev = b.prev ∧ a.root = b.root) ?_
 cases a; cases b; simp
instance : DecidableEq Cer := fun a b => by
 refine decidable_of_iff (a.e = b.e ∧ a.path = b.path ∧ a.h = b.h ∧ a.tag = b.tag) ?_
 cases a; cases b; simp
end Go.Proofs.YtphmefhnffoafaaGreatDoor
namespace Go.Proofs.YtphmefhnffoafaaGreatDoor
open Go.RowKit Go.ChangeShapes Go.WideShapes
set_option linter.unusedVariables false
set_option maxRecDepth 100000
section
variable {H : Type} {enc : TypeId × Value → H} {w : World} {r : Reach} {b0 base : Nat} {spare : Nat → Bool} {held : Bool}
theorem open_b {v : Value} {d : DataW H} {ps : List MemPlace} (hval : Value.okWide Tryz.prog w r b0 22 v) (h : DataW.Trod enc Tryz.prog w base spare held 22 v d ps) :
  ∃ A n c, ∃ bs : List UInt8, v = .slice A n c ∧ Sl w w.heap.size 1 A n (bs.map B) ∧ n ≤ c ∧ c ≤ maxLen := open_u8s Tryz.underlying22 Tryz.underlying5 (by kernel_rfl) hval h
end
end Go.Proofs.YtphmefhnffoafaaGreatDoor

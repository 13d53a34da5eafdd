/- The given card TreeAnyCardSaid, out of the walk treeAny_walk: for every input the law returns true, and each argument reads as it did; the tables of package sha are tied to the program's text. No condition. -/
import Derived.Test.YtlondennhhffdaaDoorTreeAnyB15
import Derived.Test.YtlondennhhffdaaDoorTreeAnyB12
import Derived.Test.YtlondennhhffdaaDoorTreeAnyB6
import Derived.Test.YtlondennhhffdaaDoorTreeAnyB2
import Derived.ShutString
import Derived.ChangeOld
import Derived.Below
/- Layer 5, the document's answer: climbing. -/
namespace Go.Proofs.YtlondennhhffdaaDoor
open Go.RowKit Go.Shelf
set_option linter.unusedVariables false
attribute [local irreducible] nodeB leafB noneB

theorem none_of {α : Type} {o : Option α} (h : o.isSome = false) : o = none := by cases o with | none => rfl | some x => cases h
theorem climbT_nat {b : List UInt8} {j N : Nat} {p : List (List UInt8)} (h : j < N) (hN : N ≤ 1048576) : climbT b j N p = climbB (leafB b) j N p := by
  unfold climbT; rw [if_neg (by omega)]; rfl
set_option maxRecDepth 100000 in
set_option maxHeartbeats 2000000 in
theorem rclimb_nat (A : Option Addr) (n c : Nat) (b : List UInt8) (hc : n ≤ c) (hn : n ≤ 1000000) : ∀ (M Nn j n2 c2 : Nat) (A2 : Option Addr) (ds : List (List UInt8)) (zs : List Value) (w : World), Nn ≤ M → 1 ≤ Nn → j < Nn → Nn ≤ 1048576 → n2 ≤ 9223372036854775807 → Dig zs (climbD b j Nn ds) → Sl w w.heap.size 1 A n (b.map B) → n ≤ c → n ≤ 1000000 → Ids w A2 n2 c2 ds →
    Calls Tryd.prog 44 #[.slice A n c, .int .i64 j, .int .i64 Nn, .slice A2 n2 c2] w fun e w' => e = .returned (.tuple #[.agg zs.toArray, .bool (climbT b j Nn ds).isSome]) ∧ Below w.heap.size w w' := by
  intro M
  induction M with
  | zero => intro Nn j n2 c2 A2 ds zs w h1 h2; omega
  | succ M ih =>
    intro Nn j n2 c2 A2 ds zs w hNMM hN1 hjN hNM hn2 hz hs _ _ hi
    by_cases hzz : Nn ≤ M
    · exact ih Nn j n2 c2 A2 ds zs w hzz hN1 hjN hNM hn2 hz hs hc hn hi
    have HS := Lib.hid hs; have HI := Lib.hid hi; have HZ := Lib.hid hz
    have HDL := Lib.hid hi.2.1
    have hnc : n2 ≤ c2 := hi.2.2.2
    have HB := Lib.hid (Below.refl w.heap.size w)
    have HG := Lib.hid (Nat.le_refl w.heap.size)
    have hrid := row_id
    have HRI := Lib.hid hrid
    clear hrid
    have g1 : decide ((Nn : Int) < 1) = false := by simp; omega
    have g2 : decide (1048576 < (Nn : Int)) = false := by simp; omega
    have g3 : decide ((j : Int) < 0) = false := by simp
    have g4 : decide ((Nn : Int) ≤ (j : Int)) = false := by simp; omega
    by_cases h1 : Nn = 1
    · subst h1
      have hj0 : j = 0 := by omega
      clear ih hs hi hz hzz hNMM
      by_cases hn0 : n2 = 0
      · subst hn0
        obtain rfl : ds = [] := List.eq_nil_of_length_eq_zero HDL.out
        have HC := Lib.hid (show climbT b j ((1 : Nat) : Int) [] = some (leafB b) by rw [climbT_nat hjN hNM, climbB_one _ _ _ _ (by omega)]; rfl)
        have HLD := Lib.hid (show Dig zs (leafB b) by have h := HZ.out; unfold climbD at h; rw [HC.out] at h; exact h)
        go_enter Tryd.func44, Tryd.ntmps44
        go_wp2_with (first | (with_reducible refine wpl_alloc (o := ⟨some 8, _, _, _, _, _⟩) rfl rfl zero_id ?_))
        intro w2_ hb2_ hb_ hsz2_
        have HX_ := Lib.hid (at_mk hb2_ len_id)
        clear hb2_ hsz2_
        have HB_ := Lib.hid (HB.out.grow' hb_)
        clear HB
        have HB := HB_
        clear HB_
        have HS_ := Lib.hid (HS.out.grow hb_)
        clear HS
        have HS := HS_
        clear HS_
        have HR := HX_
        clear hb_ HX_
        try clear w_
        rename World => w_
        go_wp2_with fail
        refine (rleaf_any _ _ _ _ HLD.out _ HS.out hn).mono ?_
        rintro e w_ ⟨rfl, hb_⟩
        have HB_ := Lib.hid (HB.out.grow' hb_)
        clear HB
        have HB := HB_
        clear HB_
        have HR_ := Lib.hid (HR.out.grow hb_)
        clear HR
        have HR := HR_
        clear HR_
        clear hb_
        go_wp2_with (first | (with_reducible refine wpl_storeb (o := ⟨none, .store _ _ _, _, _, _, _⟩) rfl rfl row_id HR.out.blk rfl rfl HR.out.len HLD.out.len HLD.out.one ?_))
        intro w2_ hb2_ hg2_ hsz2_
        have HB_ := Lib.hid (put_below HB.out HG.out hg2_)
        have HX_ := Lib.hid (at_mk hb2_ HLD.out.len)
        clear hb2_ hg2_ hsz2_ HB HR
        have HB := HB_
        have HR := HX_
        clear HB_ HX_
        try clear w_
        rename World => w_
        go_wp2_with fail
        exact ret_cell2 rfl HRI.out HR.out.blk rfl HR.out.len rfl rfl ⟨by rw [HC.out]; rfl, HB.out⟩
      · have HC := Lib.hid (show climbT b j ((1 : Nat) : Int) ds = none by rw [climbT_nat hjN hNM, climbB_one _ _ _ _ (by omega), if_neg]; intro h; rw [h] at HDL; exact hn0 HDL.out.symm)
        have HZE := Lib.hid (show zs = List.replicate 32 (B 0) by have h := HZ.out.1; unfold climbD at h; rw [HC.out] at h; rw [h]; simp)
        have z1 : ((n2 : Int) == 0) = false := by simp; omega
        have z3 : decide ((n2 : Int) = 0) = false := by simp; omega
        have z5 : (n2 == 0) = false := by simp; omega
        have z7 : decide (n2 = 0) = false := by simp; omega
        go_enter Tryd.func44, Tryd.ntmps44
        go_wp2_with (first | (with_reducible refine wpl_alloc (o := ⟨some 8, _, _, _, _, _⟩) rfl rfl zero_id ?_))
        intro w2_ hb2_ hb_ hsz2_
        have HX_ := Lib.hid (at_mk hb2_ len_id)
        clear hb2_ hsz2_
        have HB_ := Lib.hid (HB.out.grow' hb_)
        clear HB
        have HB := HB_
        clear HB_
        have HR := HX_
        clear hb_ HX_
        try clear w_
        rename World => w_
        go_wp2_with (first | (refine wpl_storeb (o := ⟨none, .store _ _ _, _, _, _, _⟩) (cs := List.replicate 32 (B 0)) rfl rfl row_id HR.out.blk rfl rfl HR.out.len len_id ones0 ?_))
        intro w2_ hb2_ hg2_ hsz2_
        have HB_ := Lib.hid (put_below HB.out HG.out hg2_)
        have HX_ := Lib.hid (at_mk hb2_ len_id)
        clear hb2_ hg2_ hsz2_ HB HR
        have HB := HB_
        have HR := HX_
        clear HB_ HX_
        try clear w_
        rename World => w_
        go_wp2_with fail
        exact ret_cell2 rfl HRI.out HR.out.blk rfl HR.out.len rfl rfl ⟨by rw [HC.out, HZE.out]; rfl, HB.out⟩
    have hN2 : 2 ≤ Nn := by omega
    have y1 : ((Nn : Int) == 1) = false := by simp; omega
    have y3 : decide ((Nn : Int) = 1) = false := by simp; omega
    have y5 : (Nn == 1) = false := by simp; omega
    have y7 : decide (Nn = 1) = false := by simp; omega
    by_cases hn0 : n2 = 0
    · subst hn0
      obtain rfl : ds = [] := List.eq_nil_of_length_eq_zero HDL.out
      have HC := Lib.hid (show climbT b j Nn [] = none by rw [climbT_nat hjN hNM, climbB_nil _ _ _ hN2])
      have HZE := Lib.hid (show zs = List.replicate 32 (B 0) by have h := HZ.out.1; unfold climbD at h; rw [HC.out] at h; rw [h]; simp)
      clear ih hs hi hz hzz hNMM
      go_enter Tryd.func44, Tryd.ntmps44
      go_wp2_with (first | (with_reducible refine wpl_alloc (o := ⟨some 8, _, _, _, _, _⟩) rfl rfl zero_id ?_))
      intro w2_ hb2_ hb_ hsz2_
      have HX_ := Lib.hid (at_mk hb2_ len_id)
      clear hb2_ hsz2_
      have HB_ := Lib.hid (HB.out.grow' hb_)
      clear HB
      have HB := HB_
      clear HB_
      have HR := HX_
      clear hb_ HX_
      try clear w_
      rename World => w_
      go_wp2_with (first | (refine wpl_storeb (o := ⟨none, .store _ _ _, _, _, _, _⟩) (cs := List.replicate 32 (B 0)) rfl rfl row_id HR.out.blk rfl rfl HR.out.len len_id ones0 ?_))
      intro w2_ hb2_ hg2_ hsz2_
      have HB_ := Lib.hid (put_below HB.out HG.out hg2_)
      have HX_ := Lib.hid (at_mk hb2_ len_id)
      clear hb2_ hg2_ hsz2_ HB HR
      have HB := HB_
      have HR := HX_
      clear HB_ HX_
      try clear w_
      rename World => w_
      go_wp2_with fail
      exact ret_cell2 rfl HRI.out HR.out.blk rfl HR.out.len rfl rfl ⟨by rw [HC.out, HZE.out]; rfl, HB.out⟩
    obtain ⟨l, hl⟩ : ∃ l, n2 = l + 1 := ⟨n2 - 1, by omega⟩
    obtain ⟨last, hlast⟩ : ∃ x, ds[l]? = some x := ⟨_, List.getElem?_eq_getElem (by rw [HDL.out]; omega)⟩
    have hl32 : last.length = 32 := hi.2.2.1 _ (List.mem_of_getElem? hlast)
    obtain ⟨k, hk⟩ : ∃ k, k = halfN Nn := ⟨_, rfl⟩
    have hk1 : 1 ≤ k := by rw [hk]; exact halfN_pos Nn
    have hk2 : k < Nn := by rw [hk]; exact halfN_lt hN2
    have hln : l ≤ n2 := by omega
    have hln2 : l < n2 := by omega
    have hlc : l ≤ c2 := by omega
    have hq : (n2 : Int) - 1 = (l : Int) := by omega
    have hq2 : RowKit.wrap64 (l : Int) = (l : Int) := wrap64_in _ (by omega)
    have hkM : k ≤ M := by omega
    have hdM : Nn - k ≤ M := by omega
    have hN16 : Nn ≤ 16777216 := by omega
    have hgl : ds.getLast? = some last := by rw [List.getLast?_eq_getElem?, HDL.out, hl]; exact hlast
    have hdrop : ds.dropLast = ds.take l := by rw [List.dropLast_eq_take, HDL.out, hl]; rfl
    obtain ⟨ls, hls⟩ : ∃ ls, ls = last.map B := ⟨_, rfl⟩
    have HLD := Lib.hid (show Dig ls last from ⟨hls, hl32⟩)
    have HIL := Lib.hid (show Ids w A2 l c2 (ds.take l) from hi.take hln)
    have z1 : ((n2 : Int) == 0) = false := by simp; omega
    have z3 : decide ((n2 : Int) = 0) = false := by simp; omega
    have z5 : (n2 == 0) = false := by simp; omega
    have z7 : decide (n2 = 0) = false := by simp; omega
    have HIH := Lib.hid ih
    have HK := Lib.hid hk
    have HLA := Lib.hid hlast
    clear hs hi hz hzz hNMM hls hl32 hl hlast
    by_cases hik : j < k
    · skip
      have HC := Lib.hid (show climbT b j Nn ds = (climbT b j k (ds.take l)).map fun x => nodeB x last by
        rw [climbT_nat hjN hNM, climbT_nat hik (by omega), climbB_left _ _ _ _ last hN2 hgl (by rw [← hk]; exact hik), hdrop, ← hk])
      obtain ⟨zs1, hz1⟩ : ∃ v, Dig v (climbD b j k (ds.take l)) := ⟨(climbD b j k (ds.take l)).map B, rfl, climbD_len _ _ _ _⟩
      have HZ1 := Lib.hid hz1
      obtain ⟨ok, hok⟩ : ∃ ok, (climbT b j k (ds.take l)).isSome = ok := ⟨_, rfl⟩
      have HOK := Lib.hid hok
      have g5 : decide ((j : Int) < (k : Int)) = true := by simp; omega
      clear hz1 hok hgl hdrop ih hk
      go_enter Tryd.func44, Tryd.ntmps44
      go_wp2_with (first | (with_reducible refine wpl_alloc (o := ⟨some 8, _, _, _, _, _⟩) rfl rfl zero_id ?_))
      intro w2_ hb2_ hb_ hsz2_
      have HX_ := Lib.hid (at_mk hb2_ len_id)
      clear hb2_ hsz2_
      have HB_ := Lib.hid (HB.out.grow' hb_)
      clear HB
      have HB := HB_
      clear HB_
      have HS_ := Lib.hid (HS.out.grow hb_)
      clear HS
      have HS := HS_
      clear HS_
      have HI_ := Lib.hid (HI.out.grow hb_)
      clear HI
      have HI := HI_
      clear HI_
      have HIL_ := Lib.hid (HIL.out.grow hb_)
      clear HIL
      have HIL := HIL_
      clear HIL_
      have HR := HX_
      clear hb_ HX_
      try clear w_
      rename World => w_
      go_wp2_with fail
      refine (half_any Nn _ hN2 hN16).mono ?_
      rintro e w1 ⟨rfl, hw1⟩
      rw [hw1, ← HK.out]
      clear hw1
      clear w1
      obtain ⟨b1, o1, d1, rfl, hd1, hd32, hb1, hc1⟩ := HI.out.key hln2
      obtain rfl : last = d1 := by have := HLA.out; rw [hd1] at this; exact (Option.some.inj this).symm
      rw [← HLD.out.1] at hc1
      have HCC := Lib.hid hc1
      clear hc1 hd1 hd32 hb1
      go_wp2_with (first | (with_reducible refine wpl_loadm (o := ⟨some 51, _, _, _, _, _⟩) rfl rfl row_id HCC.out rfl HLD.out.len ?_) | (with_reducible refine wpl_alloc (o := ⟨some 11, _, _, _, _, _⟩) rfl rfl zero_id ?_))
      intro w1_ hb1_ hbw1_ hsz1_
      have HB1_ := Lib.hid (at_mk hb1_ len_id)
      have HBW1_ := Lib.hid hbw1_
      have HZ1_ := Lib.hid hsz1_
      clear hb1_ hbw1_ hsz1_
      go_wp2_with (first | (with_reducible refine wpl_storeb (o := ⟨none, .store _ _ _, _, _, _, _⟩) rfl rfl row_id HB1_.out.blk rfl rfl HB1_.out.len HLD.out.len HLD.out.one ?_))
      intro w2_ hb2_ hg2_ hsz2_
      have hb_ := var_grow HBW1_.out HZ1_.out hg2_
      have HX_ := Lib.hid (at_mk hb2_ HLD.out.len)
      clear hb2_ hg2_ hsz2_ HB1_ HBW1_ HZ1_
      have HB_ := Lib.hid (HB.out.grow' hb_)
      clear HB
      have HB := HB_
      clear HB_
      have HR_ := Lib.hid (HR.out.grow hb_)
      clear HR
      have HR := HR_
      clear HR_
      have HS_ := Lib.hid (HS.out.grow hb_)
      clear HS
      have HS := HS_
      clear HS_
      have HIL_ := Lib.hid (HIL.out.grow hb_)
      clear HIL
      have HIL := HIL_
      clear HIL_
      generalize hg_ : w_.heap.size = g11 at HX_ ⊢
      clear hg_
      have HV11 := HX_
      clear hb_ HX_
      clear w1_
      try clear w_
      rename World => w_
      clear HCC
      go_wp2_with fail
      refine (HIH.out k j l c2 _ (ds.take l) zs1 _ hkM hk1 hik (by omega) (by omega) HZ1.out HS.out hc hn HIL.out).mono ?_
      rintro e w2_ ⟨rfl, hb_⟩
      have hb_ := hb_
      clear hb_
      have HB_ := Lib.hid (HB.out.grow' hb_)
      clear HB
      have HB := HB_
      clear HB_
      have HR_ := Lib.hid (HR.out.grow hb_)
      clear HR
      have HR := HR_
      clear HR_
      have HV11_ := Lib.hid (HV11.out.grow hb_)
      clear HV11
      have HV11 := HV11_
      clear HV11_
      clear hb_
      try clear w_
      rename World => w_
      rw [HOK.out]
      go_wp2_with (first | (with_reducible refine wpl_alloc (o := ⟨some 12, _, _, _, _, _⟩) rfl rfl zero_id ?_))
      intro w1_ hb1_ hbw1_ hsz1_
      have HB1_ := Lib.hid (at_mk hb1_ len_id)
      have HBW1_ := Lib.hid hbw1_
      have HZ1_ := Lib.hid hsz1_
      clear hb1_ hbw1_ hsz1_
      go_wp2_with (first | (with_reducible refine wpl_storeb (o := ⟨none, .store _ _ _, _, _, _, _⟩) rfl rfl row_id HB1_.out.blk rfl rfl HB1_.out.len HZ1.out.len HZ1.out.one ?_))
      intro w2_ hb2_ hg2_ hsz2_
      have hb_ := var_grow HBW1_.out HZ1_.out hg2_
      have HX_ := Lib.hid (at_mk hb2_ HZ1.out.len)
      clear hb2_ hg2_ hsz2_ HB1_ HBW1_ HZ1_
      have HB_ := Lib.hid (HB.out.grow' hb_)
      clear HB
      have HB := HB_
      clear HB_
      have HR_ := Lib.hid (HR.out.grow hb_)
      clear HR
      have HR := HR_
      clear HR_
      have HV11_ := Lib.hid (HV11.out.grow hb_)
      clear HV11
      have HV11 := HV11_
      clear HV11_
      generalize hg_ : w_.heap.size = gx at HX_ ⊢
      clear hg_
      have HVX := HX_
      clear hb_ HX_
      clear w1_
      try clear w_
      rename World => w_
      cases ok with
      | true =>
        obtain ⟨rs, hrs⟩ : ∃ v, Dig v (nodeB (climbD b j k (ds.take l)) last) := ⟨(nodeB (climbD b j k (ds.take l)) last).map B, rfl, nodeB_len _ _⟩
        have HRS := Lib.hid hrs
        clear hrs
        have HE := Lib.hid (show rs = zs ∧ (climbT b j Nn ds).isSome = true by
          obtain ⟨x, hx⟩ := Option.isSome_iff_exists.1 HOK.out
          refine ⟨?_, by rw [HC.out, hx]; rfl⟩
          rw [HRS.out.1, HZ.out.1]
          unfold climbD
          rw [HC.out, hx]; rfl)
        go_wp2_with (first | (with_reducible refine wpl_loadb (o := ⟨_, .load _ _, _, _, _, _⟩) rfl rfl row_id HVX.out.blk rfl HVX.out.len ?_) | (with_reducible refine wpl_loadw (o := ⟨_, .load _ _, _, _, _, _⟩) (by first | rfl | (go_simp; done)) rfl row_id HVX.out.blk rfl HVX.out.len ?_) | (with_reducible refine wpl_loadb (o := ⟨_, .load _ _, _, _, _, _⟩) rfl rfl row_id HV11.out.blk rfl HV11.out.len ?_) | (with_reducible refine wpl_loadw (o := ⟨_, .load _ _, _, _, _, _⟩) (by first | rfl | (go_simp; done)) rfl row_id HV11.out.blk rfl HV11.out.len ?_))
        refine (rnode_any HZ1.out HLD.out HRS.out _).mono ?_
        rintro e w_ ⟨rfl, hb_⟩
        have HB_ := Lib.hid (HB.out.grow' hb_)
        clear HB
        have HB := HB_
        clear HB_
        have HR_ := Lib.hid (HR.out.grow hb_)
        clear HR
        have HR := HR_
        clear HR_
        clear hb_
        go_wp2_with (first | (with_reducible refine wpl_storeb (o := ⟨none, .store _ _ _, _, _, _, _⟩) rfl rfl row_id HR.out.blk rfl rfl HR.out.len HRS.out.len HRS.out.one ?_))
        intro w2_ hb2_ hg2_ hsz2_
        have HB_ := Lib.hid (put_below HB.out HG.out hg2_)
        have HX_ := Lib.hid (at_mk hb2_ HRS.out.len)
        clear hb2_ hg2_ hsz2_ HB HR
        have HB := HB_
        have HR := HX_
        clear HB_ HX_
        try clear w_
        rename World => w_
        go_wp2_with fail
        exact ret_cell2 rfl HRI.out HR.out.blk rfl HR.out.len rfl rfl ⟨by rw [HE.out.2, HE.out.1]; rfl, HB.out⟩
      | false =>
        have HN := Lib.hid (show climbT b j Nn ds = none by rw [HC.out, none_of HOK.out]; rfl)
        have HZE := Lib.hid (show zs = List.replicate 32 (B 0) by have h := HZ.out.1; unfold climbD at h; rw [HN.out] at h; rw [h]; simp)
        go_wp2_with (first | (refine wpl_storeb (o := ⟨none, .store _ _ _, _, _, _, _⟩) (cs := List.replicate 32 (B 0)) rfl rfl row_id HR.out.blk rfl rfl HR.out.len len_id ones0 ?_))
        intro w2_ hb2_ hg2_ hsz2_
        have HB_ := Lib.hid (put_below HB.out HG.out hg2_)
        have HX_ := Lib.hid (at_mk hb2_ len_id)
        clear hb2_ hg2_ hsz2_ HB HR
        have HB := HB_
        have HR := HX_
        clear HB_ HX_
        try clear w_
        rename World => w_
        go_wp2_with fail
        exact ret_cell2 rfl HRI.out HR.out.blk rfl HR.out.len rfl rfl ⟨by rw [HN.out, HZE.out]; rfl, HB.out⟩
    · skip
      have HC := Lib.hid (show climbT b j Nn ds = (climbT b (j - k : Nat) (Nn - k : Nat) (ds.take l)).map fun x => nodeB last x by
        rw [climbT_nat hjN hNM, climbT_nat (show j - k < Nn - k by omega) (by omega), climbB_right _ _ _ _ last hN2 hgl (by rw [← hk]; exact hik), hdrop, ← hk])
      obtain ⟨zs1, hz1⟩ : ∃ v, Dig v (climbD b (j - k : Nat) (Nn - k : Nat) (ds.take l)) := ⟨(climbD b (j - k : Nat) (Nn - k : Nat) (ds.take l)).map B, rfl, climbD_len _ _ _ _⟩
      have HZ1 := Lib.hid hz1
      obtain ⟨ok, hok⟩ : ∃ ok, (climbT b (j - k : Nat) (Nn - k : Nat) (ds.take l)).isSome = ok := ⟨_, rfl⟩
      have HOK := Lib.hid hok
      have g5 : decide ((j : Int) < (k : Int)) = false := by simp; omega
      clear hz1 hok hgl hdrop ih hk
      go_enter Tryd.func44, Tryd.ntmps44
      go_wp2_with (first | (with_reducible refine wpl_alloc (o := ⟨some 8, _, _, _, _, _⟩) rfl rfl zero_id ?_))
      intro w2_ hb2_ hb_ hsz2_
      have HX_ := Lib.hid (at_mk hb2_ len_id)
      clear hb2_ hsz2_
      have HB_ := Lib.hid (HB.out.grow' hb_)
      clear HB
      have HB := HB_
      clear HB_
      have HS_ := Lib.hid (HS.out.grow hb_)
      clear HS
      have HS := HS_
      clear HS_
      have HI_ := Lib.hid (HI.out.grow hb_)
      clear HI
      have HI := HI_
      clear HI_
      have HIL_ := Lib.hid (HIL.out.grow hb_)
      clear HIL
      have HIL := HIL_
      clear HIL_
      have HR := HX_
      clear hb_ HX_
      try clear w_
      rename World => w_
      go_wp2_with fail
      refine (half_any Nn _ hN2 hN16).mono ?_
      rintro e w1 ⟨rfl, hw1⟩
      rw [hw1, ← HK.out]
      clear hw1
      clear w1
      obtain ⟨b1, o1, d1, rfl, hd1, hd32, hb1, hc1⟩ := HI.out.key hln2
      obtain rfl : last = d1 := by have := HLA.out; rw [hd1] at this; exact (Option.some.inj this).symm
      rw [← HLD.out.1] at hc1
      have HCC := Lib.hid hc1
      clear hc1 hd1 hd32 hb1
      go_wp2_with (first | (with_reducible refine wpl_loadm (o := ⟨some 51, _, _, _, _, _⟩) rfl rfl row_id HCC.out rfl HLD.out.len ?_) | (with_reducible refine wpl_alloc (o := ⟨some 11, _, _, _, _, _⟩) rfl rfl zero_id ?_))
      intro w1_ hb1_ hbw1_ hsz1_
      have HB1_ := Lib.hid (at_mk hb1_ len_id)
      have HBW1_ := Lib.hid hbw1_
      have HZ1_ := Lib.hid hsz1_
      clear hb1_ hbw1_ hsz1_
      go_wp2_with (first | (with_reducible refine wpl_storeb (o := ⟨none, .store _ _ _, _, _, _, _⟩) rfl rfl row_id HB1_.out.blk rfl rfl HB1_.out.len HLD.out.len HLD.out.one ?_))
      intro w2_ hb2_ hg2_ hsz2_
      have hb_ := var_grow HBW1_.out HZ1_.out hg2_
      have HX_ := Lib.hid (at_mk hb2_ HLD.out.len)
      clear hb2_ hg2_ hsz2_ HB1_ HBW1_ HZ1_
      have HB_ := Lib.hid (HB.out.grow' hb_)
      clear HB
      have HB := HB_
      clear HB_
      have HR_ := Lib.hid (HR.out.grow hb_)
      clear HR
      have HR := HR_
      clear HR_
      have HS_ := Lib.hid (HS.out.grow hb_)
      clear HS
      have HS := HS_
      clear HS_
      have HIL_ := Lib.hid (HIL.out.grow hb_)
      clear HIL
      have HIL := HIL_
      clear HIL_
      generalize hg_ : w_.heap.size = g11 at HX_ ⊢
      clear hg_
      have HV11 := HX_
      clear hb_ HX_
      clear w1_
      try clear w_
      rename World => w_
      clear HCC
      go_wp2_with fail
      have hcl := HIH.out (Nn - k) (j - k) l c2 _ (ds.take l) zs1 w_ hdM (by omega) (by omega) (by omega) (by omega) HZ1.out HS.out hc hn HIL.out
      rw [HOK.out] at hcl
      rw [show ((j - k : Nat) : Int) = (j : Int) - (k : Int) by omega, show ((Nn - k : Nat) : Int) = (Nn : Int) - (k : Int) by omega] at hcl
      refine hcl.mono ?_
      rintro e w2_ ⟨rfl, hb_⟩
      have hb_ := hb_
      clear hb_
      have HB_ := Lib.hid (HB.out.grow' hb_)
      clear HB
      have HB := HB_
      clear HB_
      have HR_ := Lib.hid (HR.out.grow hb_)
      clear HR
      have HR := HR_
      clear HR_
      have HV11_ := Lib.hid (HV11.out.grow hb_)
      clear HV11
      have HV11 := HV11_
      clear HV11_
      clear hb_
      try clear w_
      rename World => w_
      go_wp2_with (first | (with_reducible refine wpl_alloc (o := ⟨some 14, _, _, _, _, _⟩) rfl rfl zero_id ?_))
      intro w1_ hb1_ hbw1_ hsz1_
      have HB1_ := Lib.hid (at_mk hb1_ len_id)
      have HBW1_ := Lib.hid hbw1_
      have HZ1_ := Lib.hid hsz1_
      clear hb1_ hbw1_ hsz1_
      go_wp2_with (first | (with_reducible refine wpl_storeb (o := ⟨none, .store _ _ _, _, _, _, _⟩) rfl rfl row_id HB1_.out.blk rfl rfl HB1_.out.len HZ1.out.len HZ1.out.one ?_))
      intro w2_ hb2_ hg2_ hsz2_
      have hb_ := var_grow HBW1_.out HZ1_.out hg2_
      have HX_ := Lib.hid (at_mk hb2_ HZ1.out.len)
      clear hb2_ hg2_ hsz2_ HB1_ HBW1_ HZ1_
      have HB_ := Lib.hid (HB.out.grow' hb_)
      clear HB
      have HB := HB_
      clear HB_
      have HR_ := Lib.hid (HR.out.grow hb_)
      clear HR
      have HR := HR_
      clear HR_
      have HV11_ := Lib.hid (HV11.out.grow hb_)
      clear HV11
      have HV11 := HV11_
      clear HV11_
      generalize hg_ : w_.heap.size = gx at HX_ ⊢
      clear hg_
      have HVX := HX_
      clear hb_ HX_
      clear w1_
      try clear w_
      rename World => w_
      cases ok with
      | true =>
        obtain ⟨rs, hrs⟩ : ∃ v, Dig v (nodeB last (climbD b (j - k : Nat) (Nn - k : Nat) (ds.take l))) := ⟨(nodeB last (climbD b (j - k : Nat) (Nn - k : Nat) (ds.take l))).map B, rfl, nodeB_len _ _⟩
        have HRS := Lib.hid hrs
        clear hrs
        have HE := Lib.hid (show rs = zs ∧ (climbT b j Nn ds).isSome = true by
          obtain ⟨x, hx⟩ := Option.isSome_iff_exists.1 HOK.out
          refine ⟨?_, by rw [HC.out, hx]; rfl⟩
          rw [HRS.out.1, HZ.out.1]
          unfold climbD
          rw [HC.out, hx]; rfl)
        go_wp2_with (first | (with_reducible refine wpl_loadb (o := ⟨_, .load _ _, _, _, _, _⟩) rfl rfl row_id HVX.out.blk rfl HVX.out.len ?_) | (with_reducible refine wpl_loadw (o := ⟨_, .load _ _, _, _, _, _⟩) (by first | rfl | (go_simp; done)) rfl row_id HVX.out.blk rfl HVX.out.len ?_) | (with_reducible refine wpl_loadb (o := ⟨_, .load _ _, _, _, _, _⟩) rfl rfl row_id HV11.out.blk rfl HV11.out.len ?_) | (with_reducible refine wpl_loadw (o := ⟨_, .load _ _, _, _, _, _⟩) (by first | rfl | (go_simp; done)) rfl row_id HV11.out.blk rfl HV11.out.len ?_))
        refine (rnode_any HLD.out HZ1.out HRS.out _).mono ?_
        rintro e w_ ⟨rfl, hb_⟩
        have HB_ := Lib.hid (HB.out.grow' hb_)
        clear HB
        have HB := HB_
        clear HB_
        have HR_ := Lib.hid (HR.out.grow hb_)
        clear HR
        have HR := HR_
        clear HR_
        clear hb_
        go_wp2_with (first | (with_reducible refine wpl_storeb (o := ⟨none, .store _ _ _, _, _, _, _⟩) rfl rfl row_id HR.out.blk rfl rfl HR.out.len HRS.out.len HRS.out.one ?_))
        intro w2_ hb2_ hg2_ hsz2_
        have HB_ := Lib.hid (put_below HB.out HG.out hg2_)
        have HX_ := Lib.hid (at_mk hb2_ HRS.out.len)
        clear hb2_ hg2_ hsz2_ HB HR
        have HB := HB_
        have HR := HX_
        clear HB_ HX_
        try clear w_
        rename World => w_
        go_wp2_with fail
        exact ret_cell2 rfl HRI.out HR.out.blk rfl HR.out.len rfl rfl ⟨by rw [HE.out.2, HE.out.1]; rfl, HB.out⟩
      | false =>
        have HN := Lib.hid (show climbT b j Nn ds = none by rw [HC.out, none_of HOK.out]; rfl)
        have HZE := Lib.hid (show zs = List.replicate 32 (B 0) by have h := HZ.out.1; unfold climbD at h; rw [HN.out] at h; rw [h]; simp)
        go_wp2_with (first | (refine wpl_storeb (o := ⟨none, .store _ _ _, _, _, _, _⟩) (cs := List.replicate 32 (B 0)) rfl rfl row_id HR.out.blk rfl rfl HR.out.len len_id ones0 ?_))
        intro w2_ hb2_ hg2_ hsz2_
        have HB_ := Lib.hid (put_below HB.out HG.out hg2_)
        have HX_ := Lib.hid (at_mk hb2_ len_id)
        clear hb2_ hg2_ hsz2_ HB HR
        have HB := HB_
        have HR := HX_
        clear HB_ HX_
        try clear w_
        rename World => w_
        go_wp2_with fail
        exact ret_cell2 rfl HRI.out HR.out.blk rfl HR.out.len rfl rfl ⟨by rw [HN.out, HZE.out]; rfl, HB.out⟩

set_option maxRecDepth 100000 in
set_option maxHeartbeats 2000000 in
theorem rclimb_any (A A2 : Option Addr) (n c n2 c2 : Nat) (b : List UInt8) (i N : Int) (ds : List (List UInt8)) {zs : List Value} (hz : Dig zs (climbD b i N ds)) (w : World) (hs : Sl w w.heap.size 1 A n (b.map B)) (hc : n ≤ c) (hn : n ≤ 1000000) (hi : Ids w A2 n2 c2 ds) (hn2 : n2 ≤ 9223372036854775807) :
    Calls Tryd.prog 44 #[.slice A n c, .int .i64 i, .int .i64 N, .slice A2 n2 c2] w fun e w' => e = .returned (.tuple #[.agg zs.toArray, .bool (climbT b i N ds).isSome]) ∧ Below w.heap.size w w' := by
  by_cases hbad : N < 1 ∨ 1048576 < N ∨ i < 0 ∨ N ≤ i
  · have HZ := Lib.hid hz
    have HB := Lib.hid (Below.refl w.heap.size w)
    have hrid := row_id
    have HRI := Lib.hid hrid
    clear hrid hs hi hz
    have HC := Lib.hid (show climbT b i N ds = none by unfold climbT; rw [if_pos hbad])
    have HZE := Lib.hid (show zs = List.replicate 32 (B 0) by have h := HZ.out.1; unfold climbD at h; rw [HC.out] at h; rw [h]; simp)
    have HG := Lib.hid (Nat.le_refl w.heap.size)
    by_cases c1 : N < 1
    · have g1 : decide (N < 1) = true := by simpa using c1
      go_enter Tryd.func44, Tryd.ntmps44
      go_wp2_with (first | (with_reducible refine wpl_alloc (o := ⟨some 8, _, _, _, _, _⟩) rfl rfl zero_id ?_))
      intro w2_ hb2_ hb_ hsz2_
      have HX_ := Lib.hid (at_mk hb2_ len_id)
      clear hb2_ hsz2_
      have HB_ := Lib.hid (HB.out.grow' hb_)
      clear HB
      have HB := HB_
      clear HB_
      have HR := HX_
      clear hb_ HX_
      try clear w_
      rename World => w_
      go_wp2_with (first | (refine wpl_storeb (o := ⟨none, .store _ _ _, _, _, _, _⟩) (cs := List.replicate 32 (B 0)) rfl rfl row_id HR.out.blk rfl rfl HR.out.len len_id ones0 ?_))
      intro w2_ hb2_ hg2_ hsz2_
      have HB_ := Lib.hid (put_below HB.out HG.out hg2_)
      have HX_ := Lib.hid (at_mk hb2_ len_id)
      clear hb2_ hg2_ hsz2_ HB HR
      have HB := HB_
      have HR := HX_
      clear HB_ HX_
      try clear w_
      rename World => w_
      go_wp2_with fail
      exact ret_cell2 rfl HRI.out HR.out.blk rfl HR.out.len rfl rfl ⟨by rw [HC.out, HZE.out]; rfl, HB.out⟩
    · have g1 : decide (N < 1) = false := by simpa using c1
      by_cases c2 : 1048576 < N
      · have g2 : decide (1048576 < N) = true := by simpa using c2
        go_enter Tryd.func44, Tryd.ntmps44
        go_wp2_with (first | (with_reducible refine wpl_alloc (o := ⟨some 8, _, _, _, _, _⟩) rfl rfl zero_id ?_))
        intro w2_ hb2_ hb_ hsz2_
        have HX_ := Lib.hid (at_mk hb2_ len_id)
        clear hb2_ hsz2_
        have HB_ := Lib.hid (HB.out.grow' hb_)
        clear HB
        have HB := HB_
        clear HB_
        have HR := HX_
        clear hb_ HX_
        try clear w_
        rename World => w_
        go_wp2_with (first | (refine wpl_storeb (o := ⟨none, .store _ _ _, _, _, _, _⟩) (cs := List.replicate 32 (B 0)) rfl rfl row_id HR.out.blk rfl rfl HR.out.len len_id ones0 ?_))
        intro w2_ hb2_ hg2_ hsz2_
        have HB_ := Lib.hid (put_below HB.out HG.out hg2_)
        have HX_ := Lib.hid (at_mk hb2_ len_id)
        clear hb2_ hg2_ hsz2_ HB HR
        have HB := HB_
        have HR := HX_
        clear HB_ HX_
        try clear w_
        rename World => w_
        go_wp2_with fail
        exact ret_cell2 rfl HRI.out HR.out.blk rfl HR.out.len rfl rfl ⟨by rw [HC.out, HZE.out]; rfl, HB.out⟩
      · have g2 : decide (1048576 < N) = false := by simpa using c2
        by_cases c3 : i < 0
        · have g3 : decide (i < 0) = true := by simpa using c3
          go_enter Tryd.func44, Tryd.ntmps44
          go_wp2_with (first | (with_reducible refine wpl_alloc (o := ⟨some 8, _, _, _, _, _⟩) rfl rfl zero_id ?_))
          intro w2_ hb2_ hb_ hsz2_
          have HX_ := Lib.hid (at_mk hb2_ len_id)
          clear hb2_ hsz2_
          have HB_ := Lib.hid (HB.out.grow' hb_)
          clear HB
          have HB := HB_
          clear HB_
          have HR := HX_
          clear hb_ HX_
          try clear w_
          rename World => w_
          go_wp2_with (first | (refine wpl_storeb (o := ⟨none, .store _ _ _, _, _, _, _⟩) (cs := List.replicate 32 (B 0)) rfl rfl row_id HR.out.blk rfl rfl HR.out.len len_id ones0 ?_))
          intro w2_ hb2_ hg2_ hsz2_
          have HB_ := Lib.hid (put_below HB.out HG.out hg2_)
          have HX_ := Lib.hid (at_mk hb2_ len_id)
          clear hb2_ hg2_ hsz2_ HB HR
          have HB := HB_
          have HR := HX_
          clear HB_ HX_
          try clear w_
          rename World => w_
          go_wp2_with fail
          exact ret_cell2 rfl HRI.out HR.out.blk rfl HR.out.len rfl rfl ⟨by rw [HC.out, HZE.out]; rfl, HB.out⟩
        · have g3 : decide (i < 0) = false := by simpa using c3
          have g4 : decide (N ≤ i) = true := by simp; omega
          go_enter Tryd.func44, Tryd.ntmps44
          go_wp2_with (first | (with_reducible refine wpl_alloc (o := ⟨some 8, _, _, _, _, _⟩) rfl rfl zero_id ?_))
          intro w2_ hb2_ hb_ hsz2_
          have HX_ := Lib.hid (at_mk hb2_ len_id)
          clear hb2_ hsz2_
          have HB_ := Lib.hid (HB.out.grow' hb_)
          clear HB
          have HB := HB_
          clear HB_
          have HR := HX_
          clear hb_ HX_
          try clear w_
          rename World => w_
          go_wp2_with (first | (refine wpl_storeb (o := ⟨none, .store _ _ _, _, _, _, _⟩) (cs := List.replicate 32 (B 0)) rfl rfl row_id HR.out.blk rfl rfl HR.out.len len_id ones0 ?_))
          intro w2_ hb2_ hg2_ hsz2_
          have HB_ := Lib.hid (put_below HB.out HG.out hg2_)
          have HX_ := Lib.hid (at_mk hb2_ len_id)
          clear hb2_ hg2_ hsz2_ HB HR
          have HB := HB_
          have HR := HX_
          clear HB_ HX_
          try clear w_
          rename World => w_
          go_wp2_with fail
          exact ret_cell2 rfl HRI.out HR.out.blk rfl HR.out.len rfl rfl ⟨by rw [HC.out, HZE.out]; rfl, HB.out⟩
  · obtain ⟨Nn, rfl⟩ : ∃ m : Nat, N = (m : Int) := ⟨N.toNat, by omega⟩
    obtain ⟨j, rfl⟩ : ∃ m : Nat, i = (m : Int) := ⟨i.toNat, by omega⟩
    exact rclimb_nat A n c b hc hn Nn Nn j n2 c2 A2 ds zs w (Nat.le_refl _) (by omega) (by omega) (by omega) hn2 hz hs hc hn hi
end Go.Proofs.YtlondennhhffdaaDoor

/- Arguments opened: bytes, lists of bytes, lists of digests. -/
namespace Go.Proofs.YtlondennhhffdaaDoor
open Go.RowKit Go.ChangeShapes Go.WideShapes
set_option linter.unusedVariables false
section
variable {H : Type} {enc : TypeId × Value → H} {w : World} {r : Reach} {b0 base : Nat} {spare : Nat → Bool} {held : Bool}
theorem open_b {v : Value} {d : DataW H} {ps : List MemPlace} (hval : Value.okWide Tryd.prog w r b0 22 v) (h : DataW.Trod enc Tryd.prog w base spare held 22 v d ps) :
    ∃ A n c, ∃ bs : List UInt8, v = .slice A n c ∧ Sl w w.heap.size 1 A n (bs.map B) ∧ n ≤ c ∧ c ≤ maxLen := open_u8s Tryd.underlying22 Tryd.underlying5 (by kernel_rfl) hval h
/-- A list of lists of bytes that came in. -/
theorem open_bb {v : Value} {d : DataW H} {ps : List MemPlace} (hval : Value.okWide Tryd.prog w r b0 37 v) (h : DataW.Trod enc Tryd.prog w base spare held 37 v d ps) :
    ∃ A n c, ∃ l : List (Value × List UInt8), v = .slice A n c ∧ Parts w w.heap.size A n l ∧ n ≤ c ∧ c ≤ maxLen := by
  obtain ⟨A, n, c, l, h1, h2, h3, h4, h5, h6, _⟩ := open_list (fun x : Value × List UInt8 => [x.1]) (fun p => ∃ A c, p.1 = .slice A p.2.length c ∧ p.2.length ≤ c ∧ Sl w w.heap.size 1 A p.2.length (p.2.map B)) Tryd.underlying37 (by kernel_rfl) (show 0 < 1 by omega) (fun fuel cs y hl ht => by
    obtain ⟨A', n', c', bs, e, hs, hn, _, hbl⟩ := open_u8s0 Tryd.underlying22 Tryd.underlying5 (by kernel_rfl) ht
    exact ⟨(.slice A' n' c', bs), e, A', c', by rw [hbl], by rw [hbl]; exact hn, by rw [hbl]; exact hs⟩) hval h
  exact ⟨A, n, c, l, h1, ⟨by rw [← flat_one]; exact h5, h6⟩, h3, h4⟩
end
end Go.Proofs.YtlondennhhffdaaDoor

/- Arguments opened: digests, lists of digests. -/
namespace Go.Proofs.YtlondennhhffdaaDoor
open Go.RowKit Go.ChangeShapes Go.WideShapes
set_option linter.unusedVariables false
section
variable {H : Type} {enc : TypeId × Value → H} {w : World} {r : Reach} {b0 base : Nat} {spare : Nat → Bool} {held : Bool}
theorem open_dig {v : Value} {d : DataW H} {ps : List MemPlace} (hval : Value.okWide Tryd.prog w r b0 26 v) (h : DataW.Trod enc Tryd.prog w base spare held 26 v d ps) :
    ∃ ds : List UInt8, v = .agg (ds.map B).toArray ∧ ds.length = 32 :=
  open_arr32 Tryd.underlying26 Tryd.underlying5 (by kernel_rfl) (by kernel_rfl) hval h
theorem open_digs {v : Value} {d : DataW H} {ps : List MemPlace} (hval : Value.okWide Tryd.prog w r b0 57 v) (h : DataW.Trod enc Tryd.prog w base spare held 57 v d ps) :
    ∃ A n c, ∃ l : List (List UInt8), v = .slice A n c ∧ Sl w w.heap.size 32 A n (l.flatMap (·.map B)) ∧ l.length = n ∧ (∀ x ∈ l, x.length = 32) ∧ n ≤ c ∧ c ≤ maxLen := by
  obtain ⟨A, n, c, l, h1, h2, h3, h4, h5, h6, _⟩ := open_list (fun x : List UInt8 => x.map B) (fun x => x.length = 32) Tryd.underlying57 (by kernel_rfl) (show 0 < 32 by omega) (fun fuel cs y _ h => trod_bytes Tryd.underlying26 Tryd.underlying5 (by kernel_rfl) (by kernel_rfl) h) hval h
  exact ⟨A, n, c, l, h1, h5, h2, h6, h3, h4⟩
end
end Go.Proofs.YtlondennhhffdaaDoor

/- The walk of seisinlaw05.TreeAny. -/
namespace Go.Proofs.YtlondennhhffdaaDoor
open Go.RowKit Go.Shelf
set_option linter.unusedVariables false
set_option maxRecDepth 100000 in
theorem eql_b5 (d : Bool) (w : World) : (binOp .eql 4 (.bool d) (.bool d)).run Tryd.prog w = .ok (.bool true) w := by
  cases d <;> rfl
set_option maxRecDepth 100000 in
set_option maxHeartbeats 1000000 in
theorem treeAny_any (A A2 : Option Addr) (n c n2 c2 : Nat) (b : List UInt8) (i N : Int) (ds : List (List UInt8)) (r : List UInt8) {rs : List Value} (hr : Dig rs r) (w : World) (hs : Sl w w.heap.size 1 A n (b.map B)) (hc : n ≤ c) (hi : Ids w A2 n2 c2 ds) (ht : Tabs w) :
    Calls Tryd.prog 13 #[.slice A n c, .int .i64 i, .int .i64 N, .slice A2 n2 c2, .agg rs.toArray] w fun e w' => e = .returned (.bool true) ∧ Below w.heap.size w w' := by
  have HT := Lib.hid ht; have HS := Lib.hid hs; have HI := Lib.hid hi; have HR := Lib.hid hr
  have HB := Lib.hid (Below.refl w.heap.size w)
  clear ht hs hi hr
  by_cases h1 : n ≤ 60
  · have g1 : decide (60 < (n : Int)) = false := by simp; omega
    by_cases h2 : n2 ≤ 40
    · have g2 : decide (40 < (n2 : Int)) = false := by simp; omega
      obtain ⟨zs, hz⟩ : ∃ v, Dig v (climbD b i N ds) := ⟨(climbD b i N ds).map B, rfl, climbD_len b i N ds⟩
      have HZ := Lib.hid hz
      have heq := fun w => HZ.out.self w
      obtain ⟨d, hd⟩ : ∃ d, (climbD b i N ds == r) = d := ⟨_, rfl⟩
      have heq2 := HZ.out.eql_b HR.out hd
      have HD := Lib.hid hd
      have heq3 := eql_b5 d
      obtain ⟨ok, hok⟩ : ∃ ok, (climbT b i N ds).isSome = ok := ⟨_, rfl⟩
      have HOK := Lib.hid hok
      clear hz hd hok
      go_enter Tryd.func13, Tryd.ntmps13
      go_wp2_with (first | (with_reducible refine wpl_box (o := ⟨some 9, _, _, _, _, _⟩) rfl rfl rfl ?_))
      intro w2_ hb2_ hb_ hsz2_
      have HX_ := Lib.hid (at_mk hb2_ HR.out.len)
      clear hb2_ hsz2_
      have HB_ := Lib.hid (HB.out.grow' hb_)
      clear HB
      have HB := HB_
      clear HB_
      have HT_ := Lib.hid (HT.out.grow hb_)
      clear HT
      have HT := HT_
      clear HT_
      have HS_ := Lib.hid (HS.out.grow hb_)
      clear HS
      have HS := HS_
      clear HS_
      have HI_ := Lib.hid (HI.out.grow hb_)
      clear HI
      have HI := HI_
      clear HI_
      have HV0 := HX_
      clear hb_ HX_
      try clear w_
      rename World => w_
      go_wp2_with fail
      refine (tclimb_any _ _ _ _ _ _ b i N ds HZ.out _ HS.out hc (by omega) HI.out (by omega) HT.out).mono ?_
      rintro e w2_ ⟨rfl, hb_⟩
      rw [HOK.out]
      have hb_ := hb_
      clear hb_
      have HB_ := Lib.hid (HB.out.grow' hb_)
      clear HB
      have HB := HB_
      clear HB_
      have HV0_ := Lib.hid (HV0.out.grow hb_)
      clear HV0
      have HV0 := HV0_
      clear HV0_
      have HT_ := Lib.hid (HT.out.grow hb_)
      clear HT
      have HT := HT_
      clear HT_
      have HS_ := Lib.hid (HS.out.grow hb_)
      clear HS
      have HS := HS_
      clear HS_
      have HI_ := Lib.hid (HI.out.grow hb_)
      clear HI
      have HI := HI_
      clear HI_
      clear hb_
      try clear w_
      rename World => w_
      go_wp2_with (first | (with_reducible refine wpl_alloc (o := ⟨some 11, _, _, _, _, _⟩) rfl rfl zero_id ?_))
      intro w1_ hb1_ hbw1_ hsz1_
      have HB1_ := Lib.hid (at_mk hb1_ len_id)
      have HBW1_ := Lib.hid hbw1_
      have HZ1_ := Lib.hid hsz1_
      clear hb1_ hbw1_ hsz1_
      go_wp2_with (first | (with_reducible refine wpl_storeb (o := ⟨none, .store _ _ _, _, _, _, _⟩) rfl rfl row_id HB1_.out.blk rfl rfl HB1_.out.len HZ.out.len HZ.out.one ?_))
      intro w2_ hb2_ hg2_ hsz2_
      have hb_ := var_grow HBW1_.out HZ1_.out hg2_
      have HX_ := Lib.hid (at_mk hb2_ HZ.out.len)
      clear hb2_ hg2_ hsz2_ HB1_ HBW1_ HZ1_
      have HB_ := Lib.hid (HB.out.grow' hb_)
      clear HB
      have HB := HB_
      clear HB_
      have HV0_ := Lib.hid (HV0.out.grow hb_)
      clear HV0
      have HV0 := HV0_
      clear HV0_
      have HT_ := Lib.hid (HT.out.grow hb_)
      clear HT
      have HT := HT_
      clear HT_
      have HS_ := Lib.hid (HS.out.grow hb_)
      clear HS
      have HS := HS_
      clear HS_
      have HI_ := Lib.hid (HI.out.grow hb_)
      clear HI
      have HI := HI_
      clear HI_
      generalize hg_ : w_.heap.size = g1v at HX_ ⊢
      clear hg_
      have HV1 := HX_
      clear hb_ HX_
      clear w1_
      try clear w_
      rename World => w_
      go_wp2_with fail
      refine (rclimb_any _ _ _ _ _ _ b i N ds HZ.out _ HS.out hc (by omega) HI.out (by omega)).mono ?_
      rintro e w2_ ⟨rfl, hb_⟩
      rw [HOK.out]
      have hb_ := hb_
      clear hb_
      have HB_ := Lib.hid (HB.out.grow' hb_)
      clear HB
      have HB := HB_
      clear HB_
      have HV0_ := Lib.hid (HV0.out.grow hb_)
      clear HV0
      have HV0 := HV0_
      clear HV0_
      have HV1_ := Lib.hid (HV1.out.grow hb_)
      clear HV1
      have HV1 := HV1_
      clear HV1_
      have HT_ := Lib.hid (HT.out.grow hb_)
      clear HT
      have HT := HT_
      clear HT_
      have HS_ := Lib.hid (HS.out.grow hb_)
      clear HS
      have HS := HS_
      clear HS_
      have HI_ := Lib.hid (HI.out.grow hb_)
      clear HI
      have HI := HI_
      clear HI_
      clear hb_
      try clear w_
      rename World => w_
      go_wp2_with (first | (with_reducible refine wpl_alloc (o := ⟨some 13, _, _, _, _, _⟩) rfl rfl zero_id ?_))
      intro w1_ hb1_ hbw1_ hsz1_
      have HB1_ := Lib.hid (at_mk hb1_ len_id)
      have HBW1_ := Lib.hid hbw1_
      have HZ1_ := Lib.hid hsz1_
      clear hb1_ hbw1_ hsz1_
      go_wp2_with (first | (with_reducible refine wpl_storeb (o := ⟨none, .store _ _ _, _, _, _, _⟩) rfl rfl row_id HB1_.out.blk rfl rfl HB1_.out.len HZ.out.len HZ.out.one ?_))
      intro w2_ hb2_ hg2_ hsz2_
      have hb_ := var_grow HBW1_.out HZ1_.out hg2_
      have HX_ := Lib.hid (at_mk hb2_ HZ.out.len)
      clear hb2_ hg2_ hsz2_ HB1_ HBW1_ HZ1_
      have HB_ := Lib.hid (HB.out.grow' hb_)
      clear HB
      have HB := HB_
      clear HB_
      have HV0_ := Lib.hid (HV0.out.grow hb_)
      clear HV0
      have HV0 := HV0_
      clear HV0_
      have HV1_ := Lib.hid (HV1.out.grow hb_)
      clear HV1
      have HV1 := HV1_
      clear HV1_
      have HT_ := Lib.hid (HT.out.grow hb_)
      clear HT
      have HT := HT_
      clear HT_
      have HS_ := Lib.hid (HS.out.grow hb_)
      clear HS
      have HS := HS_
      clear HS_
      have HI_ := Lib.hid (HI.out.grow hb_)
      clear HI
      have HI := HI_
      clear HI_
      generalize hg_ : w_.heap.size = g2v at HX_ ⊢
      clear hg_
      have HV2 := HX_
      clear hb_ HX_
      clear w1_
      try clear w_
      rename World => w_
      cases ok with
      | true =>
        have HRES := Lib.hid (show decide (climbT b i N ds = some r) = d by
          obtain ⟨x, hx⟩ := Option.isSome_iff_exists.1 HOK.out
          rw [← HD.out]; unfold climbD; rw [hx]
          by_cases hxr : x = r
          · subst hxr; simp
          · simp [hxr])
        go_wp2_with (first | (with_reducible refine wpl_loadb (o := ⟨_, .load _ _, _, _, _, _⟩) rfl rfl row_id HV1.out.blk rfl HV1.out.len ?_) | (with_reducible refine wpl_loadw (o := ⟨_, .load _ _, _, _, _, _⟩) (by first | rfl | (go_simp; done) | fail) rfl row_id HV1.out.blk rfl HV1.out.len ?_) | (with_reducible refine wpl_loadb (o := ⟨_, .load _ _, _, _, _, _⟩) rfl rfl row_id HV2.out.blk rfl HV2.out.len ?_) | (with_reducible refine wpl_loadw (o := ⟨_, .load _ _, _, _, _, _⟩) (by first | rfl | (go_simp; done) | fail) rfl row_id HV2.out.blk rfl HV2.out.len ?_) | (with_reducible refine wpl_loadb (o := ⟨_, .load _ _, _, _, _, _⟩) rfl rfl row_id HV0.out.blk rfl HV0.out.len ?_) | (with_reducible refine wpl_loadw (o := ⟨_, .load _ _, _, _, _, _⟩) (by first | rfl | (go_simp; done) | fail) rfl row_id HV0.out.blk rfl HV0.out.len ?_))
        refine (tis5_any HRES.out HR.out _ HS.out hc (by omega) HI.out (by omega) HT.out).mono ?_
        rintro e w_ ⟨rfl, hb_⟩
        have HB_ := Lib.hid (HB.out.grow' hb_)
        clear HB
        have HB := HB_
        clear HB_
        have HV0_ := Lib.hid (HV0.out.grow hb_)
        clear HV0
        have HV0 := HV0_
        clear HV0_
        have HV1_ := Lib.hid (HV1.out.grow hb_)
        clear HV1
        have HV1 := HV1_
        clear HV1_
        have HV2_ := Lib.hid (HV2.out.grow hb_)
        clear HV2
        have HV2 := HV2_
        clear HV2_
        have HT_ := Lib.hid (HT.out.grow hb_)
        clear HT
        have HT := HT_
        clear HT_
        clear hb_
        go_wp2_with (first | (with_reducible refine wpl_loadb (o := ⟨_, .load _ _, _, _, _, _⟩) rfl rfl row_id HV1.out.blk rfl HV1.out.len ?_) | (with_reducible refine wpl_loadw (o := ⟨_, .load _ _, _, _, _, _⟩) (by first | rfl | (go_simp; done) | fail) rfl row_id HV1.out.blk rfl HV1.out.len ?_) | (with_reducible refine wpl_loadb (o := ⟨_, .load _ _, _, _, _, _⟩) rfl rfl row_id HV2.out.blk rfl HV2.out.len ?_) | (with_reducible refine wpl_loadw (o := ⟨_, .load _ _, _, _, _, _⟩) (by first | rfl | (go_simp; done) | fail) rfl row_id HV2.out.blk rfl HV2.out.len ?_) | (with_reducible refine wpl_loadb (o := ⟨_, .load _ _, _, _, _, _⟩) rfl rfl row_id HV0.out.blk rfl HV0.out.len ?_) | (with_reducible refine wpl_loadw (o := ⟨_, .load _ _, _, _, _, _⟩) (by first | rfl | (go_simp; done) | fail) rfl row_id HV0.out.blk rfl HV0.out.len ?_))
        refine (awake5_any _ HT.out).mono ?_
        rintro e w_ ⟨rfl, hb_⟩
        have HB_ := Lib.hid (HB.out.grow' hb_)
        go_wp2_with fail
        go_ret
        exact ⟨rfl, HB_.out⟩
      | false =>
        have HRES := Lib.hid (show decide (climbT b i N ds = some r) = false by rw [none_of HOK.out]; simp)
        go_wp2_with (first | (with_reducible refine wpl_loadb (o := ⟨_, .load _ _, _, _, _, _⟩) rfl rfl row_id HV1.out.blk rfl HV1.out.len ?_) | (with_reducible refine wpl_loadw (o := ⟨_, .load _ _, _, _, _, _⟩) (by first | rfl | (go_simp; done) | fail) rfl row_id HV1.out.blk rfl HV1.out.len ?_) | (with_reducible refine wpl_loadb (o := ⟨_, .load _ _, _, _, _, _⟩) rfl rfl row_id HV2.out.blk rfl HV2.out.len ?_) | (with_reducible refine wpl_loadw (o := ⟨_, .load _ _, _, _, _, _⟩) (by first | rfl | (go_simp; done) | fail) rfl row_id HV2.out.blk rfl HV2.out.len ?_) | (with_reducible refine wpl_loadb (o := ⟨_, .load _ _, _, _, _, _⟩) rfl rfl row_id HV0.out.blk rfl HV0.out.len ?_) | (with_reducible refine wpl_loadw (o := ⟨_, .load _ _, _, _, _, _⟩) (by first | rfl | (go_simp; done) | fail) rfl row_id HV0.out.blk rfl HV0.out.len ?_))
        refine (tis5_any HRES.out HR.out _ HS.out hc (by omega) HI.out (by omega) HT.out).mono ?_
        rintro e w_ ⟨rfl, hb_⟩
        have HB_ := Lib.hid (HB.out.grow' hb_)
        clear HB
        have HB := HB_
        clear HB_
        have HV0_ := Lib.hid (HV0.out.grow hb_)
        clear HV0
        have HV0 := HV0_
        clear HV0_
        have HV1_ := Lib.hid (HV1.out.grow hb_)
        clear HV1
        have HV1 := HV1_
        clear HV1_
        have HV2_ := Lib.hid (HV2.out.grow hb_)
        clear HV2
        have HV2 := HV2_
        clear HV2_
        have HT_ := Lib.hid (HT.out.grow hb_)
        clear HT
        have HT := HT_
        clear HT_
        clear hb_
        go_wp2_with (first | (with_reducible refine wpl_loadb (o := ⟨_, .load _ _, _, _, _, _⟩) rfl rfl row_id HV1.out.blk rfl HV1.out.len ?_) | (with_reducible refine wpl_loadw (o := ⟨_, .load _ _, _, _, _, _⟩) (by first | rfl | (go_simp; done) | fail) rfl row_id HV1.out.blk rfl HV1.out.len ?_) | (with_reducible refine wpl_loadb (o := ⟨_, .load _ _, _, _, _, _⟩) rfl rfl row_id HV2.out.blk rfl HV2.out.len ?_) | (with_reducible refine wpl_loadw (o := ⟨_, .load _ _, _, _, _, _⟩) (by first | rfl | (go_simp; done) | fail) rfl row_id HV2.out.blk rfl HV2.out.len ?_) | (with_reducible refine wpl_loadb (o := ⟨_, .load _ _, _, _, _, _⟩) rfl rfl row_id HV0.out.blk rfl HV0.out.len ?_) | (with_reducible refine wpl_loadw (o := ⟨_, .load _ _, _, _, _, _⟩) (by first | rfl | (go_simp; done) | fail) rfl row_id HV0.out.blk rfl HV0.out.len ?_))
        refine (awake5_any _ HT.out).mono ?_
        rintro e w_ ⟨rfl, hb_⟩
        have HB_ := Lib.hid (HB.out.grow' hb_)
        go_wp2_with fail
        go_ret
        exact ⟨rfl, HB_.out⟩
    · have g2 : decide (40 < (n2 : Int)) = true := by simp; omega
      go_enter Tryd.func13, Tryd.ntmps13
      go_wp2_with (first | (with_reducible refine wpl_box (o := ⟨some 9, _, _, _, _, _⟩) rfl rfl rfl ?_))
      intro w2_ hb2_ hb_ hsz2_
      have HX_ := Lib.hid (at_mk hb2_ HR.out.len)
      clear hb2_ hsz2_
      have HB_ := Lib.hid (HB.out.grow' hb_)
      clear HB
      have HB := HB_
      clear HB_
      have HT_ := Lib.hid (HT.out.grow hb_)
      clear HT
      have HT := HT_
      clear HT_
      have HV0 := HX_
      clear hb_ HX_
      try clear w_
      rename World => w_
      go_wp2_with fail
      refine (awake5_any _ HT.out).mono ?_
      rintro e w_ ⟨rfl, hb_⟩
      have HB_ := Lib.hid (HB.out.grow' hb_)
      clear HB
      have HB := HB_
      clear HB_
      clear hb_
      go_wp2_with fail
      go_ret
      exact ⟨rfl, HB.out⟩
  · have g1 : decide (60 < (n : Int)) = true := by simp; omega
    go_enter Tryd.func13, Tryd.ntmps13
    go_wp2_with (first | (with_reducible refine wpl_box (o := ⟨some 9, _, _, _, _, _⟩) rfl rfl rfl ?_))
    intro w2_ hb2_ hb_ hsz2_
    have HX_ := Lib.hid (at_mk hb2_ HR.out.len)
    clear hb2_ hsz2_
    have HB_ := Lib.hid (HB.out.grow' hb_)
    clear HB
    have HB := HB_
    clear HB_
    have HT_ := Lib.hid (HT.out.grow hb_)
    clear HT
    have HT := HT_
    clear HT_
    have HV0 := HX_
    clear hb_ HX_
    try clear w_
    rename World => w_
    go_wp2_with fail
    refine (awake5_any _ HT.out).mono ?_
    rintro e w_ ⟨rfl, hb_⟩
    have HB_ := Lib.hid (HB.out.grow' hb_)
    clear HB
    have HB := HB_
    clear HB_
    clear hb_
    go_wp2_with fail
    go_ret
    exact ⟨rfl, HB.out⟩
theorem treeAny_walk (A : Option Addr) (n c : Nat) (b : List UInt8) (i N : Int) (A2 : Option Addr) (n2 c2 : Nat) (ds : List (List UInt8)) (r : List UInt8) (w : World) (hs : Sl w w.heap.size 1 A n (b.map B)) (hc : n ≤ c) (hm : c ≤ maxLen) (hz : (Lit.int .i64 i).wf = true) (hz2 : (Lit.int .i64 N).wf = true)
    (hi : Sl w w.heap.size 32 A2 n2 (ds.flatMap (·.map B))) (hl : ds.length = n2) (h32 : ∀ x ∈ ds, x.length = 32) (hc2 : n2 ≤ c2) (hm2 : c2 ≤ maxLen) (hr : r.length = 32) (ht : Tabs w) :
    Calls Tryd.prog 13 #[.slice A n c, .int .i64 i, .int .i64 N, .slice A2 n2 c2, .agg (r.map B).toArray] w fun e w' => e = .returned (.bool true) ∧ Below w.heap.size w w' :=
  treeAny_any A A2 n c n2 c2 b i N ds r ⟨rfl, hr⟩ w hs hc ⟨hi, hl, h32, hc2⟩ ht
end Go.Proofs.YtlondennhhffdaaDoor

/- The given card TreeAnyCardSaid, out of the walk treeAny_walk: for every input the law returns true, and each argument reads as it did; the tables of package sha are tied to the program's text. No condition. -/
namespace Go.Proofs.YtlondennhhffdaaDoor.lawTreeAny
open Go.ChangeShapes Go.WideShapes Go.ChangeAt Go.RowKit
open Go.ChangeMaps (open_string shut_string)
set_option linter.unusedVariables false

theorem laidOut : laidOutB Tryd.prog = true := laid_out
set_option maxRecDepth 100000 in
theorem contract (H : Type) (enc : TypeId × Value → H) (W : World) (base : Nat) (args : Array Value) (ds gs : List (DataW H)) (before : List MemPlace)
    (hval0 : ∀ (j : Nat) t v, Tryd.f13.params[j]? = some t → args[j]? = some v → Value.okWide Tryd.prog W .any base t v)
    (hW : DataW.Whole enc Tryd.prog Tryd.f13.params.toList Rows.treeAnySpec.vars false W args.toList ds gs before) (hL : laidMetH Tryd.prog Rows.treeAnyRow.laid W) :
    Calls Tryd.prog 13 args W fun e W' => ∃ v, e = .returned v ∧ Rows.treeAnySpec.post enc Tryd.prog Tryd.f13 false true false false W args v W' := by
  have hval : ∀ (j : Nat) t v, Tryd.f13.params[j]? = some t → args[j]? = some v → Value.okWide Tryd.prog W .any base t v := hval0
  have hW' := hW
  obtain ⟨p, q, hA0, hV, rfl, hfz, hnd⟩ := hW
  have hA : DataW.TrodAll enc Tryd.prog W 0 (fun _ => true) true Tryd.f13.params.toList args.toList ds p := hA0
  rw [Tryd.params13] at hA hval
  obtain ⟨v0, vs0, d0, ds0, p0, q0, hargs, rfl, rfl, h0, r0⟩ := trodAll_cons hA
  obtain ⟨v1, vs1, d1, ds1, p1, q1, rfl, rfl, rfl, h1, r1⟩ := trodAll_cons r0
  obtain ⟨v2, vs2, d2, ds2, p2, q2, rfl, rfl, rfl, h2, r2⟩ := trodAll_cons r1
  obtain ⟨v3, vs3, d3, ds3, p3, q3, rfl, rfl, rfl, h3, r3⟩ := trodAll_cons r2
  obtain ⟨v4, vs4, d4, ds4, p4, q4, rfl, rfl, rfl, h4, r4⟩ := trodAll_cons r3
  obtain ⟨rfl, rfl, rfl⟩ := trodAll_nil r4
  obtain rfl : args = #[v0, v1, v2, v3, v4] := by cases args; simp_all
  obtain ⟨rfl, rfl⟩ := trodVars_none hV
  have k0 := h0
  have lt0 : ∀ x ∈ p0, x.block < W.heap.size := by obtain ⟨m, hm⟩ := k0; exact DataW.trod_lt m _ _ _ hm
  obtain ⟨x0_0, x0_1, x0_2, x0_3, rfl, f0_0, f0_1, f0_2⟩ := open_b (hval 0 22 v0 rfl rfl) h0
  have k1 := h1
  have lt1 : ∀ x ∈ p1, x.block < W.heap.size := by obtain ⟨m, hm⟩ := k1; exact DataW.trod_lt m _ _ _ hm
  obtain ⟨a1, rfl, rfl, rfl, w1⟩ := open_int Tryd.underlying3 (hval 1 3 v1 rfl rfl) h1
  have k2 := h2
  have lt2 : ∀ x ∈ p2, x.block < W.heap.size := by obtain ⟨m, hm⟩ := k2; exact DataW.trod_lt m _ _ _ hm
  obtain ⟨a2, rfl, rfl, rfl, w2⟩ := open_int Tryd.underlying3 (hval 2 3 v2 rfl rfl) h2
  have k3 := h3
  have lt3 : ∀ x ∈ p3, x.block < W.heap.size := by obtain ⟨m, hm⟩ := k3; exact DataW.trod_lt m _ _ _ hm
  obtain ⟨x3_0, x3_1, x3_2, x3_3, rfl, f3_0, f3_1, f3_2, f3_3, f3_4⟩ := open_digs (hval 3 57 v3 rfl rfl) h3
  have k4 := h4
  have lt4 : ∀ x ∈ p4, x.block < W.heap.size := by obtain ⟨m, hm⟩ := k4; exact DataW.trod_lt m _ _ _ hm
  obtain ⟨x4_0, rfl, f4_0⟩ := open_dig (hval 4 26 v4 rfl rfl) h4
  have htabs : Tabs W := tabs_of hL
  clear hA0 hval0 hL
  refine (treeAny_walk x0_0 x0_1 x0_2 x0_3 a1 a2 x3_0 x3_1 x3_2 x3_3 x4_0 W f0_0 f0_1 f0_2 w1 w2 f3_0 f3_1 f3_2 f3_3 f3_4 f4_0 htabs).mono fun e W' ⟨he, bel⟩ => ?_
  subst he
  exact ⟨_, rfl, _, _, _, [], _, [], hW', trodAll_mk1 (shut_bool Tryd.underlying4 _), (trodAll_cons_mk (Below.trod laidOut (by kernel_rfl) (of_decide_eq_true (by kernel_rfl)) k0 bel lt0) (trodAll_cons_mk (Below.trod laidOut (by kernel_rfl) (of_decide_eq_true (by kernel_rfl)) k1 bel lt1) (trodAll_cons_mk (Below.trod laidOut (by kernel_rfl) (of_decide_eq_true (by kernel_rfl)) k2 bel lt2) (trodAll_cons_mk (Below.trod laidOut (by kernel_rfl) (of_decide_eq_true (by kernel_rfl)) k3 bel lt3) (trodAll_cons_mk (Below.trod laidOut (by kernel_rfl) (of_decide_eq_true (by kernel_rfl)) k4 bel lt4) trodAll_mk0))))), rfl, bel.frame _, fun h => by cases h⟩

theorem laid_met (os : Os) : laidMet Tryd.prog Rows.treeAnyRow.laid ((laidWorld os).forCall (fun _ _ => 0) ⟨#[], #[.slice none 0 0, .int .i64 0, .int .i64 0, .slice none 0 0, .agg #[.int .u8 0, .int .u8 0, .int .u8 0, .int .u8 0, .int .u8 0, .int .u8 0, .int .u8 0, .int .u8 0, .int .u8 0, .int .u8 0, .int .u8 0, .int .u8 0, .int .u8 0, .int .u8 0, .int .u8 0, .int .u8 0, .int .u8 0, .int .u8 0, .int .u8 0, .int .u8 0, .int .u8 0, .int .u8 0, .int .u8 0, .int .u8 0, .int .u8 0, .int .u8 0, .int .u8 0, .int .u8 0, .int .u8 0, .int .u8 0, .int .u8 0, .int .u8 0]], []⟩).memory :=
  laidMet_of_run' 8 (by kernel_rfl) (by kernel_rfl)
theorem reads (os : Os) {H : Type} (enc : TypeId × Value → H) : ∃ ds places, DataW.whole enc Tryd.prog ((laidWorld os).forCall (fun _ _ => 0) ⟨#[], #[.slice none 0 0, .int .i64 0, .int .i64 0, .slice none 0 0, .agg #[.int .u8 0, .int .u8 0, .int .u8 0, .int .u8 0, .int .u8 0, .int .u8 0, .int .u8 0, .int .u8 0, .int .u8 0, .int .u8 0, .int .u8 0, .int .u8 0, .int .u8 0, .int .u8 0, .int .u8 0, .int .u8 0, .int .u8 0, .int .u8 0, .int .u8 0, .int .u8 0, .int .u8 0, .int .u8 0, .int .u8 0, .int .u8 0, .int .u8 0, .int .u8 0, .int .u8 0, .int .u8 0, .int .u8 0, .int .u8 0, .int .u8 0, .int .u8 0]], []⟩).memory Tryd.f13.params.toList Rows.treeAnySpec.vars false #[.slice none 0 0, .int .i64 0, .int .i64 0, .slice none 0 0, .agg #[.int .u8 0, .int .u8 0, .int .u8 0, .int .u8 0, .int .u8 0, .int .u8 0, .int .u8 0, .int .u8 0, .int .u8 0, .int .u8 0, .int .u8 0, .int .u8 0, .int .u8 0, .int .u8 0, .int .u8 0, .int .u8 0, .int .u8 0, .int .u8 0, .int .u8 0, .int .u8 0, .int .u8 0, .int .u8 0, .int .u8 0, .int .u8 0, .int .u8 0, .int .u8 0, .int .u8 0, .int .u8 0, .int .u8 0, .int .u8 0, .int .u8 0, .int .u8 0]].toList 8 = some (ds, [], places) := by
  obtain ⟨⟨ds, gs, pl⟩, h, e⟩ := Option.map_eq_some_iff.1 (show (DataW.whole enc Tryd.prog ((laidWorld os).forCall (fun _ _ => 0) ⟨#[], #[.slice none 0 0, .int .i64 0, .int .i64 0, .slice none 0 0, .agg #[.int .u8 0, .int .u8 0, .int .u8 0, .int .u8 0, .int .u8 0, .int .u8 0, .int .u8 0, .int .u8 0, .int .u8 0, .int .u8 0, .int .u8 0, .int .u8 0, .int .u8 0, .int .u8 0, .int .u8 0, .int .u8 0, .int .u8 0, .int .u8 0, .int .u8 0, .int .u8 0, .int .u8 0, .int .u8 0, .int .u8 0, .int .u8 0, .int .u8 0, .int .u8 0, .int .u8 0, .int .u8 0, .int .u8 0, .int .u8 0, .int .u8 0, .int .u8 0]], []⟩).memory Tryd.f13.params.toList Rows.treeAnySpec.vars false #[.slice none 0 0, .int .i64 0, .int .i64 0, .slice none 0 0, .agg #[.int .u8 0, .int .u8 0, .int .u8 0, .int .u8 0, .int .u8 0, .int .u8 0, .int .u8 0, .int .u8 0, .int .u8 0, .int .u8 0, .int .u8 0, .int .u8 0, .int .u8 0, .int .u8 0, .int .u8 0, .int .u8 0, .int .u8 0, .int .u8 0, .int .u8 0, .int .u8 0, .int .u8 0, .int .u8 0, .int .u8 0, .int .u8 0, .int .u8 0, .int .u8 0, .int .u8 0, .int .u8 0, .int .u8 0, .int .u8 0, .int .u8 0, .int .u8 0]].toList 8).map (fun x => x.2.1) = some [] by kernel_rfl)
  simp only at e
  subst e
  exact ⟨ds, pl, h⟩

set_option maxRecDepth 100000 in
theorem lifted (os : Os) (started : os.Started) (H : Type) (enc : TypeId × Value → H) (F : Stop.Interp) :
    ReturnsInHanded {} Tryd.checked os 13 .any ((OpenSpec.ofChange Rows.treeAnySpec).preRow enc Tryd.prog Tryd.f13 Rows.treeAnyRow.domain false Rows.treeAnyRow.laid) (((OpenSpec.ofChange Rows.treeAnySpec).at F).post enc Tryd.prog Tryd.f13 false true false false) := by
  obtain ⟨ds, places, hx⟩ := reads os enc
  refine returnsInHanded_of_row (C := Tryd.checked) (s := OpenSpec.ofChange Rows.treeAnySpec) own_knob started (by kernel_rfl) Tryd.func13
    (witness_row_at (enc := enc) (C := Tryd.checked) false (laidWorld os) #[.slice none 0 0, .int .i64 0, .int .i64 0, .slice none 0 0, .agg #[.int .u8 0, .int .u8 0, .int .u8 0, .int .u8 0, .int .u8 0, .int .u8 0, .int .u8 0, .int .u8 0, .int .u8 0, .int .u8 0, .int .u8 0, .int .u8 0, .int .u8 0, .int .u8 0, .int .u8 0, .int .u8 0, .int .u8 0, .int .u8 0, .int .u8 0, .int .u8 0, .int .u8 0, .int .u8 0, .int .u8 0, .int .u8 0, .int .u8 0, .int .u8 0, .int .u8 0, .int .u8 0, .int .u8 0, .int .u8 0, .int .u8 0, .int .u8 0]] rfl (by kernel_rfl) (by kernel_rfl) (by kernel_rfl)
      (OpenSpec.preRow_of_cond 8 hx (by kernel_rfl) (fun k hk => by cases hk) (by kernel_rfl) (laid_met os))) ?_
  intro W base args ds gs before hval hW _ _ _ hL _ _
  exact contract H enc W base args ds gs before hval hW hL

theorem said : Rows.TreeAnySaid :=
  OpenClaim.holds_of_cond 13 Tryd.f13 rfl rfl rfl rfl rfl rfl rfl ⟨rfl, rfl, rfl, rfl, rfl⟩ rfl rfl rfl rfl rfl (by kernel_rfl) Tryd.func13 (by kernel_rfl)
    (of_decide_eq_true (by kernel_rfl)) (by unfold Func.isWrapper; first | (rw [if_pos (by decide +kernel)]; kernel_rfl) | (rw [if_neg (by decide +kernel)]; exact ⟨rfl, rfl⟩))
    (fun os started H enc _ F => by rw [OpenClaim.pre_eq_preRow]; exact lifted os started H enc F)

theorem plain (f : FuncId) (fn : Func) (hf : Tryd.pinned.checked.prog.funcNamed "seisin/seisinlaw05.TreeAny" = some f) (hfn : Tryd.pinned.checked.prog.funcs[f]? = some fn) :
    false = Tryd.pinned.checked.prog.looks [] ∧ ∀ (j : Nat) t, fn.params[j]? = some t → Tryd.pinned.checked.prog.wantsStandIn t = false := by
  obtain rfl : f = 13 := Option.some.inj ((show Tryd.prog.funcNamed "seisin/seisinlaw05.TreeAny" = some 13 by kernel_rfl).symm.trans hf) |>.symm
  obtain rfl : fn = Tryd.f13 := (Option.some.inj (Tryd.func13.symm.trans hfn)).symm
  refine ⟨by kernel_rfl, fun j t ht => ?_⟩
  rw [Tryd.params13] at ht
  have hm : t ∈ [22, 3, 3, 57, 26] := by simpa using Array.mem_of_getElem? ht
  have hall : ([22, 3, 3, 57, 26].all fun u => !Tryd.prog.wantsStandIn u) = true := by kernel_rfl
  exact (show Tryd.prog.wantsStandIn t = false by simpa using List.all_eq_true.1 hall t hm)

theorem proved : Rows.TreeAnyCardSaid :=
  Claim7.holds_tied_plain_at .later [] _ _ _ _ said (fun _ h => by cases h) (by kernel_rfl) (fun _ h => by cases h) treeAny_row_tie rfl ⟨rfl, rfl⟩ (by kernel_rfl) rfl plain (by kernel_rfl)
#print axioms proved
end Go.Proofs.YtlondennhhffdaaDoor.lawTreeAny

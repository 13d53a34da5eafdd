/- The given card TreeClimbsCardSaid, out of the walk treeClimbs_walk: for every input the law returns true, and each argument reads as it did; the tables of package sha are tied to the program's text. No condition. -/
import Derived.Test.YtlondennhhffdaaDoorTreeClimbsB17
import Derived.Test.YtlondennhhffdaaDoorTreeClimbsB12
import Derived.Test.YtlondennhhffdaaDoorTreeClimbsB6
import Derived.Test.YtlondennhhffdaaDoorTreeClimbsB2
import Derived.ShutString
import Derived.ChangeOld
import Derived.Below
/- The walk of seisinlaw05.TreeClimbs. -/
namespace Go.Proofs.YtlondennhhffdaaDoor
open Go.RowKit Go.Shelf
set_option linter.unusedVariables false

set_option maxRecDepth 100000 in
set_option maxHeartbeats 4000000 in
theorem treeClimbs_any (A : Option Addr) (n c : Nat) (ps : List (Value × List UInt8)) (z o : Int) (w : World) (hp : Parts w w.heap.size A n ps) (hc : n ≤ c) (hz : -9223372036854775808 ≤ z) (hz2 : z ≤ 9223372036854775807)
    (ho1 : -9223372036854775808 ≤ o) (ho2 : o ≤ 9223372036854775807) (ht : Tabs w) :
    Calls Tryd.prog 14 #[.slice A n c, .int .i64 z, .int .i64 o] w fun e w' => e = .returned (.bool true) ∧ Below w.heap.size w w' := by
  have HT := Lib.hid ht; have HP := Lib.hid hp
  have HB := Lib.hid (Below.refl w.heap.size w)
  have HN := Lib.hid hp.len
  clear ht hp
  obtain ⟨xs, hxs⟩ := dig_root (ps.map Prod.snd)
  have HX := Lib.hid hxs
  clear hxs
  go_enter Tryd.func14, Tryd.ntmps14
  go_wp2_with fail
  refine (great_any _ _ _ ps _ HP.out).mono ?_
  rintro e w_ ⟨gr, rfl, hg, hb_⟩
  have HGR := Lib.hid hg
  clear hg
  have HB_ := Lib.hid (HB.out.grow' hb_)
  have HT_ := Lib.hid (HT.out.grow hb_)
  have HP_ := Lib.hid (HP.out.grow hb_)
  clear HB HT HP
  have HB := HB_
  have HT := HT_
  have HP := HP_
  clear HB_ HT_ HP_
  clear hb_
  cases gr with
  | true =>
    go_wp2_with fail
    refine (awake5_any _ HT.out).mono ?_
    rintro e w_ ⟨rfl, hb_⟩
    have HB_ := Lib.hid (HB.out.grow' hb_)
    clear HB
    have HB := HB_
    clear HB_
    clear hb_
    go_wp2_with fail
    go_ret
    exact ⟨rfl, HB.out⟩
  | false =>
    obtain ⟨h40, hl60⟩ := HGR.out rfl
    have HL := Lib.hid (fun p hp => Nat.le_trans (hl60 p hp) (show 60 ≤ 1000000 by omega))
    clear HGR
    have HL60 := Lib.hid hl60
    clear hl60
    by_cases h1 : 1 ≤ n
    · have g2 : decide ((n : Int) < 1) = false := by simp; omega
      obtain ⟨k, hk⟩ : ∃ k : Nat, z % (n : Int) = (k : Int) := ⟨(z % (n : Int)).toNat, by have := Int.emod_nonneg z (show (n : Int) ≠ 0 by omega); omega⟩
      have hkn : k < n := by have := Int.emod_lt_of_pos z (show 0 < (n : Int) by omega); omega
      have HK := Lib.hid hk
      clear hk
      obtain ⟨j, hj⟩ : ∃ j : Nat, o % (n : Int) = (j : Int) := ⟨(o % (n : Int)).toNat, by have := Int.emod_nonneg o (show (n : Int) ≠ 0 by omega); omega⟩
      have hjn : j < n := by have := Int.emod_lt_of_pos o (show 0 < (n : Int) by omega); omega
      have HJ := Lib.hid hj
      clear hj
      obtain ⟨bA, oA, A2, c2, bk, rfl, hpk, hcl, hcc, hsk⟩ := HP.out.at_ hkn
      obtain ⟨bA', oA', A3, c3, bj, hAe, hpj, hclj, hccj, hsj⟩ := HP.out.at_ hjn
      cases hAe
      have HPK := Lib.hid hpk
      have HSK := Lib.hid hsk
      have HCK := Lib.hid (show KeepC w_ ⟨bA, oA + k, none⟩ (.slice A2 bk.length c2) from hcl)
      have HSJ := Lib.hid hsj
      have HCJ := Lib.hid (show KeepC w_ ⟨bA, oA + j, none⟩ (.slice A3 bj.length c3) from hclj)
      have hbk60 : bk.length ≤ 60 := HL60.out _ (List.mem_of_getElem? hpk)
      have hbj60 : bj.length ≤ 60 := HL60.out _ (List.mem_of_getElem? hpj)
      have hpk2 : (ps.map Prod.snd)[k]? = some bk := by rw [List.getElem?_map, hpk]; rfl
      have HPK2 := Lib.hid hpk2
      clear hpk hsk hcl hpk2 hpj hsj hclj
      obtain ⟨ds, hds⟩ : ∃ ds, pathI (ps.map Prod.snd) (k : Int) = ds := ⟨_, rfl⟩
      have HDS := Lib.hid hds
      have HDL := Lib.hid (show ds.length ≤ n by have h := pathI_le (ps.map Prod.snd) (k : Int); rw [hds, List.length_map, HN.out] at h; exact h)
      have HD32 := Lib.hid (show ∀ d ∈ ds, d.length = 32 by rw [← hds]; exact pathI_32 _ _)
      have HPA := Lib.hid (show climbT bk k n ds = some (rootB (ps.map Prod.snd)) by
        have h := climbT_path HPK2.out (by rw [List.length_map, HN.out]; omega)
        rw [List.length_map, HN.out, hds] at h; exact h)
      have HSH := Lib.hid (show ∀ (y : List UInt8) (q : List (List UInt8)), q.length ≠ ds.length → climbT y k n q = none from fun y q hq => by
        have h := climbT_short (y := y) (q := q) HPK2.out (by rw [List.length_map, HN.out]; omega) (by rw [hds]; exact hq)
        rw [List.length_map, HN.out] at h; exact h)
      clear hds
      obtain ⟨r, hr⟩ : ∃ r, r = rootB (ps.map Prod.snd) := ⟨_, rfl⟩
      rw [← hr] at HX HPA
      have HRT := Lib.hid hr.symm
      clear hr
      have HXP := Lib.hid (show Dig xs (climbD bk k n ds) by rw [climbD_of HPA.out]; exact HX.out)
      have HOK := Lib.hid (show (climbT bk k n ds).isSome = true by rw [HPA.out]; rfl)
      have HRES := Lib.hid (show decide (climbT bk k n ds = some r) = true by rw [HPA.out]; simp)
      obtain ⟨zn, hzn⟩ : ∃ v, Dig v (climbD bk (n : Int) n ds) := ⟨(climbD bk (n : Int) n ds).map B, rfl, climbD_len bk (n : Int) n ds⟩
      have HZN := Lib.hid hzn
      have HNN := Lib.hid (show (climbT bk (n : Int) n ds).isSome = false by unfold climbT; rw [if_pos (by omega)]; rfl)
      obtain ⟨zl, hzl⟩ : ∃ v, Dig v (climbD bk k n (ds ++ [r])) := ⟨(climbD bk k n (ds ++ [r])).map B, rfl, climbD_len bk k n (ds ++ [r])⟩
      have HZL := Lib.hid hzl
      have HNL := Lib.hid (show (climbT bk k n (ds ++ [r])).isSome = false by rw [HSH.out bk (ds ++ [r]) (by simp)]; rfl)
      obtain ⟨zs, hz1⟩ : ∃ v, Dig v (climbD bj k n ds) := ⟨(climbD bj k n ds).map B, rfl, climbD_len bj k n ds⟩
      have HZ := Lib.hid hz1
      obtain ⟨ok, hok⟩ : ∃ ok, (climbT bj k n ds).isSome = ok := ⟨_, rfl⟩
      have HOK2 := Lib.hid hok
      obtain ⟨d1, hd1⟩ : ∃ d, (climbD bj k n ds == r) = d := ⟨_, rfl⟩
      have q1 := HZ.out.eql_b HX.out hd1
      have q2 := HXP.out.neq_b HX.out (show (climbD bk k n ds == r) = true by rw [climbD_of HPA.out]; simp)
      simp only [Bool.not_true] at q2
      have HD1 := Lib.hid hd1
      obtain ⟨sm, hsm⟩ : ∃ d, decide (bj = bk) = d := ⟨_, rfl⟩
      have HSM := Lib.hid hsm
      clear hz1 hok hd1 hsm hzn hzl
      go_wp2_with fail
      refine (pick_any z n _ hz hz2 (by omega) (by omega)).mono ?_
      rintro e w1 ⟨rfl, hw1⟩
      rw [hw1, HK.out]
      clear hw1
      clear w1
      go_wp2_with fail
      refine (path_any n n c _ ps k ds _ (Nat.le_refl _) HDS.out HP.out hc (by omega) HL.out HT.out).mono ?_
      rintro e w_ ⟨A1, c1, rfl, ho_, hb_⟩
      have HB_ := Lib.hid (HB.out.grow' hb_)
      clear HB
      have HB := HB_
      clear HB_
      have HP_ := Lib.hid (HP.out.grow hb_)
      clear HP
      have HP := HP_
      clear HP_
      have HT_ := Lib.hid (HT.out.grow hb_)
      clear HT
      have HT := HT_
      clear HT_
      have HSK_ := Lib.hid (HSK.out.grow hb_)
      clear HSK
      have HSK := HSK_
      clear HSK_
      have HCK_ := Lib.hid (HCK.out.grow hb_)
      clear HCK
      have HCK := HCK_
      clear HCK_
      have HSJ_ := Lib.hid (HSJ.out.grow hb_)
      clear HSJ
      have HSJ := HSJ_
      clear HSJ_
      have HCJ_ := Lib.hid (HCJ.out.grow hb_)
      clear HCJ
      have HCJ := HCJ_
      clear HCJ_
      clear hb_
      have HI := Lib.hid (Ids.own ho_ rfl HD32.out (own_cap ho_))
      clear ho_
      go_wp2_with fail
      refine (rroot_any n n c _ ps xs _ (Nat.le_refl _) (by rw [HRT.out]; exact HX.out) HP.out hc (by omega) HL.out HT.out).mono ?_
      rintro e w_ ⟨rfl, hb_⟩
      have HB_ := Lib.hid (HB.out.grow' hb_)
      clear HB
      have HB := HB_
      clear HB_
      have HP_ := Lib.hid (HP.out.grow hb_)
      clear HP
      have HP := HP_
      clear HP_
      have HT_ := Lib.hid (HT.out.grow hb_)
      clear HT
      have HT := HT_
      clear HT_
      have HSK_ := Lib.hid (HSK.out.grow hb_)
      clear HSK
      have HSK := HSK_
      clear HSK_
      have HCK_ := Lib.hid (HCK.out.grow hb_)
      clear HCK
      have HCK := HCK_
      clear HCK_
      have HSJ_ := Lib.hid (HSJ.out.grow hb_)
      clear HSJ
      have HSJ := HSJ_
      clear HSJ_
      have HCJ_ := Lib.hid (HCJ.out.grow hb_)
      clear HCJ
      have HCJ := HCJ_
      clear HCJ_
      have HI_ := Lib.hid (HI.out.grow hb_)
      clear HI
      have HI := HI_
      clear HI_
      clear hb_
      go_wp2_with (first | (with_reducible refine wpl_alloc (o := ⟨some 9, _, _, _, _, _⟩) rfl rfl zero_id ?_))
      intro w1_ hb1_ hbw1_ hsz1_
      have HB1_ := Lib.hid (at_mk hb1_ len_id)
      have HBW1_ := Lib.hid hbw1_
      have HZ1_ := Lib.hid hsz1_
      clear hb1_ hbw1_ hsz1_
      go_wp2_with (first | (with_reducible refine wpl_storeb (o := ⟨none, .store _ _ _, _, _, _, _⟩) rfl rfl row_id HB1_.out.blk rfl rfl HB1_.out.len HX.out.len HX.out.one ?_))
      intro w2_ hb2_ hg2_ hsz2_
      have hb_ := var_grow HBW1_.out HZ1_.out hg2_
      have HX_ := Lib.hid (at_mk hb2_ HX.out.len)
      clear hb2_ hg2_ hsz2_ HB1_ HBW1_ HZ1_
      have HB_ := Lib.hid (HB.out.grow' hb_)
      clear HB
      have HB := HB_
      clear HB_
      have HP_ := Lib.hid (HP.out.grow hb_)
      clear HP
      have HP := HP_
      clear HP_
      have HT_ := Lib.hid (HT.out.grow hb_)
      clear HT
      have HT := HT_
      clear HT_
      have HSK_ := Lib.hid (HSK.out.grow hb_)
      clear HSK
      have HSK := HSK_
      clear HSK_
      have HCK_ := Lib.hid (HCK.out.grow hb_)
      clear HCK
      have HCK := HCK_
      clear HCK_
      have HSJ_ := Lib.hid (HSJ.out.grow hb_)
      clear HSJ
      have HSJ := HSJ_
      clear HSJ_
      have HCJ_ := Lib.hid (HCJ.out.grow hb_)
      clear HCJ
      have HCJ := HCJ_
      clear HCJ_
      have HI_ := Lib.hid (HI.out.grow hb_)
      clear HI
      have HI := HI_
      clear HI_
      generalize hg_ : w_.heap.size = gr at HX_ ⊢
      clear hg_
      have HVR := HX_
      clear hb_ HX_
      clear w1_
      try clear w_
      rename World => w_
      have hcell := HCK.out
      unfold KeepC at hcell
      go_wp2_with fail
      clear hcell
      refine (tclimb_any _ _ _ _ _ _ bk k n ds HXP.out _ HSK.out hcc (by omega) HI.out (by have := HDL.out; omega) HT.out).mono ?_
      rintro e w5_ ⟨rfl, hb_⟩
      rw [HOK.out]
      have hb_ := hb_
      clear hb_
      have HB_ := Lib.hid (HB.out.grow' hb_)
      clear HB
      have HB := HB_
      clear HB_
      have HP_ := Lib.hid (HP.out.grow hb_)
      clear HP
      have HP := HP_
      clear HP_
      have HT_ := Lib.hid (HT.out.grow hb_)
      clear HT
      have HT := HT_
      clear HT_
      have HSK_ := Lib.hid (HSK.out.grow hb_)
      clear HSK
      have HSK := HSK_
      clear HSK_
      have HCK_ := Lib.hid (HCK.out.grow hb_)
      clear HCK
      have HCK := HCK_
      clear HCK_
      have HSJ_ := Lib.hid (HSJ.out.grow hb_)
      clear HSJ
      have HSJ := HSJ_
      clear HSJ_
      have HCJ_ := Lib.hid (HCJ.out.grow hb_)
      clear HCJ
      have HCJ := HCJ_
      clear HCJ_
      have HI_ := Lib.hid (HI.out.grow hb_)
      clear HI
      have HI := HI_
      clear HI_
      have HVR_ := Lib.hid (HVR.out.grow hb_)
      clear HVR
      have HVR := HVR_
      clear HVR_
      clear hb_
      try clear w_
      rename World => w_
      go_wp2_with (first | (with_reducible refine wpl_alloc (o := ⟨some 10, _, _, _, _, _⟩) rfl rfl zero_id ?_))
      intro w1_ hb1_ hbw1_ hsz1_
      have HB1_ := Lib.hid (at_mk hb1_ len_id)
      have HBW1_ := Lib.hid hbw1_
      have HZ1_ := Lib.hid hsz1_
      clear hb1_ hbw1_ hsz1_
      go_wp2_with (first | (with_reducible refine wpl_storeb (o := ⟨none, .store _ _ _, _, _, _, _⟩) rfl rfl row_id HB1_.out.blk rfl rfl HB1_.out.len HXP.out.len HXP.out.one ?_))
      intro w2_ hb2_ hg2_ hsz2_
      have hb_ := var_grow HBW1_.out HZ1_.out hg2_
      have HX_ := Lib.hid (at_mk hb2_ HXP.out.len)
      clear hb2_ hg2_ hsz2_ HB1_ HBW1_ HZ1_
      have HB_ := Lib.hid (HB.out.grow' hb_)
      clear HB
      have HB := HB_
      clear HB_
      have HP_ := Lib.hid (HP.out.grow hb_)
      clear HP
      have HP := HP_
      clear HP_
      have HT_ := Lib.hid (HT.out.grow hb_)
      clear HT
      have HT := HT_
      clear HT_
      have HSK_ := Lib.hid (HSK.out.grow hb_)
      clear HSK
      have HSK := HSK_
      clear HSK_
      have HCK_ := Lib.hid (HCK.out.grow hb_)
      clear HCK
      have HCK := HCK_
      clear HCK_
      have HSJ_ := Lib.hid (HSJ.out.grow hb_)
      clear HSJ
      have HSJ := HSJ_
      clear HSJ_
      have HCJ_ := Lib.hid (HCJ.out.grow hb_)
      clear HCJ
      have HCJ := HCJ_
      clear HCJ_
      have HI_ := Lib.hid (HI.out.grow hb_)
      clear HI
      have HI := HI_
      clear HI_
      have HVR_ := Lib.hid (HVR.out.grow hb_)
      clear HVR
      have HVR := HVR_
      clear HVR_
      generalize hg_ : w_.heap.size = g10 at HX_ ⊢
      clear hg_
      have HV10 := HX_
      clear hb_ HX_
      clear w1_
      try clear w_
      rename World => w_
      have hcell := HCK.out
      unfold KeepC at hcell
      try go_wp2_with fail
      repeat' (first | (with_reducible refine wp_flow (id := 7) [0,1,3,7,7,31,63,127,255,255,255,1791,3839,255,255,16639,255,131071,262143,524287] [0,0,0,0,0,0,0,0,0,0,0,0,0,0,0,0,0,3,0,0] (fun i => match i with | 17 => spV (.bool true) | _ => spV undef) (by kernel_rfl) (by kernel_rfl) ?_) | go_values | go_skip | go_guarded | go_step | go_upon | go_back)
      intro w_ hd_
      have hb_ := hd_.grow
      have HB_ := Lib.hid (HB.out.grow' hb_)
      clear HB
      have HB := HB_
      clear HB_
      have HP_ := Lib.hid (HP.out.grow hb_)
      clear HP
      have HP := HP_
      clear HP_
      have HT_ := Lib.hid (HT.out.grow hb_)
      clear HT
      have HT := HT_
      clear HT_
      have HSK_ := Lib.hid (HSK.out.grow hb_)
      clear HSK
      have HSK := HSK_
      clear HSK_
      have HCK_ := Lib.hid (HCK.out.grow hb_)
      clear HCK
      have HCK := HCK_
      clear HCK_
      have HSJ_ := Lib.hid (HSJ.out.grow hb_)
      clear HSJ
      have HSJ := HSJ_
      clear HSJ_
      have HCJ_ := Lib.hid (HCJ.out.grow hb_)
      clear HCJ
      have HCJ := HCJ_
      clear HCJ_
      have HI_ := Lib.hid (HI.out.grow hb_)
      clear HI
      have HI := HI_
      clear HI_
      have HVR_ := Lib.hid (HVR.out.grow hb_)
      clear HVR
      have HVR := HVR_
      clear HVR_
      have HV10_ := Lib.hid (HV10.out.grow hb_)
      clear HV10
      have HV10 := HV10_
      clear HV10_
      clear hb_ hd_
      show wpL _ _ _ _ _ _ _ [0,1,2,3,4,5,6,7,8,9,10,11,12,13,14,15,16,17,18,19] _ _
      clear hcell
      repeat (first | (refine fl_calm rfl (by decide) (by first | exact wanted_none rfl | (go_simp; done) | fail) (fun w_ _ _ => by first | (go_simp; rfl) | (go_simp; done) | rfl) (fun K hK => ?_); go_simp; refine hK _ ?_; clear hK K) | (refine fl_skip rfl (by first | (go_simp; done) | fail) (fun K hK => ?_); go_simp; refine hK _ ?_; clear hK K) | (refine fl_load rfl (by decide) (by first | exact wanted_none rfl | (go_simp; done) | fail) rfl (by first | rfl | (go_simp; rfl)) (by kernel_rfl) (by first | exact HCK.out) (fun K hK => ?_); go_simp; refine hK _ ?_; clear hK K) | (refine fl_loadb rfl (by decide) (by first | exact wanted_none rfl | (go_simp; done) | fail) rfl row_id HVR.out.blk (by first | rfl | (go_simp; done) | rfl) HVR.out.len (fun K hK => ?_); go_simp; refine hK _ ?_; clear hK K) | (refine fl_loadb rfl (by decide) (by first | exact wanted_none rfl | (go_simp; done) | fail) rfl row_id HV10.out.blk (by first | rfl | (go_simp; done) | rfl) HV10.out.len (fun K hK => ?_); go_simp; refine hK _ ?_; clear hK K))
      refine fl_callv rfl (by kernel_rfl) rfl (by first | exact wanted_none rfl | (go_simp; done) | fail) (fun w_ => by first | (go_simp; exact ⟨rfl, rfl⟩) | (go_simp; rfl) | (go_simp; exact ⟨⟨rfl, rfl, rfl⟩, rfl⟩)) (fun w2_ hg_ hL_ => ?_) (fun K hK => ?_)
      · skip
        replace HSK := Lib.hid (HSK.out.grow hg_)
        replace HI := Lib.hid (HI.out.grow hg_)
        replace HT := Lib.hid (HT.out.grow hg_)
        exact tis5_any HRES.out HX.out _ HSK.out hcc (by omega) HI.out (by have := HDL.out; omega) HT.out
      go_simp
      refine hK _ ?_
      clear hK K
      repeat (first | (refine fl_calm rfl (by decide) (by first | exact wanted_none rfl | (go_simp; done) | fail) (fun w_ _ _ => by first | (go_simp; rfl) | (go_simp; done) | rfl) (fun K hK => ?_); go_simp; refine hK _ ?_; clear hK K) | (refine fl_skip rfl (by first | (go_simp; done) | fail) (fun K hK => ?_); go_simp; refine hK _ ?_; clear hK K))
      refine fl_done ?_
      intro w2_ hg_ hL_
      replace HB := Lib.hid (HB.out.grow' hg_)
      replace HP := Lib.hid (HP.out.grow hg_)
      replace HT := Lib.hid (HT.out.grow hg_)
      replace HSK := Lib.hid (HSK.out.grow hg_)
      replace HCK := Lib.hid (HCK.out.grow hg_)
      replace HSJ := Lib.hid (HSJ.out.grow hg_)
      replace HCJ := Lib.hid (HCJ.out.grow hg_)
      replace HI := Lib.hid (HI.out.grow hg_)
      replace HVR := Lib.hid (HVR.out.grow hg_)
      clear hg_ hL_
      try clear w_
      rename World => w_
      have hcell := HCK.out
      unfold KeepC at hcell
      go_wp2_with fail
      clear hcell
      refine (tclimb_any _ _ _ _ _ _ bk (n : Int) n ds HZN.out _ HSK.out hcc (by omega) HI.out (by have := HDL.out; omega) HT.out).mono ?_
      rintro e w5_ ⟨rfl, hb_⟩
      rw [HNN.out]
      have hb_ := hb_
      clear hb_
      have HB_ := Lib.hid (HB.out.grow' hb_)
      clear HB
      have HB := HB_
      clear HB_
      have HP_ := Lib.hid (HP.out.grow hb_)
      clear HP
      have HP := HP_
      clear HP_
      have HT_ := Lib.hid (HT.out.grow hb_)
      clear HT
      have HT := HT_
      clear HT_
      have HSK_ := Lib.hid (HSK.out.grow hb_)
      clear HSK
      have HSK := HSK_
      clear HSK_
      have HCK_ := Lib.hid (HCK.out.grow hb_)
      clear HCK
      have HCK := HCK_
      clear HCK_
      have HSJ_ := Lib.hid (HSJ.out.grow hb_)
      clear HSJ
      have HSJ := HSJ_
      clear HSJ_
      have HCJ_ := Lib.hid (HCJ.out.grow hb_)
      clear HCJ
      have HCJ := HCJ_
      clear HCJ_
      have HI_ := Lib.hid (HI.out.grow hb_)
      clear HI
      have HI := HI_
      clear HI_
      have HVR_ := Lib.hid (HVR.out.grow hb_)
      clear HVR
      have HVR := HVR_
      clear HVR_
      clear hb_
      try clear w_
      rename World => w_
      go_wp2_with (first | (with_reducible refine wpl_alloc (o := ⟨some 12, _, _, _, _, _⟩) rfl rfl zero_id ?_))
      intro w1_ hb1_ hbw1_ hsz1_
      have HB1_ := Lib.hid (at_mk hb1_ len_id)
      have HBW1_ := Lib.hid hbw1_
      have HZ1_ := Lib.hid hsz1_
      clear hb1_ hbw1_ hsz1_
      go_wp2_with (first | (with_reducible refine wpl_storeb (o := ⟨none, .store _ _ _, _, _, _, _⟩) rfl rfl row_id HB1_.out.blk rfl rfl HB1_.out.len HZN.out.len HZN.out.one ?_))
      intro w2_ hb2_ hg2_ hsz2_
      have hb_ := var_grow HBW1_.out HZ1_.out hg2_
      have HX_ := Lib.hid (at_mk hb2_ HZN.out.len)
      clear hb2_ hg2_ hsz2_ HB1_ HBW1_ HZ1_
      have HB_ := Lib.hid (HB.out.grow' hb_)
      clear HB
      have HB := HB_
      clear HB_
      have HP_ := Lib.hid (HP.out.grow hb_)
      clear HP
      have HP := HP_
      clear HP_
      have HT_ := Lib.hid (HT.out.grow hb_)
      clear HT
      have HT := HT_
      clear HT_
      have HSK_ := Lib.hid (HSK.out.grow hb_)
      clear HSK
      have HSK := HSK_
      clear HSK_
      have HCK_ := Lib.hid (HCK.out.grow hb_)
      clear HCK
      have HCK := HCK_
      clear HCK_
      have HSJ_ := Lib.hid (HSJ.out.grow hb_)
      clear HSJ
      have HSJ := HSJ_
      clear HSJ_
      have HCJ_ := Lib.hid (HCJ.out.grow hb_)
      clear HCJ
      have HCJ := HCJ_
      clear HCJ_
      have HI_ := Lib.hid (HI.out.grow hb_)
      clear HI
      have HI := HI_
      clear HI_
      have HVR_ := Lib.hid (HVR.out.grow hb_)
      clear HVR
      have HVR := HVR_
      clear HVR_
      generalize hg_ : w_.heap.size = g12 at HX_ ⊢
      clear hg_
      have HV12 := HX_
      clear hb_ HX_
      clear w1_
      try clear w_
      rename World => w_
      go_wp2_with fail
      refine cb10 hkn (by have := HDL.out; omega) hcc (by omega) HCK HSK HI HX HVR HT HZL HNL (Lib.hid ?_)
      intros
      rename_i w5_ hb_
      have hb_ := hb_
      clear hb_
      have HB_ := Lib.hid (HB.out.grow' hb_)
      clear HB
      have HB := HB_
      clear HB_
      have HP_ := Lib.hid (HP.out.grow hb_)
      clear HP
      have HP := HP_
      clear HP_
      have HT_ := Lib.hid (HT.out.grow hb_)
      clear HT
      have HT := HT_
      clear HT_
      have HSK_ := Lib.hid (HSK.out.grow hb_)
      clear HSK
      have HSK := HSK_
      clear HSK_
      have HCK_ := Lib.hid (HCK.out.grow hb_)
      clear HCK
      have HCK := HCK_
      clear HCK_
      have HSJ_ := Lib.hid (HSJ.out.grow hb_)
      clear HSJ
      have HSJ := HSJ_
      clear HSJ_
      have HCJ_ := Lib.hid (HCJ.out.grow hb_)
      clear HCJ
      have HCJ := HCJ_
      clear HCJ_
      have HI_ := Lib.hid (HI.out.grow hb_)
      clear HI
      have HI := HI_
      clear HI_
      have HVR_ := Lib.hid (HVR.out.grow hb_)
      clear HVR
      have HVR := HVR_
      clear HVR_
      clear hb_
      try clear w_
      rename World => w_
      go_wp2_with fail
      refine (pick_any o n _ ho1 ho2 (by omega) (by omega)).mono ?_
      rintro e w1 ⟨rfl, hw1⟩
      rw [hw1, HJ.out]
      clear hw1
      clear w1
      have hcell := HCK.out
      have hcell2 := HCJ.out
      unfold KeepC at hcell hcell2
      try go_wp2_with fail
      repeat' (first | (with_reducible refine wp_flow (id := 12) [0,0,3,7,0,0,48,112,255,511] [0,0,0,0,0,0,0,0,3,0] (fun i => match i with | 8 => spV (.bool sm) | _ => spV undef) (by kernel_rfl) (by kernel_rfl) ?_) | go_values | go_skip | go_guarded | go_step | go_upon | go_back)
      intro w_ hd_
      have hb_ := hd_.grow
      have HB_ := Lib.hid (HB.out.grow' hb_)
      clear HB
      have HB := HB_
      clear HB_
      have HP_ := Lib.hid (HP.out.grow hb_)
      clear HP
      have HP := HP_
      clear HP_
      have HT_ := Lib.hid (HT.out.grow hb_)
      clear HT
      have HT := HT_
      clear HT_
      have HSK_ := Lib.hid (HSK.out.grow hb_)
      clear HSK
      have HSK := HSK_
      clear HSK_
      have HCK_ := Lib.hid (HCK.out.grow hb_)
      clear HCK
      have HCK := HCK_
      clear HCK_
      have HSJ_ := Lib.hid (HSJ.out.grow hb_)
      clear HSJ
      have HSJ := HSJ_
      clear HSJ_
      have HCJ_ := Lib.hid (HCJ.out.grow hb_)
      clear HCJ
      have HCJ := HCJ_
      clear HCJ_
      have HI_ := Lib.hid (HI.out.grow hb_)
      clear HI
      have HI := HI_
      clear HI_
      have HVR_ := Lib.hid (HVR.out.grow hb_)
      clear HVR
      have HVR := HVR_
      clear HVR_
      clear hb_ hd_
      show wpL _ _ _ _ _ _ _ [0,1,2,3,4,5,6,7,8,9] _ _
      clear hcell hcell2
      repeat (first | (refine fl_calm rfl (by decide) (by first | exact wanted_none rfl | (go_simp; done) | fail) (fun w_ _ _ => by first | (go_simp; rfl) | (go_simp; done) | rfl) (fun K hK => ?_); go_simp; refine hK _ ?_; clear hK K) | (refine fl_skip rfl (by first | (go_simp; done) | fail) (fun K hK => ?_); go_simp; refine hK _ ?_; clear hK K) | (refine fl_load rfl (by decide) (by first | exact wanted_none rfl | (go_simp; done) | fail) rfl (by first | rfl | (go_simp; rfl)) (by kernel_rfl) (by first | exact HCK.out | exact HCJ.out) (fun K hK => ?_); go_simp; refine hK _ ?_; clear hK K))
      refine fl_callv rfl (by kernel_rfl) rfl (by first | exact wanted_none rfl | (go_simp; done) | fail) (fun w_ => by first | (go_simp; exact ⟨rfl, rfl⟩) | (go_simp; rfl) | (go_simp; exact ⟨⟨rfl, rfl, rfl⟩, rfl⟩)) (fun w2_ hg_ hL_ => ?_) (fun K hK => ?_)
      · skip
        replace HSJ := Lib.hid (HSJ.out.grow hg_)
        replace HSK := Lib.hid (HSK.out.grow hg_)
        exact bytes1_any HSM.out _ HSJ.out HSK.out (by omega)
      go_simp
      refine hK _ ?_
      clear hK K
      repeat (first | (refine fl_calm rfl (by decide) (by first | exact wanted_none rfl | (go_simp; done) | fail) (fun w_ _ _ => by first | (go_simp; rfl) | (go_simp; done) | rfl) (fun K hK => ?_); go_simp; refine hK _ ?_; clear hK K) | (refine fl_skip rfl (by first | (go_simp; done) | fail) (fun K hK => ?_); go_simp; refine hK _ ?_; clear hK K))
      refine fl_done ?_
      intro w2_ hg_ hL_
      replace HB := Lib.hid (HB.out.grow' hg_)
      replace HP := Lib.hid (HP.out.grow hg_)
      replace HT := Lib.hid (HT.out.grow hg_)
      replace HSK := Lib.hid (HSK.out.grow hg_)
      replace HCK := Lib.hid (HCK.out.grow hg_)
      replace HSJ := Lib.hid (HSJ.out.grow hg_)
      replace HCJ := Lib.hid (HCJ.out.grow hg_)
      replace HI := Lib.hid (HI.out.grow hg_)
      replace HVR := Lib.hid (HVR.out.grow hg_)
      clear hg_ hL_
      try clear w_
      rename World => w_
      have hcell := HCJ.out
      unfold KeepC at hcell
      go_wp2_with fail
      clear hcell
      refine (rclimb_any _ _ _ _ _ _ bj k n ds HZ.out _ HSJ.out hccj (by omega) HI.out (by have := HDL.out; omega)).mono ?_
      rintro e w5_ ⟨rfl, hb_⟩
      rw [HOK2.out]
      have hb_ := hb_
      clear hb_
      have HB_ := Lib.hid (HB.out.grow' hb_)
      clear HB
      have HB := HB_
      clear HB_
      have HP_ := Lib.hid (HP.out.grow hb_)
      clear HP
      have HP := HP_
      clear HP_
      have HT_ := Lib.hid (HT.out.grow hb_)
      clear HT
      have HT := HT_
      clear HT_
      have HSK_ := Lib.hid (HSK.out.grow hb_)
      clear HSK
      have HSK := HSK_
      clear HSK_
      have HCK_ := Lib.hid (HCK.out.grow hb_)
      clear HCK
      have HCK := HCK_
      clear HCK_
      have HSJ_ := Lib.hid (HSJ.out.grow hb_)
      clear HSJ
      have HSJ := HSJ_
      clear HSJ_
      have HCJ_ := Lib.hid (HCJ.out.grow hb_)
      clear HCJ
      have HCJ := HCJ_
      clear HCJ_
      have HI_ := Lib.hid (HI.out.grow hb_)
      clear HI
      have HI := HI_
      clear HI_
      have HVR_ := Lib.hid (HVR.out.grow hb_)
      clear HVR
      have HVR := HVR_
      clear HVR_
      clear hb_
      try clear w_
      rename World => w_
      go_wp2_with (first | (with_reducible refine wpl_alloc (o := ⟨some 18, _, _, _, _, _⟩) rfl rfl zero_id ?_))
      intro w1_ hb1_ hbw1_ hsz1_
      have HB1_ := Lib.hid (at_mk hb1_ len_id)
      have HBW1_ := Lib.hid hbw1_
      have HZ1_ := Lib.hid hsz1_
      clear hb1_ hbw1_ hsz1_
      go_wp2_with (first | (with_reducible refine wpl_storeb (o := ⟨none, .store _ _ _, _, _, _, _⟩) rfl rfl row_id HB1_.out.blk rfl rfl HB1_.out.len HZ.out.len HZ.out.one ?_))
      intro w2_ hb2_ hg2_ hsz2_
      have hb_ := var_grow HBW1_.out HZ1_.out hg2_
      have HX_ := Lib.hid (at_mk hb2_ HZ.out.len)
      clear hb2_ hg2_ hsz2_ HB1_ HBW1_ HZ1_
      have HB_ := Lib.hid (HB.out.grow' hb_)
      clear HB
      have HB := HB_
      clear HB_
      have HP_ := Lib.hid (HP.out.grow hb_)
      clear HP
      have HP := HP_
      clear HP_
      have HT_ := Lib.hid (HT.out.grow hb_)
      clear HT
      have HT := HT_
      clear HT_
      have HSK_ := Lib.hid (HSK.out.grow hb_)
      clear HSK
      have HSK := HSK_
      clear HSK_
      have HCK_ := Lib.hid (HCK.out.grow hb_)
      clear HCK
      have HCK := HCK_
      clear HCK_
      have HSJ_ := Lib.hid (HSJ.out.grow hb_)
      clear HSJ
      have HSJ := HSJ_
      clear HSJ_
      have HCJ_ := Lib.hid (HCJ.out.grow hb_)
      clear HCJ
      have HCJ := HCJ_
      clear HCJ_
      have HI_ := Lib.hid (HI.out.grow hb_)
      clear HI
      have HI := HI_
      clear HI_
      have HVR_ := Lib.hid (HVR.out.grow hb_)
      clear HVR
      have HVR := HVR_
      clear HVR_
      generalize hg_ : w_.heap.size = g18 at HX_ ⊢
      clear hg_
      have HV18 := HX_
      clear hb_ HX_
      clear w1_
      try clear w_
      rename World => w_
      cases sm with
      | true =>
        have HR2 := Lib.hid (show decide (climbT bj k n ds = some r) = true by
          have hbb : bj = bk := by simpa using HSM.out
          rw [hbb]; exact HRES.out)
        have hcell := HCJ.out
        unfold KeepC at hcell
        try go_wp2_with fail
        repeat' (first | (with_reducible refine wp_flow (id := 16) [0,1,3,7,15,31,63,127,127,127,895,1919,127,127,8319,127,65535,127,262143,524287,1048575,2097151,4194303,8388607] [0,0,0,0,0,0,0,0,0,0,0,0,0,0,0,0,3,0,0,0,0,3,0,0] (fun i => match i with | 16 => spV (.bool true) | 21 => spV (.bool true) | _ => spV undef) (by kernel_rfl) (by kernel_rfl) ?_) | go_values | go_skip | go_guarded | go_step | go_upon | go_back)
        intro w_ hd_
        have hb_ := hd_.grow
        have HB_ := Lib.hid (HB.out.grow' hb_)
        clear HB
        have HB := HB_
        clear HB_
        have HP_ := Lib.hid (HP.out.grow hb_)
        clear HP
        have HP := HP_
        clear HP_
        have HT_ := Lib.hid (HT.out.grow hb_)
        clear HT
        have HT := HT_
        clear HT_
        have HSK_ := Lib.hid (HSK.out.grow hb_)
        clear HSK
        have HSK := HSK_
        clear HSK_
        have HCK_ := Lib.hid (HCK.out.grow hb_)
        clear HCK
        have HCK := HCK_
        clear HCK_
        have HSJ_ := Lib.hid (HSJ.out.grow hb_)
        clear HSJ
        have HSJ := HSJ_
        clear HSJ_
        have HCJ_ := Lib.hid (HCJ.out.grow hb_)
        clear HCJ
        have HCJ := HCJ_
        clear HCJ_
        have HI_ := Lib.hid (HI.out.grow hb_)
        clear HI
        have HI := HI_
        clear HI_
        have HVR_ := Lib.hid (HVR.out.grow hb_)
        clear HVR
        have HVR := HVR_
        clear HVR_
        clear hb_ hd_
        show wpL _ _ _ _ _ _ _ [0,1,2,3,4,5,6,7,8,9,10,11,12,13,14,15,16,17,18,19,20,21,22,23] _ _
        clear hcell
        repeat (first | (refine fl_calm rfl (by decide) (by first | exact wanted_none rfl | (go_simp; done) | fail) (fun w_ _ _ => by first | (go_simp; rfl) | (go_simp; done) | rfl) (fun K hK => ?_); go_simp; refine hK _ ?_; clear hK K) | (refine fl_skip rfl (by first | (go_simp; done) | fail) (fun K hK => ?_); go_simp; refine hK _ ?_; clear hK K) | (refine fl_load rfl (by decide) (by first | exact wanted_none rfl | (go_simp; done) | fail) rfl (by first | rfl | (go_simp; rfl)) (by kernel_rfl) (by first | exact HCJ.out) (fun K hK => ?_); go_simp; refine hK _ ?_; clear hK K) | (refine fl_loadb rfl (by decide) (by first | exact wanted_none rfl | (go_simp; done) | fail) rfl row_id HVR.out.blk (by first | rfl | (go_simp; done) | rfl) HVR.out.len (fun K hK => ?_); go_simp; refine hK _ ?_; clear hK K))
        refine fl_callv rfl (by kernel_rfl) rfl (by first | exact wanted_none rfl | (go_simp; done) | fail) (fun w_ => by first | (go_simp; exact ⟨rfl, rfl⟩) | (go_simp; rfl) | (go_simp; exact ⟨⟨rfl, rfl, rfl⟩, rfl⟩)) (fun w2_ hg_ hL_ => ?_) (fun K hK => ?_)
        · skip
          replace HSJ := Lib.hid (HSJ.out.grow hg_)
          replace HI := Lib.hid (HI.out.grow hg_)
          replace HT := Lib.hid (HT.out.grow hg_)
          exact tis5_any HR2.out HX.out _ HSJ.out hccj (by omega) HI.out (by have := HDL.out; omega) HT.out
        go_simp
        refine hK _ ?_
        clear hK K
        repeat (first | (refine fl_calm rfl (by decide) (by first | exact wanted_none rfl | (go_simp; done) | fail) (fun w_ _ _ => by first | (go_simp; rfl) | (go_simp; done) | rfl) (fun K hK => ?_); go_simp; refine hK _ ?_; clear hK K) | (refine fl_skip rfl (by first | (go_simp; done) | fail) (fun K hK => ?_); go_simp; refine hK _ ?_; clear hK K) | (refine fl_load rfl (by decide) (by first | exact wanted_none rfl | (go_simp; done) | fail) rfl (by first | rfl | (go_simp; rfl)) (by kernel_rfl) (by first | exact HCJ.out) (fun K hK => ?_); go_simp; refine hK _ ?_; clear hK K) | (refine fl_loadb rfl (by decide) (by first | exact wanted_none rfl | (go_simp; done) | fail) rfl row_id HVR.out.blk (by first | rfl | (go_simp; done) | rfl) HVR.out.len (fun K hK => ?_); go_simp; refine hK _ ?_; clear hK K))
        refine fl_callv rfl (by kernel_rfl) rfl (by first | exact wanted_none rfl | (go_simp; done) | fail) (fun w_ => by first | (go_simp; exact ⟨rfl, rfl⟩) | (go_simp; rfl) | (go_simp; exact ⟨⟨rfl, rfl, rfl⟩, rfl⟩)) (fun w2_ hg_ hL_ => ?_) (fun K hK => ?_)
        · skip
          replace HT := Lib.hid (HT.out.grow hg_)
          exact awake5_any _ HT.out
        go_simp
        refine hK _ ?_
        clear hK K
        repeat (first | (refine fl_calm rfl (by decide) (by first | exact wanted_none rfl | (go_simp; done) | fail) (fun w_ _ _ => by first | (go_simp; rfl) | (go_simp; done) | rfl) (fun K hK => ?_); go_simp; refine hK _ ?_; clear hK K) | (refine fl_skip rfl (by first | (go_simp; done) | fail) (fun K hK => ?_); go_simp; refine hK _ ?_; clear hK K))
        refine fl_done ?_
        intro w2_ hg_ hL_
        replace HB := Lib.hid (HB.out.grow' hg_)
        clear hg_ hL_
        try clear w_
        rename World => w_
        go_wp2_with fail
        go_ret
        exact ⟨rfl, HB.out⟩
      | false =>
        have HR2 := Lib.hid (show d1 = false → decide (climbT bj k n ds = some r) = false by
          intro hd0
          by_cases h : climbT bj k n ds = some r
          · have h2 := HD1.out; rw [climbD_of h, hd0] at h2; simp at h2
          · simpa using h)
        cases d1 with
        | true =>
          go_wp2_with (first | (with_reducible refine wpl_loadb (o := ⟨_, .load _ _, _, _, _, _⟩) rfl rfl row_id HV18.out.blk rfl HV18.out.len ?_) | (with_reducible refine wpl_loadw (o := ⟨_, .load _ _, _, _, _, _⟩) (by first | rfl | (go_simp; done) | fail) rfl row_id HV18.out.blk rfl HV18.out.len ?_) | (with_reducible refine wpl_loadb (o := ⟨_, .load _ _, _, _, _, _⟩) rfl rfl row_id HVR.out.blk rfl HVR.out.len ?_) | (with_reducible refine wpl_loadw (o := ⟨_, .load _ _, _, _, _, _⟩) (by first | rfl | (go_simp; done) | fail) rfl row_id HVR.out.blk rfl HVR.out.len ?_))
          go_wp2_with fail
          refine (awake5_any _ HT.out).mono ?_
          rintro e w_ ⟨rfl, hb_⟩
          have HB_ := Lib.hid (HB.out.grow' hb_)
          clear HB
          have HB := HB_
          clear HB_
          clear hb_
          go_wp2_with fail
          go_ret
          exact ⟨rfl, HB.out⟩
        | false =>
          go_wp2_with (first | (with_reducible refine wpl_loadb (o := ⟨_, .load _ _, _, _, _, _⟩) rfl rfl row_id HV18.out.blk rfl HV18.out.len ?_) | (with_reducible refine wpl_loadw (o := ⟨_, .load _ _, _, _, _, _⟩) (by first | rfl | (go_simp; done) | fail) rfl row_id HV18.out.blk rfl HV18.out.len ?_) | (with_reducible refine wpl_loadb (o := ⟨_, .load _ _, _, _, _, _⟩) rfl rfl row_id HVR.out.blk rfl HVR.out.len ?_) | (with_reducible refine wpl_loadw (o := ⟨_, .load _ _, _, _, _, _⟩) (by first | rfl | (go_simp; done) | fail) rfl row_id HVR.out.blk rfl HVR.out.len ?_))
          have hcell := HCJ.out
          unfold KeepC at hcell
          try go_wp2_with fail
          repeat' (first | (with_reducible refine wp_flow (id := 16) [0,1,3,7,15,31,63,127,127,127,895,1919,127,127,8319,127,65535,127,262143,524287,1048575,2097151,4194303,8388607] [0,0,0,0,0,0,0,0,0,0,0,0,0,0,0,0,3,0,0,0,0,3,0,0] (fun i => match i with | 16 => spV (.bool false) | 21 => spV (.bool true) | _ => spV undef) (by kernel_rfl) (by kernel_rfl) ?_) | go_values | go_skip | go_guarded | go_step | go_upon | go_back)
          intro w_ hd_
          have hb_ := hd_.grow
          have HB_ := Lib.hid (HB.out.grow' hb_)
          clear HB
          have HB := HB_
          clear HB_
          have HP_ := Lib.hid (HP.out.grow hb_)
          clear HP
          have HP := HP_
          clear HP_
          have HT_ := Lib.hid (HT.out.grow hb_)
          clear HT
          have HT := HT_
          clear HT_
          have HSK_ := Lib.hid (HSK.out.grow hb_)
          clear HSK
          have HSK := HSK_
          clear HSK_
          have HCK_ := Lib.hid (HCK.out.grow hb_)
          clear HCK
          have HCK := HCK_
          clear HCK_
          have HSJ_ := Lib.hid (HSJ.out.grow hb_)
          clear HSJ
          have HSJ := HSJ_
          clear HSJ_
          have HCJ_ := Lib.hid (HCJ.out.grow hb_)
          clear HCJ
          have HCJ := HCJ_
          clear HCJ_
          have HI_ := Lib.hid (HI.out.grow hb_)
          clear HI
          have HI := HI_
          clear HI_
          have HVR_ := Lib.hid (HVR.out.grow hb_)
          clear HVR
          have HVR := HVR_
          clear HVR_
          clear hb_ hd_
          show wpL _ _ _ _ _ _ _ [0,1,2,3,4,5,6,7,8,9,10,11,12,13,14,15,16,17,18,19,20,21,22,23] _ _
          clear hcell
          repeat (first | (refine fl_calm rfl (by decide) (by first | exact wanted_none rfl | (go_simp; done) | fail) (fun w_ _ _ => by first | (go_simp; rfl) | (go_simp; done) | rfl) (fun K hK => ?_); go_simp; refine hK _ ?_; clear hK K) | (refine fl_skip rfl (by first | (go_simp; done) | fail) (fun K hK => ?_); go_simp; refine hK _ ?_; clear hK K) | (refine fl_load rfl (by decide) (by first | exact wanted_none rfl | (go_simp; done) | fail) rfl (by first | rfl | (go_simp; rfl)) (by kernel_rfl) (by first | exact HCJ.out) (fun K hK => ?_); go_simp; refine hK _ ?_; clear hK K) | (refine fl_loadb rfl (by decide) (by first | exact wanted_none rfl | (go_simp; done) | fail) rfl row_id HVR.out.blk (by first | rfl | (go_simp; done) | rfl) HVR.out.len (fun K hK => ?_); go_simp; refine hK _ ?_; clear hK K))
          refine fl_callv rfl (by kernel_rfl) rfl (by first | exact wanted_none rfl | (go_simp; done) | fail) (fun w_ => by first | (go_simp; exact ⟨rfl, rfl⟩) | (go_simp; rfl) | (go_simp; exact ⟨⟨rfl, rfl, rfl⟩, rfl⟩)) (fun w2_ hg_ hL_ => ?_) (fun K hK => ?_)
          · skip
            replace HSJ := Lib.hid (HSJ.out.grow hg_)
            replace HI := Lib.hid (HI.out.grow hg_)
            replace HT := Lib.hid (HT.out.grow hg_)
            exact tis5_any (HR2.out (by first | trivial | rfl)) HX.out _ HSJ.out hccj (by omega) HI.out (by have := HDL.out; omega) HT.out
          go_simp
          refine hK _ ?_
          clear hK K
          repeat (first | (refine fl_calm rfl (by decide) (by first | exact wanted_none rfl | (go_simp; done) | fail) (fun w_ _ _ => by first | (go_simp; rfl) | (go_simp; done) | rfl) (fun K hK => ?_); go_simp; refine hK _ ?_; clear hK K) | (refine fl_skip rfl (by first | (go_simp; done) | fail) (fun K hK => ?_); go_simp; refine hK _ ?_; clear hK K) | (refine fl_load rfl (by decide) (by first | exact wanted_none rfl | (go_simp; done) | fail) rfl (by first | rfl | (go_simp; rfl)) (by kernel_rfl) (by first | exact HCJ.out) (fun K hK => ?_); go_simp; refine hK _ ?_; clear hK K) | (refine fl_loadb rfl (by decide) (by first | exact wanted_none rfl | (go_simp; done) | fail) rfl row_id HVR.out.blk (by first | rfl | (go_simp; done) | rfl) HVR.out.len (fun K hK => ?_); go_simp; refine hK _ ?_; clear hK K))
          refine fl_callv rfl (by kernel_rfl) rfl (by first | exact wanted_none rfl | (go_simp; done) | fail) (fun w_ => by first | (go_simp; exact ⟨rfl, rfl⟩) | (go_simp; rfl) | (go_simp; exact ⟨⟨rfl, rfl, rfl⟩, rfl⟩)) (fun w2_ hg_ hL_ => ?_) (fun K hK => ?_)
          · skip
            replace HT := Lib.hid (HT.out.grow hg_)
            exact awake5_any _ HT.out
          go_simp
          refine hK _ ?_
          clear hK K
          repeat (first | (refine fl_calm rfl (by decide) (by first | exact wanted_none rfl | (go_simp; done) | fail) (fun w_ _ _ => by first | (go_simp; rfl) | (go_simp; done) | rfl) (fun K hK => ?_); go_simp; refine hK _ ?_; clear hK K) | (refine fl_skip rfl (by first | (go_simp; done) | fail) (fun K hK => ?_); go_simp; refine hK _ ?_; clear hK K))
          refine fl_done ?_
          intro w2_ hg_ hL_
          replace HB := Lib.hid (HB.out.grow' hg_)
          clear hg_ hL_
          try clear w_
          rename World => w_
          go_wp2_with fail
          go_ret
          exact ⟨rfl, HB.out⟩
    · have g2 : decide ((n : Int) < 1) = true := by simp; omega
      go_wp2_with fail
      refine (awake5_any _ HT.out).mono ?_
      rintro e w_ ⟨rfl, hb_⟩
      have HB_ := Lib.hid (HB.out.grow' hb_)
      clear HB
      have HB := HB_
      clear HB_
      clear hb_
      go_wp2_with fail
      go_ret
      exact ⟨rfl, HB.out⟩
theorem treeClimbs_walk (A : Option Addr) (n c : Nat) (ps : List (Value × List UInt8)) (z o : Int) (w : World) (hp : Parts w w.heap.size A n ps) (hc : n ≤ c) (hm : c ≤ maxLen) (hz : (Lit.int .i64 z).wf = true) (ho : (Lit.int .i64 o).wf = true) (ht : Tabs w) :
    Calls Tryd.prog 14 #[.slice A n c, .int .i64 z, .int .i64 o] w fun e w' => e = .returned (.bool true) ∧ Below w.heap.size w w' :=
  treeClimbs_any A n c ps z o w hp hc (bounds_i64 hz).1 (bounds_i64 hz).2 (bounds_i64 ho).1 (bounds_i64 ho).2 ht
end Go.Proofs.YtlondennhhffdaaDoor

/- Arguments opened: bytes, lists of bytes, lists of digests. -/
namespace Go.Proofs.YtlondennhhffdaaDoor
open Go.RowKit Go.ChangeShapes Go.WideShapes
set_option linter.unusedVariables false
set_option maxRecDepth 100000
section
variable {H : Type} {enc : TypeId × Value → H} {w : World} {r : Reach} {b0 base : Nat} {spare : Nat → Bool} {held : Bool}
theorem open_b {v : Value} {d : DataW H} {ps : List MemPlace} (hval : Value.okWide Tryd.prog w r b0 22 v) (h : DataW.Trod enc Tryd.prog w base spare held 22 v d ps) :
    ∃ A n c, ∃ bs : List UInt8, v = .slice A n c ∧ Sl w w.heap.size 1 A n (bs.map B) ∧ n ≤ c ∧ c ≤ maxLen := open_u8s Tryd.underlying22 Tryd.underlying5 (by kernel_rfl) hval h
/-- A list of lists of bytes that came in. -/
theorem open_bb {v : Value} {d : DataW H} {ps : List MemPlace} (hval : Value.okWide Tryd.prog w r b0 37 v) (h : DataW.Trod enc Tryd.prog w base spare held 37 v d ps) :
    ∃ A n c, ∃ l : List (Value × List UInt8), v = .slice A n c ∧ Parts w w.heap.size A n l ∧ n ≤ c ∧ c ≤ maxLen := by
  obtain ⟨A, n, c, l, h1, h2, h3, h4, h5, h6, _⟩ := open_list (fun x : Value × List UInt8 => [x.1]) (fun p => ∃ A c, p.1 = .slice A p.2.length c ∧ p.2.length ≤ c ∧ Sl w w.heap.size 1 A p.2.length (p.2.map B)) Tryd.underlying37 (by kernel_rfl) (show 0 < 1 by omega) (fun fuel cs y hl ht => by
    obtain ⟨A', n', c', bs, e, hs, hn, _, hbl⟩ := open_u8s0 Tryd.underlying22 Tryd.underlying5 (by kernel_rfl) ht
    exact ⟨(.slice A' n' c', bs), e, A', c', by rw [hbl], by rw [hbl]; exact hn, by rw [hbl]; exact hs⟩) hval h
  exact ⟨A, n, c, l, h1, ⟨by rw [← flat_one]; exact h5, h6⟩, h3, h4⟩
end
end Go.Proofs.YtlondennhhffdaaDoor

/- Arguments opened: digests, lists of digests. -/
namespace Go.Proofs.YtlondennhhffdaaDoor
open Go.RowKit Go.ChangeShapes Go.WideShapes
set_option linter.unusedVariables false
section
variable {H : Type} {enc : TypeId × Value → H} {w : World} {r : Reach} {b0 base : Nat} {spare : Nat → Bool} {held : Bool}
theorem open_dig {v : Value} {d : DataW H} {ps : List MemPlace} (hval : Value.okWide Tryd.prog w r b0 26 v) (h : DataW.Trod enc Tryd.prog w base spare held 26 v d ps) :
    ∃ ds : List UInt8, v = .agg (ds.map B).toArray ∧ ds.length = 32 :=
  open_arr32 Tryd.underlying26 Tryd.underlying5 (by kernel_rfl) (by kernel_rfl) hval h
theorem open_digs {v : Value} {d : DataW H} {ps : List MemPlace} (hval : Value.okWide Tryd.prog w r b0 57 v) (h : DataW.Trod enc Tryd.prog w base spare held 57 v d ps) :
    ∃ A n c, ∃ l : List (List UInt8), v = .slice A n c ∧ Sl w w.heap.size 32 A n (l.flatMap (·.map B)) ∧ l.length = n ∧ (∀ x ∈ l, x.length = 32) ∧ n ≤ c ∧ c ≤ maxLen := by
  obtain ⟨A, n, c, l, h1, h2, h3, h4, h5, h6, _⟩ := open_list (fun x : List UInt8 => x.map B) (fun x => x.length = 32) Tryd.underlying57 (by kernel_rfl) (show 0 < 32 by omega) (fun fuel cs y _ h => trod_bytes Tryd.underlying26 Tryd.underlying5 (by kernel_rfl) (by kernel_rfl) h) hval h
  exact ⟨A, n, c, l, h1, h5, h2, h6, h3, h4⟩
end
end Go.Proofs.YtlondennhhffdaaDoor

/- The walk of TreeClimbs, with the readings of its arguments beside. -/
namespace Go.Proofs.YtlondennhhffdaaDoor
end Go.Proofs.YtlondennhhffdaaDoor

/- The given card TreeClimbsCardSaid, out of the walk treeClimbs_walk: for every input the law returns true, and each argument reads as it did; the tables of package sha are tied to the program's text. No condition. -/
namespace Go.Proofs.YtlondennhhffdaaDoor.lawTreeClimbs
open Go.ChangeShapes Go.WideShapes Go.ChangeAt Go.RowKit
open Go.ChangeMaps (open_string shut_string)
set_option linter.unusedVariables false

theorem laidOut : laidOutB Tryd.prog = true := laid_out
set_option maxRecDepth 100000 in
theorem contract (H : Type) (enc : TypeId × Value → H) (W : World) (base : Nat) (args : Array Value) (ds gs : List (DataW H)) (before : List MemPlace)
    (hval0 : ∀ (j : Nat) t v, Tryd.f14.params[j]? = some t → args[j]? = some v → Value.okWide Tryd.prog W .any base t v)
    (hW : DataW.Whole enc Tryd.prog Tryd.f14.params.toList Rows.treeClimbsSpec.vars false W args.toList ds gs before) (hL : laidMetH Tryd.prog Rows.treeClimbsRow.laid W) :
    Calls Tryd.prog 14 args W fun e W' => ∃ v, e = .returned v ∧ Rows.treeClimbsSpec.post enc Tryd.prog Tryd.f14 false true false false W args v W' := by
  have hval : ∀ (j : Nat) t v, Tryd.f14.params[j]? = some t → args[j]? = some v → Value.okWide Tryd.prog W .any base t v := hval0
  have hW' := hW
  obtain ⟨p, q, hA0, hV, rfl, hfz, hnd⟩ := hW
  have hA : DataW.TrodAll enc Tryd.prog W 0 (fun _ => true) true Tryd.f14.params.toList args.toList ds p := hA0
  rw [Tryd.params14] at hA hval
  obtain ⟨v0, vs0, d0, ds0, p0, q0, hargs, rfl, rfl, h0, r0⟩ := trodAll_cons hA
  obtain ⟨v1, vs1, d1, ds1, p1, q1, rfl, rfl, rfl, h1, r1⟩ := trodAll_cons r0
  obtain ⟨v2, vs2, d2, ds2, p2, q2, rfl, rfl, rfl, h2, r2⟩ := trodAll_cons r1
  obtain ⟨rfl, rfl, rfl⟩ := trodAll_nil r2
  obtain rfl : args = #[v0, v1, v2] := by cases args; simp_all
  obtain ⟨rfl, rfl⟩ := trodVars_none hV
  have k0 := h0
  have lt0 : ∀ x ∈ p0, x.block < W.heap.size := by obtain ⟨m, hm⟩ := k0; exact DataW.trod_lt m _ _ _ hm
  obtain ⟨x0_0, x0_1, x0_2, x0_3, rfl, f0_0, f0_1, f0_2⟩ := open_bb (hval 0 37 v0 rfl rfl) h0
  have k1 := h1
  have lt1 : ∀ x ∈ p1, x.block < W.heap.size := by obtain ⟨m, hm⟩ := k1; exact DataW.trod_lt m _ _ _ hm
  obtain ⟨a1, rfl, rfl, rfl, w1⟩ := open_int Tryd.underlying3 (hval 1 3 v1 rfl rfl) h1
  have k2 := h2
  have lt2 : ∀ x ∈ p2, x.block < W.heap.size := by obtain ⟨m, hm⟩ := k2; exact DataW.trod_lt m _ _ _ hm
  obtain ⟨a2, rfl, rfl, rfl, w2⟩ := open_int Tryd.underlying3 (hval 2 3 v2 rfl rfl) h2
  have htabs : Tabs W := tabs_of hL
  clear hA0 hval0 hL
  refine (treeClimbs_walk x0_0 x0_1 x0_2 x0_3 a1 a2 W f0_0 f0_1 f0_2 w1 w2 htabs).mono fun e W' ⟨he, bel⟩ => ?_
  subst he
  exact ⟨_, rfl, _, _, _, [], _, [], hW', trodAll_mk1 (shut_bool Tryd.underlying4 _), (trodAll_cons_mk (Below.trod laidOut (by kernel_rfl) (of_decide_eq_true (by kernel_rfl)) k0 bel lt0) (trodAll_cons_mk (Below.trod laidOut (by kernel_rfl) (of_decide_eq_true (by kernel_rfl)) k1 bel lt1) (trodAll_cons_mk (Below.trod laidOut (by kernel_rfl) (of_decide_eq_true (by kernel_rfl)) k2 bel lt2) trodAll_mk0))), rfl, bel.frame _, fun h => by cases h⟩

theorem laid_met (os : Os) : laidMet Tryd.prog Rows.treeClimbsRow.laid ((laidWorld os).forCall (fun _ _ => 0) ⟨#[], #[.slice none 0 0, .int .i64 0, .int .i64 0], []⟩).memory :=
  laidMet_of_run' 8 (by kernel_rfl) (by kernel_rfl)
theorem reads (os : Os) {H : Type} (enc : TypeId × Value → H) : ∃ ds places, DataW.whole enc Tryd.prog ((laidWorld os).forCall (fun _ _ => 0) ⟨#[], #[.slice none 0 0, .int .i64 0, .int .i64 0], []⟩).memory Tryd.f14.params.toList Rows.treeClimbsSpec.vars false #[.slice none 0 0, .int .i64 0, .int .i64 0].toList 8 = some (ds, [], places) := by
  obtain ⟨⟨ds, gs, pl⟩, h, e⟩ := Option.map_eq_some_iff.1 (show (DataW.whole enc Tryd.prog ((laidWorld os).forCall (fun _ _ => 0) ⟨#[], #[.slice none 0 0, .int .i64 0, .int .i64 0], []⟩).memory Tryd.f14.params.toList Rows.treeClimbsSpec.vars false #[.slice none 0 0, .int .i64 0, .int .i64 0].toList 8).map (fun x => x.2.1) = some [] by kernel_rfl)
  simp only at e
  subst e
  exact ⟨ds, pl, h⟩

set_option maxRecDepth 100000 in
theorem lifted (os : Os) (started : os.Started) (H : Type) (enc : TypeId × Value → H) (F : Stop.Interp) :
    ReturnsInHanded {} Tryd.checked os 14 .any ((OpenSpec.ofChange Rows.treeClimbsSpec).preRow enc Tryd.prog Tryd.f14 Rows.treeClimbsRow.domain false Rows.treeClimbsRow.laid) (((OpenSpec.ofChange Rows.treeClimbsSpec).at F).post enc Tryd.prog Tryd.f14 false true false false) := by
  obtain ⟨ds, places, hx⟩ := reads os enc
  refine returnsInHanded_of_row (C := Tryd.checked) (s := OpenSpec.ofChange Rows.treeClimbsSpec) own_knob started (by kernel_rfl) Tryd.func14
    (witness_row_at (enc := enc) (C := Tryd.checked) false (laidWorld os) #[.slice none 0 0, .int .i64 0, .int .i64 0] rfl (by kernel_rfl) (by kernel_rfl) (by kernel_rfl)
      (OpenSpec.preRow_of_cond 8 hx (by kernel_rfl) (fun k hk => by cases hk) (by kernel_rfl) (laid_met os))) ?_
  intro W base args ds gs before hval hW _ _ _ hL _ _
  exact contract H enc W base args ds gs before hval hW hL

theorem said : Rows.TreeClimbsSaid :=
  OpenClaim.holds_of_cond 14 Tryd.f14 rfl rfl rfl rfl rfl rfl rfl ⟨rfl, rfl, rfl, rfl, rfl⟩ rfl rfl rfl rfl rfl (by kernel_rfl) Tryd.func14 (by kernel_rfl)
    (of_decide_eq_true (by kernel_rfl)) (by unfold Func.isWrapper; first | (rw [if_pos (by decide +kernel)]; kernel_rfl) | (rw [if_neg (by decide +kernel)]; exact ⟨rfl, rfl⟩))
    (fun os started H enc _ F => by rw [OpenClaim.pre_eq_preRow]; exact lifted os started H enc F)

theorem plain (f : FuncId) (fn : Func) (hf : Tryd.pinned.checked.prog.funcNamed "seisin/seisinlaw05.TreeClimbs" = some f) (hfn : Tryd.pinned.checked.prog.funcs[f]? = some fn) :
    false = Tryd.pinned.checked.prog.looks [] ∧ ∀ (j : Nat) t, fn.params[j]? = some t → Tryd.pinned.checked.prog.wantsStandIn t = false := by
  obtain rfl : f = 14 := Option.some.inj ((show Tryd.prog.funcNamed "seisin/seisinlaw05.TreeClimbs" = some 14 by kernel_rfl).symm.trans hf) |>.symm
  obtain rfl : fn = Tryd.f14 := (Option.some.inj (Tryd.func14.symm.trans hfn)).symm
  refine ⟨by kernel_rfl, fun j t ht => ?_⟩
  rw [Tryd.params14] at ht
  have hm : t ∈ [37, 3, 3] := by simpa using Array.mem_of_getElem? ht
  have hall : ([37, 3, 3].all fun u => !Tryd.prog.wantsStandIn u) = true := by kernel_rfl
  exact (show Tryd.prog.wantsStandIn t = false by simpa using List.all_eq_true.1 hall t hm)

theorem proved : Rows.TreeClimbsCardSaid :=
  Claim7.holds_tied_plain_at .later [] _ _ _ _ said (fun _ h => by cases h) (by kernel_rfl) (fun _ h => by cases h) treeClimbs_row_tie rfl ⟨rfl, rfl⟩ (by kernel_rfl) rfl plain (by kernel_rfl)
#print axioms proved
end Go.Proofs.YtlondennhhffdaaDoor.lawTreeClimbs

/- The walk of seisinlaw06.TagRings. -/
import Derived.Test.YtlondennhhffdaaDoorTagE
import Derived.Test.YtlondennhhffdaaDoorTagF
namespace Go.Proofs.YtlondennhhffdaaDoor
open Go.RowKit Go.Shelf
set_option linter.unusedVariables false

theorem zlit : (List.replicate 32 (B 0)).toArray = (#[.int .u8 0, .int .u8 0, .int .u8 0, .int .u8 0, .int .u8 0, .int .u8 0, .int .u8 0, .int .u8 0, .int .u8 0, .int .u8 0, .int .u8 0, .int .u8 0, .int .u8 0, .int .u8 0, .int .u8 0, .int .u8 0, .int .u8 0, .int .u8 0, .int .u8 0, .int .u8 0, .int .u8 0, .int .u8 0, .int .u8 0, .int .u8 0, .int .u8 0, .int .u8 0, .int .u8 0, .int .u8 0, .int .u8 0, .int .u8 0, .int .u8 0, .int .u8 0] : Array Value) := by rfl
theorem zeros_dig : Dig (List.replicate 32 (B 0)) (List.replicate 32 0) := ⟨by simp, by simp⟩
set_option maxRecDepth 100000 in
set_option maxHeartbeats 2000000 in
theorem tagRings_walk (A : Option Addr) (n c : Nat) (seed : List UInt8) (shards shard : Int) (A2 : Option Addr) (n2 c2 : Nat) (bs : List UInt8) (t : List UInt8) (w : World) (hs : Sl w w.heap.size 1 A n (seed.map B)) (hc : n ≤ c) (hm : c ≤ maxLen) (hz1 : (Lit.int .i64 shards).wf = true) (hz2 : (Lit.int .i64 shard).wf = true) (hs2 : Sl w w.heap.size 1 A2 n2 (bs.map B)) (hc2 : n2 ≤ c2) (hm2 : c2 ≤ maxLen) (htl : t.length = 32) (ht : Tabs w) :
    Calls Tryd.prog 9 #[.slice A n c, .int .i64 shards, .int .i64 shard, .slice A2 n2 c2, .agg (t.map B).toArray] w fun e w' => e = .returned (.bool true) ∧ Below w.heap.size w w' := by
  have HS := Lib.hid hs; have HT := Lib.hid ht; have HS2 := Lib.hid hs2
  have HB := Lib.hid (Below.refl w.heap.size w)
  clear hs ht hs2 hm hm2 hz1 hz2
  obtain ⟨ts, hts⟩ : ∃ ts, ts = t.map B := ⟨_, rfl⟩
  have HTD := Lib.hid (show Dig ts t from ⟨hts, htl⟩)
  rw [← hts]
  clear hts htl
  by_cases h1 : n ≤ 100
  · have g1 : decide (100 < (n : Int)) = false := by simp; omega
    by_cases h2 : n2 ≤ 100
    · have g2 : decide (100 < (n2 : Int)) = false := by simp; omega
      by_cases hsh : 1 ≤ shards ∧ shards ≤ 64
      · obtain ⟨N, rfl⟩ : ∃ N : Nat, shards = (N : Int) := ⟨shards.toNat, by omega⟩
        have hN1 : 1 ≤ N := by omega
        have hN2 : N ≤ 64 := by omega
        have g3 : decide ((1 : Int) ≤ (N : Int)) = true := by simp; omega
        have g4 : decide ((N : Int) ≤ 64) = true := by simp; omega
        clear hsh
        by_cases hin : 0 ≤ shard ∧ shard < N
        · obtain ⟨k, rfl⟩ : ∃ k : Nat, shard = (k : Int) := ⟨shard.toNat, by omega⟩
          have hk : k < N := by omega
          clear hin
          obtain ⟨xs, hxs⟩ : ∃ xs, xs = (tagB (tagB seed [UInt8.ofNat k]) bs).map B := ⟨_, rfl⟩
          have HX := Lib.hid (show Dig xs (tagB (tagB seed [UInt8.ofNat k]) bs) from ⟨hxs, tagB_length _ _⟩)
          have HRK := Lib.hid (ringB_at seed hk)
          obtain ⟨d, hd⟩ : ∃ d, decide (tagB (tagB seed [UInt8.ofNat k]) bs = t) = d := ⟨_, rfl⟩
          have HDD := Lib.hid hd
          have heq := fun w => HX.out.self w
          have heq2 : ∀ w, (binOp .eql 26 (.agg ts.toArray) (.agg xs.toArray)).run Tryd.prog w = .ok (.bool d) w := fun w => by rw [HTD.out.eql HX.out w, eq_comm_b, HDD.out]
          have heqb := eql_bb d
          clear hxs hd
          go_enter Tryd.func9, Tryd.ntmps9
          go_wp2_with (first | (with_reducible refine wpl_box (o := ⟨some 9, _, _, _, _, _⟩) rfl rfl rfl ?_))
          intro w2_ hb2_ hb_ hsz2_
          have HX_ := Lib.hid (at_mk hb2_ HTD.out.len)
          clear hb2_ hsz2_
          have HB_ := Lib.hid (HB.out.grow' hb_)
          clear HB
          have HB := HB_
          clear HB_
          have HS_ := Lib.hid (HS.out.grow hb_)
          clear HS
          have HS := HS_
          clear HS_
          have HS2_ := Lib.hid (HS2.out.grow hb_)
          clear HS2
          have HS2 := HS2_
          clear HS2_
          have HT_ := Lib.hid (HT.out.grow hb_)
          clear HT
          have HT := HT_
          clear HT_
          have HV0 := HX_
          clear hb_ HX_
          try clear w_
          rename World => w_
          go_wp2_with fail
          refine (keys_yes _ n c N seed _ HS.out hc (by omega) hN1 hN2 HT.out).mono ?_
          rintro e w_ ⟨g, A1, c1, rfl, hr_, hb_⟩
          have HB_ := Lib.hid (HB.out.grow' hb_)
          clear HB
          have HB := HB_
          clear HB_
          have HV0_ := Lib.hid (HV0.out.grow hb_)
          clear HV0
          have HV0 := HV0_
          clear HV0_
          have HS_ := Lib.hid (HS.out.grow hb_)
          clear HS
          have HS := HS_
          clear HS_
          have HS2_ := Lib.hid (HS2.out.grow hb_)
          clear HS2
          have HS2 := HS2_
          clear HS2_
          have HT_ := Lib.hid (HT.out.grow hb_)
          clear HT
          have HT := HT_
          clear HT_
          clear hb_
          have HRA := Lib.hid hr_
          clear hr_
          go_wp2_with fail
          refine (sign_yes (k := k) HRK.out HX.out _ HRA.out (by omega) HS2.out hc2 (by omega) HT.out).mono ?_
          rintro e w_ ⟨rfl, hb_⟩
          have HB_ := Lib.hid (HB.out.grow' hb_)
          clear HB
          have HB := HB_
          clear HB_
          have HRA_ := Lib.hid (HRA.out.grow hb_)
          clear HRA
          have HRA := HRA_
          clear HRA_
          have HV0_ := Lib.hid (HV0.out.grow hb_)
          clear HV0
          have HV0 := HV0_
          clear HV0_
          have HS_ := Lib.hid (HS.out.grow hb_)
          clear HS
          have HS := HS_
          clear HS_
          have HS2_ := Lib.hid (HS2.out.grow hb_)
          clear HS2
          have HS2 := HS2_
          clear HS2_
          have HT_ := Lib.hid (HT.out.grow hb_)
          clear HT
          have HT := HT_
          clear HT_
          clear hb_
          go_wp2_with (first | (with_reducible refine wpl_alloc (o := ⟨some 12, _, _, _, _, _⟩) rfl rfl zero_id ?_))
          intro w1_ hb1_ hbw1_ hsz1_
          have HB1_ := Lib.hid (at_mk hb1_ len_id)
          have HBW1_ := Lib.hid hbw1_
          have HZ1_ := Lib.hid hsz1_
          clear hb1_ hbw1_ hsz1_
          go_wp2_with (first | (with_reducible refine wpl_storeb (o := ⟨none, .store _ _ _, _, _, _, _⟩) rfl rfl row_id HB1_.out.blk rfl rfl HB1_.out.len HX.out.len HX.out.one ?_))
          intro w2_ hb2_ hg2_ hsz2_
          have hb_ := var_grow HBW1_.out HZ1_.out hg2_
          have HX_ := Lib.hid (at_mk hb2_ HX.out.len)
          clear hb2_ hg2_ hsz2_ HB1_ HBW1_ HZ1_
          have HB_ := Lib.hid (HB.out.grow' hb_)
          clear HB
          have HB := HB_
          clear HB_
          have HRA_ := Lib.hid (HRA.out.grow hb_)
          clear HRA
          have HRA := HRA_
          clear HRA_
          have HV0_ := Lib.hid (HV0.out.grow hb_)
          clear HV0
          have HV0 := HV0_
          clear HV0_
          have HS_ := Lib.hid (HS.out.grow hb_)
          clear HS
          have HS := HS_
          clear HS_
          have HS2_ := Lib.hid (HS2.out.grow hb_)
          clear HS2
          have HS2 := HS2_
          clear HS2_
          have HT_ := Lib.hid (HT.out.grow hb_)
          clear HT
          have HT := HT_
          clear HT_
          generalize hg_ : w_.heap.size = gx at HX_ ⊢
          clear hg_
          have HVX := HX_
          clear hb_ HX_
          clear w1_
          try clear w_
          rename World => w_
          go_wp2_with fail
          refine (rlen_any _ HRA.out).mono ?_
          rintro e w_ ⟨rfl, hb_⟩
          have HB_ := Lib.hid (HB.out.grow' hb_)
          clear HB
          have HB := HB_
          clear HB_
          have HVX_ := Lib.hid (HVX.out.grow hb_)
          clear HVX
          have HVX := HVX_
          clear HVX_
          have HRA_ := Lib.hid (HRA.out.grow hb_)
          clear HRA
          have HRA := HRA_
          clear HRA_
          have HV0_ := Lib.hid (HV0.out.grow hb_)
          clear HV0
          have HV0 := HV0_
          clear HV0_
          have HS_ := Lib.hid (HS.out.grow hb_)
          clear HS
          have HS := HS_
          clear HS_
          have HS2_ := Lib.hid (HS2.out.grow hb_)
          clear HS2
          have HS2 := HS2_
          clear HS2_
          have HT_ := Lib.hid (HT.out.grow hb_)
          clear HT
          have HT := HT_
          clear HT_
          clear hb_
          go_wp2_with fail
          try go_wp2_with fail
          repeat' (first | (with_reducible refine wp_flow (id := 14) [0,0,0,0,14,31,63,127,127,127,127,2047,4095,8191,16383,16383,16383,16383,262143,16383,16383,1589247,4194303,8388607,16777215,33554431,67108863,134217727] [0,0,0,0,3,0,0,0,0,0,0,3,0,0,0,0,0,0,3,0,0,0,0,0,0,3,0,0] (fun i => match i with | 4 => spV (.agg xs.toArray) | 11 => spV (.bool true) | 18 => spV (.bool d) | 25 => spV (.bool true) | _ => spV undef) (by kernel_rfl) (by kernel_rfl) ?_) | go_values | go_skip | go_guarded | go_step | go_upon | go_back)
          intro w_ hd_
          have hb_ := hd_.grow
          have HB_ := Lib.hid (HB.out.grow' hb_)
          clear HB
          have HB := HB_
          clear HB_
          have HVX_ := Lib.hid (HVX.out.grow hb_)
          clear HVX
          have HVX := HVX_
          clear HVX_
          have HV0_ := Lib.hid (HV0.out.grow hb_)
          clear HV0
          have HV0 := HV0_
          clear HV0_
          have HRA_ := Lib.hid (HRA.out.grow hb_)
          clear HRA
          have HRA := HRA_
          clear HRA_
          have HS_ := Lib.hid (HS.out.grow hb_)
          clear HS
          have HS := HS_
          clear HS_
          have HS2_ := Lib.hid (HS2.out.grow hb_)
          clear HS2
          have HS2 := HS2_
          clear HS2_
          have HT_ := Lib.hid (HT.out.grow hb_)
          clear HT
          have HT := HT_
          clear HT_
          clear hb_ hd_
          show wpL _ _ _ _ _ _ _ [0,1,2,3,4,5,6,7,8,9,10,11,12,13,14,15,16,17,18,19,20,21,22,23,24,25,26,27] _ _
          repeat (first | (refine fl_calm rfl (by decide) (by first | exact wanted_none rfl | (go_simp; done) | fail) (fun w_ _ _ => by first | (go_simp; rfl) | (go_simp; done) | rfl) (fun K hK => ?_); go_simp; refine hK _ ?_; clear hK K) | (refine fl_skip rfl (by first | (go_simp; done) | fail) (fun K hK => ?_); go_simp; refine hK _ ?_; clear hK K) | (refine fl_loadb rfl (by decide) (by first | exact wanted_none rfl | (go_simp; done) | fail) rfl row_id HVX.out.blk (by first | rfl | (go_simp; done) | rfl) HVX.out.len (fun K hK => ?_); go_simp; refine hK _ ?_; clear hK K) | (refine fl_loadb rfl (by decide) (by first | exact wanted_none rfl | (go_simp; done) | fail) rfl row_id HV0.out.blk (by first | rfl | (go_simp; done) | rfl) HV0.out.len (fun K hK => ?_); go_simp; refine hK _ ?_; clear hK K))
          refine fl_callv rfl (by kernel_rfl) rfl (by first | exact wanted_none rfl | (go_simp; done) | fail) (fun w_ => by first | (go_simp; exact ⟨rfl, rfl⟩) | (go_simp; rfl) | (go_simp; exact ⟨⟨rfl, rfl, rfl⟩, rfl⟩)) (fun w2_ hg_ hL_ => ?_) (fun K hK => ?_)
          · skip
            replace HS := Lib.hid (HS.out.grow hg_)
            replace HS2 := Lib.hid (HS2.out.grow hg_)
            exact trsign_any _ _ _ _ _ _ _ _ k (by omega) HX.out _ HS.out HS2.out (by omega) (by omega)
          go_simp
          refine hK _ ?_
          clear hK K
          repeat (first | (refine fl_calm rfl (by decide) (by first | exact wanted_none rfl | (go_simp; done) | fail) (fun w_ _ _ => by first | (go_simp; rfl) | (go_simp; done) | rfl) (fun K hK => ?_); go_simp; refine hK _ ?_; clear hK K) | (refine fl_skip rfl (by first | (go_simp; done) | fail) (fun K hK => ?_); go_simp; refine hK _ ?_; clear hK K) | (refine fl_loadb rfl (by decide) (by first | exact wanted_none rfl | (go_simp; done) | fail) rfl row_id HVX.out.blk (by first | rfl | (go_simp; done) | rfl) HVX.out.len (fun K hK => ?_); go_simp; refine hK _ ?_; clear hK K) | (refine fl_loadb rfl (by decide) (by first | exact wanted_none rfl | (go_simp; done) | fail) rfl row_id HV0.out.blk (by first | rfl | (go_simp; done) | rfl) HV0.out.len (fun K hK => ?_); go_simp; refine hK _ ?_; clear hK K))
          refine fl_callv rfl (by kernel_rfl) rfl (by first | exact wanted_none rfl | (go_simp; done) | fail) (fun w_ => by first | (go_simp; exact ⟨rfl, rfl⟩) | (go_simp; rfl) | (go_simp; exact ⟨⟨rfl, rfl, rfl⟩, rfl⟩)) (fun w2_ hg_ hL_ => ?_) (fun K hK => ?_)
          · skip
            replace HRA := Lib.hid (HRA.out.grow hg_)
            replace HS2 := Lib.hid (HS2.out.grow hg_)
            replace HT := Lib.hid (HT.out.grow hg_)
            exact ris_b (b := true) (k := k) (by simp) HRK.out HX.out _ HRA.out (by omega) HS2.out hc2 (by omega) HT.out
          go_simp
          refine hK _ ?_
          clear hK K
          repeat (first | (refine fl_calm rfl (by decide) (by first | exact wanted_none rfl | (go_simp; done) | fail) (fun w_ _ _ => by first | (go_simp; rfl) | (go_simp; done) | rfl) (fun K hK => ?_); go_simp; refine hK _ ?_; clear hK K) | (refine fl_skip rfl (by first | (go_simp; done) | fail) (fun K hK => ?_); go_simp; refine hK _ ?_; clear hK K) | (refine fl_loadb rfl (by decide) (by first | exact wanted_none rfl | (go_simp; done) | fail) rfl row_id HVX.out.blk (by first | rfl | (go_simp; done) | rfl) HVX.out.len (fun K hK => ?_); go_simp; refine hK _ ?_; clear hK K) | (refine fl_loadb rfl (by decide) (by first | exact wanted_none rfl | (go_simp; done) | fail) rfl row_id HV0.out.blk (by first | rfl | (go_simp; done) | rfl) HV0.out.len (fun K hK => ?_); go_simp; refine hK _ ?_; clear hK K))
          refine fl_callv rfl (by kernel_rfl) rfl (by first | exact wanted_none rfl | (go_simp; done) | fail) (fun w_ => by first | (go_simp; exact ⟨rfl, rfl⟩) | (go_simp; rfl) | (go_simp; exact ⟨⟨rfl, rfl, rfl⟩, rfl⟩)) (fun w2_ hg_ hL_ => ?_) (fun K hK => ?_)
          · skip
            replace HRA := Lib.hid (HRA.out.grow hg_)
            replace HS2 := Lib.hid (HS2.out.grow hg_)
            replace HT := Lib.hid (HT.out.grow hg_)
            exact ris_b (b := d) (k := k) HDD.out HRK.out HTD.out _ HRA.out (by omega) HS2.out hc2 (by omega) HT.out
          go_simp
          refine hK _ ?_
          clear hK K
          repeat (first | (refine fl_calm rfl (by decide) (by first | exact wanted_none rfl | (go_simp; done) | fail) (fun w_ _ _ => by first | (go_simp; rfl) | (go_simp; done) | rfl) (fun K hK => ?_); go_simp; refine hK _ ?_; clear hK K) | (refine fl_skip rfl (by first | (go_simp; done) | fail) (fun K hK => ?_); go_simp; refine hK _ ?_; clear hK K) | (refine fl_loadb rfl (by decide) (by first | exact wanted_none rfl | (go_simp; done) | fail) rfl row_id HVX.out.blk (by first | rfl | (go_simp; done) | rfl) HVX.out.len (fun K hK => ?_); go_simp; refine hK _ ?_; clear hK K) | (refine fl_loadb rfl (by decide) (by first | exact wanted_none rfl | (go_simp; done) | fail) rfl row_id HV0.out.blk (by first | rfl | (go_simp; done) | rfl) HV0.out.len (fun K hK => ?_); go_simp; refine hK _ ?_; clear hK K))
          refine fl_callv rfl (by kernel_rfl) rfl (by first | exact wanted_none rfl | (go_simp; done) | fail) (fun w_ => by first | (go_simp; exact ⟨rfl, rfl⟩) | (go_simp; rfl) | (go_simp; exact ⟨⟨rfl, rfl, rfl⟩, rfl⟩)) (fun w2_ hg_ hL_ => ?_) (fun K hK => ?_)
          · skip
            replace HT := Lib.hid (HT.out.grow hg_)
            exact awake6_any _ HT.out
          go_simp
          refine hK _ ?_
          clear hK K
          repeat (first | (refine fl_calm rfl (by decide) (by first | exact wanted_none rfl | (go_simp; done) | fail) (fun w_ _ _ => by first | (go_simp; rfl) | (go_simp; done) | rfl) (fun K hK => ?_); go_simp; refine hK _ ?_; clear hK K) | (refine fl_skip rfl (by first | (go_simp; done) | fail) (fun K hK => ?_); go_simp; refine hK _ ?_; clear hK K))
          refine fl_done ?_
          intro w2_ hg_ hL_
          replace HB := Lib.hid (HB.out.grow' hg_)
          clear hg_ hL_
          try clear w_
          rename World => w_
          go_wp2_with fail
          go_ret
          exact ⟨rfl, HB.out⟩
        · obtain ⟨zs, hz⟩ : ∃ zs, List.replicate 32 (B 0) = zs := ⟨_, rfl⟩
          have HZ := Lib.hid hz
          have HX := Lib.hid (show Dig zs (List.replicate 32 0) by rw [← hz]; exact zeros_dig)
          have HIN := Lib.hid hin
          have g5 : (decide (0 ≤ shard) && decide (shard < (N : Int))) = false := by simp; omega
          have heq : ∀ w, (binOp .eql 26 (.agg zs.toArray) (.agg #[.int .u8 0, .int .u8 0, .int .u8 0, .int .u8 0, .int .u8 0, .int .u8 0, .int .u8 0, .int .u8 0, .int .u8 0, .int .u8 0, .int .u8 0, .int .u8 0, .int .u8 0, .int .u8 0, .int .u8 0, .int .u8 0, .int .u8 0, .int .u8 0, .int .u8 0, .int .u8 0, .int .u8 0, .int .u8 0, .int .u8 0, .int .u8 0, .int .u8 0, .int .u8 0, .int .u8 0, .int .u8 0, .int .u8 0, .int .u8 0, .int .u8 0, .int .u8 0])).run Tryd.prog w = .ok (.bool true) w := fun w => by
            have h := HX.out.self w
            rw [← hz, zlit] at h
            rw [← hz, zlit]; exact h
          clear hz hin
          cases g6 : decide (0 ≤ shard) with
          | true =>
            have g7 : decide (shard < (N : Int)) = false := by rw [g6] at g5; simpa using g5
            clear g5
            go_enter Tryd.func9, Tryd.ntmps9
            go_wp2_with (first | (with_reducible refine wpl_box (o := ⟨some 9, _, _, _, _, _⟩) rfl rfl rfl ?_))
            intro w2_ hb2_ hb_ hsz2_
            have HX_ := Lib.hid (at_mk hb2_ HTD.out.len)
            clear hb2_ hsz2_
            have HB_ := Lib.hid (HB.out.grow' hb_)
            clear HB
            have HB := HB_
            clear HB_
            have HS_ := Lib.hid (HS.out.grow hb_)
            clear HS
            have HS := HS_
            clear HS_
            have HS2_ := Lib.hid (HS2.out.grow hb_)
            clear HS2
            have HS2 := HS2_
            clear HS2_
            have HT_ := Lib.hid (HT.out.grow hb_)
            clear HT
            have HT := HT_
            clear HT_
            have HV0 := HX_
            clear hb_ HX_
            try clear w_
            rename World => w_
            go_wp2_with fail
            refine (keys_yes _ n c N seed _ HS.out hc (by omega) hN1 hN2 HT.out).mono ?_
            rintro e w_ ⟨g, A1, c1, rfl, hr_, hb_⟩
            have HB_ := Lib.hid (HB.out.grow' hb_)
            clear HB
            have HB := HB_
            clear HB_
            have HV0_ := Lib.hid (HV0.out.grow hb_)
            clear HV0
            have HV0 := HV0_
            clear HV0_
            have HS_ := Lib.hid (HS.out.grow hb_)
            clear HS
            have HS := HS_
            clear HS_
            have HS2_ := Lib.hid (HS2.out.grow hb_)
            clear HS2
            have HS2 := HS2_
            clear HS2_
            have HT_ := Lib.hid (HT.out.grow hb_)
            clear HT
            have HT := HT_
            clear HT_
            clear hb_
            have HRA := Lib.hid hr_
            clear hr_
            go_wp2_with fail
            refine (sign_no shard HZ.out _ HRA.out HIN.out).mono ?_
            rintro e w_ ⟨rfl, hb_⟩
            have HB_ := Lib.hid (HB.out.grow' hb_)
            clear HB
            have HB := HB_
            clear HB_
            have HRA_ := Lib.hid (HRA.out.grow hb_)
            clear HRA
            have HRA := HRA_
            clear HRA_
            have HV0_ := Lib.hid (HV0.out.grow hb_)
            clear HV0
            have HV0 := HV0_
            clear HV0_
            have HS_ := Lib.hid (HS.out.grow hb_)
            clear HS
            have HS := HS_
            clear HS_
            have HS2_ := Lib.hid (HS2.out.grow hb_)
            clear HS2
            have HS2 := HS2_
            clear HS2_
            have HT_ := Lib.hid (HT.out.grow hb_)
            clear HT
            have HT := HT_
            clear HT_
            clear hb_
            go_wp2_with (first | (with_reducible refine wpl_alloc (o := ⟨some 12, _, _, _, _, _⟩) rfl rfl zero_id ?_))
            intro w1_ hb1_ hbw1_ hsz1_
            have HB1_ := Lib.hid (at_mk hb1_ len_id)
            have HBW1_ := Lib.hid hbw1_
            have HZ1_ := Lib.hid hsz1_
            clear hb1_ hbw1_ hsz1_
            go_wp2_with (first | (with_reducible refine wpl_storeb (o := ⟨none, .store _ _ _, _, _, _, _⟩) rfl rfl row_id HB1_.out.blk rfl rfl HB1_.out.len HX.out.len HX.out.one ?_))
            intro w2_ hb2_ hg2_ hsz2_
            have hb_ := var_grow HBW1_.out HZ1_.out hg2_
            have HX_ := Lib.hid (at_mk hb2_ HX.out.len)
            clear hb2_ hg2_ hsz2_ HB1_ HBW1_ HZ1_
            have HB_ := Lib.hid (HB.out.grow' hb_)
            clear HB
            have HB := HB_
            clear HB_
            have HRA_ := Lib.hid (HRA.out.grow hb_)
            clear HRA
            have HRA := HRA_
            clear HRA_
            have HV0_ := Lib.hid (HV0.out.grow hb_)
            clear HV0
            have HV0 := HV0_
            clear HV0_
            have HS_ := Lib.hid (HS.out.grow hb_)
            clear HS
            have HS := HS_
            clear HS_
            have HS2_ := Lib.hid (HS2.out.grow hb_)
            clear HS2
            have HS2 := HS2_
            clear HS2_
            have HT_ := Lib.hid (HT.out.grow hb_)
            clear HT
            have HT := HT_
            clear HT_
            generalize hg_ : w_.heap.size = gx at HX_ ⊢
            clear hg_
            have HVX := HX_
            clear hb_ HX_
            clear w1_
            try clear w_
            rename World => w_
            go_wp2_with fail
            refine (rlen_any _ HRA.out).mono ?_
            rintro e w_ ⟨rfl, hb_⟩
            have HB_ := Lib.hid (HB.out.grow' hb_)
            clear HB
            have HB := HB_
            clear HB_
            have HVX_ := Lib.hid (HVX.out.grow hb_)
            clear HVX
            have HVX := HVX_
            clear HVX_
            have HRA_ := Lib.hid (HRA.out.grow hb_)
            clear HRA
            have HRA := HRA_
            clear HRA_
            have HV0_ := Lib.hid (HV0.out.grow hb_)
            clear HV0
            have HV0 := HV0_
            clear HV0_
            have HS_ := Lib.hid (HS.out.grow hb_)
            clear HS
            have HS := HS_
            clear HS_
            have HS2_ := Lib.hid (HS2.out.grow hb_)
            clear HS2
            have HS2 := HS2_
            clear HS2_
            have HT_ := Lib.hid (HT.out.grow hb_)
            clear HT
            have HT := HT_
            clear HT_
            clear hb_
            go_wp2_with (first | (with_reducible refine wpl_loadb (o := ⟨_, .load _ _, _, _, _, _⟩) rfl rfl row_id HVX.out.blk rfl HVX.out.len ?_) | (with_reducible refine wpl_loadw (o := ⟨_, .load _ _, _, _, _, _⟩) (by first | rfl | (go_simp; done)) rfl row_id HVX.out.blk rfl HVX.out.len ?_) | (with_reducible refine wpl_loadb (o := ⟨_, .load _ _, _, _, _, _⟩) rfl rfl row_id HV0.out.blk rfl HV0.out.len ?_) | (with_reducible refine wpl_loadw (o := ⟨_, .load _ _, _, _, _, _⟩) (by first | rfl | (go_simp; done)) rfl row_id HV0.out.blk rfl HV0.out.len ?_))
            refine (ris_no shard HTD.out _ HRA.out HIN.out).mono ?_
            rintro e w_ ⟨rfl, hb_⟩
            have HB_ := Lib.hid (HB.out.grow' hb_)
            have HT_ := Lib.hid (HT.out.grow hb_)
            clear HB HT hb_
            have HB := HB_
            have HT := HT_
            clear HB_ HT_
            go_wp2_with fail
            refine (awake6_any _ HT.out).mono ?_
            rintro e w_ ⟨rfl, hb_⟩
            have HB_ := Lib.hid (HB.out.grow' hb_)
            clear HB
            have HB := HB_
            clear HB_
            clear hb_
            go_wp2_with fail
            go_ret
            exact ⟨rfl, HB.out⟩
          | false =>
            clear g5
            go_enter Tryd.func9, Tryd.ntmps9
            go_wp2_with (first | (with_reducible refine wpl_box (o := ⟨some 9, _, _, _, _, _⟩) rfl rfl rfl ?_))
            intro w2_ hb2_ hb_ hsz2_
            have HX_ := Lib.hid (at_mk hb2_ HTD.out.len)
            clear hb2_ hsz2_
            have HB_ := Lib.hid (HB.out.grow' hb_)
            clear HB
            have HB := HB_
            clear HB_
            have HS_ := Lib.hid (HS.out.grow hb_)
            clear HS
            have HS := HS_
            clear HS_
            have HS2_ := Lib.hid (HS2.out.grow hb_)
            clear HS2
            have HS2 := HS2_
            clear HS2_
            have HT_ := Lib.hid (HT.out.grow hb_)
            clear HT
            have HT := HT_
            clear HT_
            have HV0 := HX_
            clear hb_ HX_
            try clear w_
            rename World => w_
            go_wp2_with fail
            refine (keys_yes _ n c N seed _ HS.out hc (by omega) hN1 hN2 HT.out).mono ?_
            rintro e w_ ⟨g, A1, c1, rfl, hr_, hb_⟩
            have HB_ := Lib.hid (HB.out.grow' hb_)
            clear HB
            have HB := HB_
            clear HB_
            have HV0_ := Lib.hid (HV0.out.grow hb_)
            clear HV0
            have HV0 := HV0_
            clear HV0_
            have HS_ := Lib.hid (HS.out.grow hb_)
            clear HS
            have HS := HS_
            clear HS_
            have HS2_ := Lib.hid (HS2.out.grow hb_)
            clear HS2
            have HS2 := HS2_
            clear HS2_
            have HT_ := Lib.hid (HT.out.grow hb_)
            clear HT
            have HT := HT_
            clear HT_
            clear hb_
            have HRA := Lib.hid hr_
            clear hr_
            go_wp2_with fail
            refine (sign_no shard HZ.out _ HRA.out HIN.out).mono ?_
            rintro e w_ ⟨rfl, hb_⟩
            have HB_ := Lib.hid (HB.out.grow' hb_)
            clear HB
            have HB := HB_
            clear HB_
            have HRA_ := Lib.hid (HRA.out.grow hb_)
            clear HRA
            have HRA := HRA_
            clear HRA_
            have HV0_ := Lib.hid (HV0.out.grow hb_)
            clear HV0
            have HV0 := HV0_
            clear HV0_
            have HS_ := Lib.hid (HS.out.grow hb_)
            clear HS
            have HS := HS_
            clear HS_
            have HS2_ := Lib.hid (HS2.out.grow hb_)
            clear HS2
            have HS2 := HS2_
            clear HS2_
            have HT_ := Lib.hid (HT.out.grow hb_)
            clear HT
            have HT := HT_
            clear HT_
            clear hb_
            go_wp2_with (first | (with_reducible refine wpl_alloc (o := ⟨some 12, _, _, _, _, _⟩) rfl rfl zero_id ?_))
            intro w1_ hb1_ hbw1_ hsz1_
            have HB1_ := Lib.hid (at_mk hb1_ len_id)
            have HBW1_ := Lib.hid hbw1_
            have HZ1_ := Lib.hid hsz1_
            clear hb1_ hbw1_ hsz1_
            go_wp2_with (first | (with_reducible refine wpl_storeb (o := ⟨none, .store _ _ _, _, _, _, _⟩) rfl rfl row_id HB1_.out.blk rfl rfl HB1_.out.len HX.out.len HX.out.one ?_))
            intro w2_ hb2_ hg2_ hsz2_
            have hb_ := var_grow HBW1_.out HZ1_.out hg2_
            have HX_ := Lib.hid (at_mk hb2_ HX.out.len)
            clear hb2_ hg2_ hsz2_ HB1_ HBW1_ HZ1_
            have HB_ := Lib.hid (HB.out.grow' hb_)
            clear HB
            have HB := HB_
            clear HB_
            have HRA_ := Lib.hid (HRA.out.grow hb_)
            clear HRA
            have HRA := HRA_
            clear HRA_
            have HV0_ := Lib.hid (HV0.out.grow hb_)
            clear HV0
            have HV0 := HV0_
            clear HV0_
            have HS_ := Lib.hid (HS.out.grow hb_)
            clear HS
            have HS := HS_
            clear HS_
            have HS2_ := Lib.hid (HS2.out.grow hb_)
            clear HS2
            have HS2 := HS2_
            clear HS2_
            have HT_ := Lib.hid (HT.out.grow hb_)
            clear HT
            have HT := HT_
            clear HT_
            generalize hg_ : w_.heap.size = gx at HX_ ⊢
            clear hg_
            have HVX := HX_
            clear hb_ HX_
            clear w1_
            try clear w_
            rename World => w_
            go_wp2_with fail
            refine (rlen_any _ HRA.out).mono ?_
            rintro e w_ ⟨rfl, hb_⟩
            have HB_ := Lib.hid (HB.out.grow' hb_)
            clear HB
            have HB := HB_
            clear HB_
            have HVX_ := Lib.hid (HVX.out.grow hb_)
            clear HVX
            have HVX := HVX_
            clear HVX_
            have HRA_ := Lib.hid (HRA.out.grow hb_)
            clear HRA
            have HRA := HRA_
            clear HRA_
            have HV0_ := Lib.hid (HV0.out.grow hb_)
            clear HV0
            have HV0 := HV0_
            clear HV0_
            have HS_ := Lib.hid (HS.out.grow hb_)
            clear HS
            have HS := HS_
            clear HS_
            have HS2_ := Lib.hid (HS2.out.grow hb_)
            clear HS2
            have HS2 := HS2_
            clear HS2_
            have HT_ := Lib.hid (HT.out.grow hb_)
            clear HT
            have HT := HT_
            clear HT_
            clear hb_
            go_wp2_with (first | (with_reducible refine wpl_loadb (o := ⟨_, .load _ _, _, _, _, _⟩) rfl rfl row_id HVX.out.blk rfl HVX.out.len ?_) | (with_reducible refine wpl_loadw (o := ⟨_, .load _ _, _, _, _, _⟩) (by first | rfl | (go_simp; done)) rfl row_id HVX.out.blk rfl HVX.out.len ?_) | (with_reducible refine wpl_loadb (o := ⟨_, .load _ _, _, _, _, _⟩) rfl rfl row_id HV0.out.blk rfl HV0.out.len ?_) | (with_reducible refine wpl_loadw (o := ⟨_, .load _ _, _, _, _, _⟩) (by first | rfl | (go_simp; done)) rfl row_id HV0.out.blk rfl HV0.out.len ?_))
            refine (ris_no shard HTD.out _ HRA.out HIN.out).mono ?_
            rintro e w_ ⟨rfl, hb_⟩
            have HB_ := Lib.hid (HB.out.grow' hb_)
            have HT_ := Lib.hid (HT.out.grow hb_)
            clear HB HT hb_
            have HB := HB_
            have HT := HT_
            clear HB_ HT_
            go_wp2_with fail
            refine (awake6_any _ HT.out).mono ?_
            rintro e w_ ⟨rfl, hb_⟩
            have HB_ := Lib.hid (HB.out.grow' hb_)
            clear HB
            have HB := HB_
            clear HB_
            clear hb_
            go_wp2_with fail
            go_ret
            exact ⟨rfl, HB.out⟩
      · have HSH := Lib.hid (show shards < 1 ∨ 64 < shards by omega)
        by_cases h3 : 1 ≤ shards
        · have g3 : decide (1 ≤ shards) = true := by simpa using h3
          have g4 : decide (shards ≤ 64) = false := by simp; omega
          clear hsh h3
          go_enter Tryd.func9, Tryd.ntmps9
          go_wp2_with (first | (with_reducible refine wpl_box (o := ⟨some 9, _, _, _, _, _⟩) rfl rfl rfl ?_))
          intro w2_ hb2_ hb_ hsz2_
          have HX_ := Lib.hid (at_mk hb2_ HTD.out.len)
          clear hb2_ hsz2_
          have HB_ := Lib.hid (HB.out.grow' hb_)
          clear HB
          have HB := HB_
          clear HB_
          have HS_ := Lib.hid (HS.out.grow hb_)
          clear HS
          have HS := HS_
          clear HS_
          have HS2_ := Lib.hid (HS2.out.grow hb_)
          clear HS2
          have HS2 := HS2_
          clear HS2_
          have HT_ := Lib.hid (HT.out.grow hb_)
          clear HT
          have HT := HT_
          clear HT_
          have HV0 := HX_
          clear hb_ HX_
          try clear w_
          rename World => w_
          go_wp2_with fail
          refine (keys_no A n c shards _ HSH.out).mono ?_
          rintro e w_ ⟨rfl, hb_⟩
          have HB_ := Lib.hid (HB.out.grow' hb_)
          clear HB
          have HB := HB_
          clear HB_
          have HT_ := Lib.hid (HT.out.grow hb_)
          clear HT
          have HT := HT_
          clear HT_
          clear hb_
          go_wp2_with fail
          refine (awake6_any _ HT.out).mono ?_
          rintro e w_ ⟨rfl, hb_⟩
          have HB_ := Lib.hid (HB.out.grow' hb_)
          clear HB
          have HB := HB_
          clear HB_
          clear hb_
          go_wp2_with fail
          go_ret
          exact ⟨rfl, HB.out⟩
        · have g3 : decide (1 ≤ shards) = false := by simpa using h3
          clear hsh h3
          go_enter Tryd.func9, Tryd.ntmps9
          go_wp2_with (first | (with_reducible refine wpl_box (o := ⟨some 9, _, _, _, _, _⟩) rfl rfl rfl ?_))
          intro w2_ hb2_ hb_ hsz2_
          have HX_ := Lib.hid (at_mk hb2_ HTD.out.len)
          clear hb2_ hsz2_
          have HB_ := Lib.hid (HB.out.grow' hb_)
          clear HB
          have HB := HB_
          clear HB_
          have HS_ := Lib.hid (HS.out.grow hb_)
          clear HS
          have HS := HS_
          clear HS_
          have HS2_ := Lib.hid (HS2.out.grow hb_)
          clear HS2
          have HS2 := HS2_
          clear HS2_
          have HT_ := Lib.hid (HT.out.grow hb_)
          clear HT
          have HT := HT_
          clear HT_
          have HV0 := HX_
          clear hb_ HX_
          try clear w_
          rename World => w_
          go_wp2_with fail
          refine (keys_no A n c shards _ HSH.out).mono ?_
          rintro e w_ ⟨rfl, hb_⟩
          have HB_ := Lib.hid (HB.out.grow' hb_)
          clear HB
          have HB := HB_
          clear HB_
          have HT_ := Lib.hid (HT.out.grow hb_)
          clear HT
          have HT := HT_
          clear HT_
          clear hb_
          go_wp2_with fail
          refine (awake6_any _ HT.out).mono ?_
          rintro e w_ ⟨rfl, hb_⟩
          have HB_ := Lib.hid (HB.out.grow' hb_)
          clear HB
          have HB := HB_
          clear HB_
          clear hb_
          go_wp2_with fail
          go_ret
          exact ⟨rfl, HB.out⟩
    · have g2 : decide (100 < (n2 : Int)) = true := by simp; omega
      go_enter Tryd.func9, Tryd.ntmps9
      go_wp2_with (first | (with_reducible refine wpl_box (o := ⟨some 9, _, _, _, _, _⟩) rfl rfl rfl ?_))
      intro w2_ hb2_ hb_ hsz2_
      have HX_ := Lib.hid (at_mk hb2_ HTD.out.len)
      clear hb2_ hsz2_
      have HB_ := Lib.hid (HB.out.grow' hb_)
      clear HB
      have HB := HB_
      clear HB_
      have HT_ := Lib.hid (HT.out.grow hb_)
      clear HT
      have HT := HT_
      clear HT_
      have HV0 := HX_
      clear hb_ HX_
      try clear w_
      rename World => w_
      go_wp2_with fail
      refine (awake6_any _ HT.out).mono ?_
      rintro e w_ ⟨rfl, hb_⟩
      have HB_ := Lib.hid (HB.out.grow' hb_)
      clear HB
      have HB := HB_
      clear HB_
      clear hb_
      go_wp2_with fail
      go_ret
      exact ⟨rfl, HB.out⟩
  · have g1 : decide (100 < (n : Int)) = true := by simp; omega
    go_enter Tryd.func9, Tryd.ntmps9
    go_wp2_with (first | (with_reducible refine wpl_box (o := ⟨some 9, _, _, _, _, _⟩) rfl rfl rfl ?_))
    intro w2_ hb2_ hb_ hsz2_
    have HX_ := Lib.hid (at_mk hb2_ HTD.out.len)
    clear hb2_ hsz2_
    have HB_ := Lib.hid (HB.out.grow' hb_)
    clear HB
    have HB := HB_
    clear HB_
    have HT_ := Lib.hid (HT.out.grow hb_)
    clear HT
    have HT := HT_
    clear HT_
    have HV0 := HX_
    clear hb_ HX_
    try clear w_
    rename World => w_
    go_wp2_with fail
    refine (awake6_any _ HT.out).mono ?_
    rintro e w_ ⟨rfl, hb_⟩
    have HB_ := Lib.hid (HB.out.grow' hb_)
    clear HB
    have HB := HB_
    clear HB_
    clear hb_
    go_wp2_with fail
    go_ret
    exact ⟨rfl, HB.out⟩
end Go.Proofs.YtlondennhhffdaaDoor

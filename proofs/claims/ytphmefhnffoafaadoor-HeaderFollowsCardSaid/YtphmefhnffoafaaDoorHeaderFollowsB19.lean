/- Region 1 of seisinlaw10.HeaderFollows. Printed by mkhdrl.py. -/
import Derived.Test.YtphmefhnffoafaaDoorHeaderFollowsB17
import Derived.Test.YtphmefhnffoafaaDoorHeaderFollowsB18
import Derived.Test.YtphmefhnffoafaaDoorHeaderFollowsB11
set_option linter.unusedSimpArgs false
/- Region 1 of seisinlaw10.HeaderFollows. Printed by mkhdrl.py. -/
namespace Go.Proofs.YtphmefhnffoafaaDoor
open Go.RowKit Go.Shelf
set_option linter.unusedVariables false
noncomputable def hfReg (k : Nat) : Code := (((Tryd.f4.body.map regsOf).getD []).find? (fun e => e.1 == k) |>.map (·.2)).getD .skip
set_option maxRecDepth 100000 in
set_option maxHeartbeats 40000000 in
theorem hf1 (a b : Hdr) {q_0 q_1 q_2 q_5 q_6 q_7 q_8 q_9 q_10 q_11 q_12 q_13 q_14 q_15 q_16 q_17 q_18 q_19 q_20 q_21 q_22 q_23 q_24 q_25 q_26 q_27 q_28 q_29 q_30 q_31 q_32 q_33 q_34 q_35 q_36 q_37 q_38 q_39 q_40 q_41 q_42 q_43 q_44 q_45 q_46 q_47 q_48 q_49 q_50 q_51 q_52 q_53 q_54 q_55 q_56 q_57 q_58 q_59 q_60 q_61 q_62 q_63 q_64 q_65 q_66 q_67 q_68 q_69 q_70 : Value} {Q0 : Exit → Act → World → Prop} {w : World} {ga gb : Nat} {av bv : List Value} (ha : a.ok) (hb : b.ok) (ht : Tabs w) (hav : Hid (av = hdrV a)) (hbv : Hid (bv = hdrV b)) (HA : Hid (At w ga 25 67 av)) (HBH : Hid (At w gb 25 67 bv))
    (HEX : Hid (∀ {u_8 u_9 u_10 u_11 u_12 u_13 u_14 u_15 u_16 u_17 u_18 u_19 u_20 u_21 u_22 u_23 u_24 u_25 u_26 u_27 u_28 u_29 u_30 u_31 u_32 u_33 u_34 u_35 u_36 u_37 u_38 u_39 u_40 u_41 u_42 : Value} {w' : World}, Below w.heap.size w w' → Q0 .normal ⟨(q_0 :: q_1 :: q_2 :: (.pointer (some ⟨ga, 0, none⟩)) :: (.pointer (some ⟨gb, 0, none⟩)) :: q_5 :: q_6 :: (.bool (followsB a b)) :: u_8 :: u_9 :: u_10 :: u_11 :: u_12 :: u_13 :: u_14 :: u_15 :: u_16 :: u_17 :: u_18 :: u_19 :: u_20 :: u_21 :: u_22 :: u_23 :: u_24 :: u_25 :: u_26 :: u_27 :: u_28 :: u_29 :: u_30 :: u_31 :: u_32 :: u_33 :: u_34 :: u_35 :: u_36 :: u_37 :: u_38 :: u_39 :: u_40 :: u_41 :: u_42 :: q_43 :: q_44 :: q_45 :: q_46 :: q_47 :: q_48 :: q_49 :: q_50 :: q_51 :: q_52 :: q_53 :: q_54 :: q_55 :: q_56 :: q_57 :: q_58 :: q_59 :: q_60 :: q_61 :: q_62 :: q_63 :: q_64 :: q_65 :: q_66 :: q_67 :: q_68 :: q_69 :: q_70 :: []).toArray, []⟩ w')) :
    Code.wp Tryd.prog (hfReg 1) Q0 ⟨(q_0 :: q_1 :: q_2 :: (.pointer (some ⟨ga, 0, none⟩)) :: (.pointer (some ⟨gb, 0, none⟩)) :: q_5 :: q_6 :: q_7 :: q_8 :: q_9 :: q_10 :: q_11 :: q_12 :: q_13 :: q_14 :: q_15 :: q_16 :: q_17 :: q_18 :: q_19 :: q_20 :: q_21 :: q_22 :: q_23 :: q_24 :: q_25 :: q_26 :: q_27 :: q_28 :: q_29 :: q_30 :: q_31 :: q_32 :: q_33 :: q_34 :: q_35 :: q_36 :: q_37 :: q_38 :: q_39 :: q_40 :: q_41 :: q_42 :: q_43 :: q_44 :: q_45 :: q_46 :: q_47 :: q_48 :: q_49 :: q_50 :: q_51 :: q_52 :: q_53 :: q_54 :: q_55 :: q_56 :: q_57 :: q_58 :: q_59 :: q_60 :: q_61 :: q_62 :: q_63 :: q_64 :: q_65 :: q_66 :: q_67 :: q_68 :: q_69 :: q_70 :: []).toArray, []⟩ w := by
  have HOA := Lib.hid ha; have HOB := Lib.hid hb
  have HT := Lib.hid ht
  have HPD := Lib.hid (dig_map hb.2.2.2.1)
  obtain ⟨zs, hzs⟩ : ∃ zs, Dig zs (hidB a) := ⟨(hidB a).map B, rfl, hidB_len a⟩
  have HZ := Lib.hid hzs
  have IA := Lib.hid (hdr_at ha); have IB := Lib.hid (hdr_at hb)
  have LA := Lib.hid (hdrV_length ha); have LB := Lib.hid (hdrV_length hb)
  obtain ⟨ra, hra⟩ : ∃ r, r = rightH a := ⟨_, rfl⟩
  obtain ⟨rb, hrb⟩ : ∃ r, r = rightH b := ⟨_, rfl⟩
  have HRAE := Lib.hid hra
  have HIB := Lib.hid (show ra = true → a.height ≤ 1099511627776 ∧ 1 ≤ a.height from fun h => by have := rightH_iff.1 (hra.symm.trans h); omega)
  obtain ⟨i0, h0⟩ : ∃ k, k = a.shard := ⟨_, rfl⟩
  obtain ⟨i1, h1⟩ : ∃ k, k = a.height := ⟨_, rfl⟩
  obtain ⟨i2, h2⟩ : ∃ k, k = a.epoch := ⟨_, rfl⟩
  obtain ⟨j0, h3⟩ : ∃ k, k = b.shard := ⟨_, rfl⟩
  obtain ⟨j1, h4⟩ : ∃ k, k = b.height := ⟨_, rfl⟩
  obtain ⟨j2, h5⟩ : ∃ k, k = b.epoch := ⟨_, rfl⟩
  obtain ⟨s1, e1⟩ : ∃ s, (i0 == j0) = s := ⟨_, rfl⟩
  obtain ⟨s2, e2⟩ : ∃ s, (j1 == i1 + 1) = s := ⟨_, rfl⟩
  obtain ⟨s3, e3⟩ : ∃ s, decide (i2 ≤ j2) = s := ⟨_, rfl⟩
  obtain ⟨sm, hsm⟩ : ∃ s, decide (b.prev = hidB a) = s := ⟨_, rfl⟩
  have HRES := Lib.hid (show followsB a b = (ra && rb && s1 && s2 && s3 && sm) by
    unfold followsB
    rw [← hra, ← hrb, ← e1, ← e2, ← e3, ← hsm, h0, h1, h2, h3, h4, h5]
    congr 1
    rw [Bool.eq_iff_iff]; simp)
  rw [← h0, ← h1, ← h2] at IA
  rw [← h3, ← h4, ← h5] at IB
  rw [← h1] at HIB
  clear h0 h1 h2 h3 h4 h5 hzs
  have HRA := Lib.hid (fun w => rhright_any a w ha); have HRB := Lib.hid (fun w => rhright_any b w hb)
  rw [← hra] at HRA
  rw [← hrb] at HRB
  have HIA := Lib.hid (fun w (_ : Tabs w) => rhid_any a HZ.out w ha)
  have q0 := HPD.out.eql_b HZ.out (d := sm) (by rw [← hsm]; exact Bool.beq_eq_decide_eq ..)
  have EB := hbv
  rw [← hav.out] at HRA HIA IA LA
  rw [← hbv.out] at HRB IB LB
  clear hra hrb hsm ha hb ht
  rw [HRES.out] at HEX
  have HB := Lib.hid (Below.refl w.heap.size w)
  conv => arg 2; whnf
  cases ra with
  | false =>
    try go_wp2_with fail
    repeat' (first | (with_reducible refine wp_flow (id := 1) [0,1,3,7,15,31,63,127,255,127,639,2047,4095,8191,16383,32767,16383,81919,212991,524287,1048575,2097151,4194303,8388607,4194303,20971519,67108863,134217727,268435455,536870911,1073741823,536870911,2684354559,8589934591,17179869183,34359738367] [0,3,0,0,3,0,0,0,0,0,0,0,0,0,0,0,0,0,0,0,0,0,0,0,0,0,0,0,0,0,0,0,3,0,0,0] (fun i => match i with | 1 => spV (.bool false) | 4 => spV (.bool false) | 32 => spV (.agg zs.toArray) | _ => spV undef) (by kernel_rfl) (by kernel_rfl) ?_) | go_values | go_skip | go_guarded | go_step | go_upon | go_back)
    intro w_ hd_
    have hb_ := hd_.grow
    have HB_ := Lib.hid (HB.out.grow' hb_)
    clear HB
    have HB := HB_
    clear HB_
    have HA_ := Lib.hid (HA.out.grow hb_)
    clear HA
    have HA := HA_
    clear HA_
    have HBH_ := Lib.hid (HBH.out.grow hb_)
    clear HBH
    have HBH := HBH_
    clear HBH_
    have HT_ := Lib.hid (HT.out.grow hb_)
    clear HT
    have HT := HT_
    clear HT_
    clear hb_ hd_
    show wpL _ _ _ _ _ _ _ [0,1,2,3,4,5,6,7,8,9,10,11,12,13,14,15,16,17,18,19,20,21,22,23,24,25,26,27,28,29,30,31,32,33,34,35] _ _
    have CA0 := Lib.hid (HA.out.blk.at_ IA.out.1)
    have CA1 := Lib.hid (HA.out.blk.at_ IA.out.2.1)
    have CA2 := Lib.hid (HA.out.blk.at_ IA.out.2.2)
    have CB0 := Lib.hid (HBH.out.blk.at_ IB.out.1)
    have CB1 := Lib.hid (HBH.out.blk.at_ IB.out.2.1)
    have CB2 := Lib.hid (HBH.out.blk.at_ IB.out.2.2)
    repeat (first | (refine fl_loadb rfl (by decide) (by first | exact wanted_none rfl | (go_simp; done) | fail) rfl row_header HA.out.blk (by first | rfl | (go_simp; done) | rfl) HA.out.len (fun K hK => ?_); go_simp; refine hK _ ?_; clear hK K) | (refine fl_loadb rfl (by decide) (by first | exact wanted_none rfl | (go_simp; done) | fail) rfl row_header HBH.out.blk (by first | rfl | (go_simp; done) | rfl) HBH.out.len (fun K hK => ?_); go_simp; refine hK _ ?_; clear hK K) | (refine fl_load rfl (by decide) (by first | exact wanted_none rfl | (go_simp; done) | fail) rfl (by first | rfl | (go_simp; rfl)) (by kernel_rfl) (by first | exact CA0.out | exact CA1.out | exact CA2.out | exact CB0.out | exact CB1.out | exact CB2.out) (fun K hK => ?_); go_simp; refine hK _ ?_; clear hK K) | (refine fl_skip rfl (by first | (go_simp; done) | fail) (fun K hK => ?_); go_simp; refine hK _ ?_; clear hK K) | (refine fl_calm rfl (by decide) (by first | exact wanted_none rfl | (go_simp; done) | fail) (fun w_ _ _ => by first | (go_simp; rfl) | (go_simp; done) | rfl) (fun K hK => ?_); go_simp; refine hK _ ?_; clear hK K))
    refine fl_callv rfl (by kernel_rfl) rfl (by first | exact wanted_none rfl | (go_simp; done) | fail) (fun w_ => by first | (go_simp; exact ⟨rfl, rfl⟩) | (go_simp; rfl) | (go_simp; exact ⟨⟨rfl, rfl, rfl⟩, rfl⟩)) (fun w2_ hg_ hL_ => ?_) (fun K hK => ?_)
    · skip
      exact HRA.out _
    go_simp
    refine hK _ ?_
    clear hK K
    repeat (first | (refine fl_loadb rfl (by decide) (by first | exact wanted_none rfl | (go_simp; done) | fail) rfl row_header HA.out.blk (by first | rfl | (go_simp; done) | rfl) HA.out.len (fun K hK => ?_); go_simp; refine hK _ ?_; clear hK K) | (refine fl_loadb rfl (by decide) (by first | exact wanted_none rfl | (go_simp; done) | fail) rfl row_header HBH.out.blk (by first | rfl | (go_simp; done) | rfl) HBH.out.len (fun K hK => ?_); go_simp; refine hK _ ?_; clear hK K) | (refine fl_load rfl (by decide) (by first | exact wanted_none rfl | (go_simp; done) | fail) rfl (by first | rfl | (go_simp; rfl)) (by kernel_rfl) (by first | exact CA0.out | exact CA1.out | exact CA2.out | exact CB0.out | exact CB1.out | exact CB2.out) (fun K hK => ?_); go_simp; refine hK _ ?_; clear hK K) | (refine fl_skip rfl (by first | (go_simp; done) | fail) (fun K hK => ?_); go_simp; refine hK _ ?_; clear hK K) | (refine fl_calm rfl (by decide) (by first | exact wanted_none rfl | (go_simp; done) | fail) (fun w_ _ _ => by first | (go_simp; rfl) | (go_simp; done) | rfl) (fun K hK => ?_); go_simp; refine hK _ ?_; clear hK K))
    refine fl_done ?_
    intro w2_ hg_ hL_
    replace HB := Lib.hid (HB.out.grow' hg_)
    replace HA := Lib.hid (HA.out.grow hg_)
    replace HBH := Lib.hid (HBH.out.grow hg_)
    replace HT := Lib.hid (HT.out.grow hg_)
    clear hg_ hL_
    try clear w_
    rename World => w_
    clear CA0 CA1 CA2 CB0 CB1 CB2
    first | exact HEX.out HB.out | (simp at HEX; exact HEX.out HB.out)
  | true =>
    have v1 : IntKind.i64.wrap (i1 + 1) = i1 + 1 := IntWalk.i64_in _ (by have := HIB.out rfl; omega)
    have v2 : RowKit.wrap64 (i1 + 1) = i1 + 1 := wrap64_in _ (by have := HIB.out rfl; omega)
    cases rb with
    | false =>
      try go_wp2_with fail
      repeat' (first | (with_reducible refine wp_flow (id := 1) [0,1,3,7,15,31,63,127,255,127,639,2047,4095,8191,16383,32767,16383,81919,212991,524287,1048575,2097151,4194303,8388607,4194303,20971519,67108863,134217727,268435455,536870911,1073741823,536870911,2684354559,8589934591,17179869183,34359738367] [0,3,0,0,3,0,0,0,0,0,0,0,0,0,0,0,0,0,0,0,0,0,0,0,0,0,0,0,0,0,0,0,3,0,0,0] (fun i => match i with | 1 => spV (.bool true) | 4 => spV (.bool false) | 32 => spV (.agg zs.toArray) | _ => spV undef) (by kernel_rfl) (by kernel_rfl) ?_) | go_values | go_skip | go_guarded | go_step | go_upon | go_back)
      intro w_ hd_
      have hb_ := hd_.grow
      have HB_ := Lib.hid (HB.out.grow' hb_)
      clear HB
      have HB := HB_
      clear HB_
      have HA_ := Lib.hid (HA.out.grow hb_)
      clear HA
      have HA := HA_
      clear HA_
      have HBH_ := Lib.hid (HBH.out.grow hb_)
      clear HBH
      have HBH := HBH_
      clear HBH_
      have HT_ := Lib.hid (HT.out.grow hb_)
      clear HT
      have HT := HT_
      clear HT_
      clear hb_ hd_
      show wpL _ _ _ _ _ _ _ [0,1,2,3,4,5,6,7,8,9,10,11,12,13,14,15,16,17,18,19,20,21,22,23,24,25,26,27,28,29,30,31,32,33,34,35] _ _
      have CA0 := Lib.hid (HA.out.blk.at_ IA.out.1)
      have CA1 := Lib.hid (HA.out.blk.at_ IA.out.2.1)
      have CA2 := Lib.hid (HA.out.blk.at_ IA.out.2.2)
      have CB0 := Lib.hid (HBH.out.blk.at_ IB.out.1)
      have CB1 := Lib.hid (HBH.out.blk.at_ IB.out.2.1)
      have CB2 := Lib.hid (HBH.out.blk.at_ IB.out.2.2)
      repeat (first | (refine fl_loadb rfl (by decide) (by first | exact wanted_none rfl | (go_simp; done) | fail) rfl row_header HA.out.blk (by first | rfl | (go_simp; done) | rfl) HA.out.len (fun K hK => ?_); go_simp; refine hK _ ?_; clear hK K) | (refine fl_loadb rfl (by decide) (by first | exact wanted_none rfl | (go_simp; done) | fail) rfl row_header HBH.out.blk (by first | rfl | (go_simp; done) | rfl) HBH.out.len (fun K hK => ?_); go_simp; refine hK _ ?_; clear hK K) | (refine fl_load rfl (by decide) (by first | exact wanted_none rfl | (go_simp; done) | fail) rfl (by first | rfl | (go_simp; rfl)) (by kernel_rfl) (by first | exact CA0.out | exact CA1.out | exact CA2.out | exact CB0.out | exact CB1.out | exact CB2.out) (fun K hK => ?_); go_simp; refine hK _ ?_; clear hK K) | (refine fl_skip rfl (by first | (go_simp; done) | fail) (fun K hK => ?_); go_simp; refine hK _ ?_; clear hK K) | (refine fl_calm rfl (by decide) (by first | exact wanted_none rfl | (go_simp; done) | fail) (fun w_ _ _ => by first | (go_simp; rfl) | (go_simp; done) | rfl) (fun K hK => ?_); go_simp; refine hK _ ?_; clear hK K))
      refine fl_callv rfl (by kernel_rfl) rfl (by first | exact wanted_none rfl | (go_simp; done) | fail) (fun w_ => by first | (go_simp; exact ⟨rfl, rfl⟩) | (go_simp; rfl) | (go_simp; exact ⟨⟨rfl, rfl, rfl⟩, rfl⟩)) (fun w2_ hg_ hL_ => ?_) (fun K hK => ?_)
      · skip
        exact HRA.out _
      go_simp
      refine hK _ ?_
      clear hK K
      repeat (first | (refine fl_loadb rfl (by decide) (by first | exact wanted_none rfl | (go_simp; done) | fail) rfl row_header HA.out.blk (by first | rfl | (go_simp; done) | rfl) HA.out.len (fun K hK => ?_); go_simp; refine hK _ ?_; clear hK K) | (refine fl_loadb rfl (by decide) (by first | exact wanted_none rfl | (go_simp; done) | fail) rfl row_header HBH.out.blk (by first | rfl | (go_simp; done) | rfl) HBH.out.len (fun K hK => ?_); go_simp; refine hK _ ?_; clear hK K) | (refine fl_load rfl (by decide) (by first | exact wanted_none rfl | (go_simp; done) | fail) rfl (by first | rfl | (go_simp; rfl)) (by kernel_rfl) (by first | exact CA0.out | exact CA1.out | exact CA2.out | exact CB0.out | exact CB1.out | exact CB2.out) (fun K hK => ?_); go_simp; refine hK _ ?_; clear hK K) | (refine fl_skip rfl (by first | (go_simp; done) | fail) (fun K hK => ?_); go_simp; refine hK _ ?_; clear hK K) | (refine fl_calm rfl (by decide) (by first | exact wanted_none rfl | (go_simp; done) | fail) (fun w_ _ _ => by first | (go_simp; rfl) | (go_simp; done) | rfl) (fun K hK => ?_); go_simp; refine hK _ ?_; clear hK K))
      refine fl_callv rfl (by kernel_rfl) rfl (by first | exact wanted_none rfl | (go_simp; done) | fail) (fun w_ => by first | (go_simp; exact ⟨rfl, rfl⟩) | (go_simp; rfl) | (go_simp; exact ⟨⟨rfl, rfl, rfl⟩, rfl⟩)) (fun w2_ hg_ hL_ => ?_) (fun K hK => ?_)
      · skip
        exact HRB.out _
      go_simp
      refine hK _ ?_
      clear hK K
      repeat (first | (refine fl_loadb rfl (by decide) (by first | exact wanted_none rfl | (go_simp; done) | fail) rfl row_header HA.out.blk (by first | rfl | (go_simp; done) | rfl) HA.out.len (fun K hK => ?_); go_simp; refine hK _ ?_; clear hK K) | (refine fl_loadb rfl (by decide) (by first | exact wanted_none rfl | (go_simp; done) | fail) rfl row_header HBH.out.blk (by first | rfl | (go_simp; done) | rfl) HBH.out.len (fun K hK => ?_); go_simp; refine hK _ ?_; clear hK K) | (refine fl_load rfl (by decide) (by first | exact wanted_none rfl | (go_simp; done) | fail) rfl (by first | rfl | (go_simp; rfl)) (by kernel_rfl) (by first | exact CA0.out | exact CA1.out | exact CA2.out | exact CB0.out | exact CB1.out | exact CB2.out) (fun K hK => ?_); go_simp; refine hK _ ?_; clear hK K) | (refine fl_skip rfl (by first | (go_simp; done) | fail) (fun K hK => ?_); go_simp; refine hK _ ?_; clear hK K) | (refine fl_calm rfl (by decide) (by first | exact wanted_none rfl | (go_simp; done) | fail) (fun w_ _ _ => by first | (go_simp; rfl) | (go_simp; done) | rfl) (fun K hK => ?_); go_simp; refine hK _ ?_; clear hK K))
      refine fl_done ?_
      intro w2_ hg_ hL_
      replace HB := Lib.hid (HB.out.grow' hg_)
      replace HA := Lib.hid (HA.out.grow hg_)
      replace HBH := Lib.hid (HBH.out.grow hg_)
      replace HT := Lib.hid (HT.out.grow hg_)
      clear hg_ hL_
      try clear w_
      rename World => w_
      clear CA0 CA1 CA2 CB0 CB1 CB2
      first | exact HEX.out HB.out | (simp at HEX; exact HEX.out HB.out)
    | true =>
      cases s1 with
      | false =>
        skip
        try go_wp2_with fail
        repeat' (first | (with_reducible refine wp_flow (id := 1) [0,1,3,7,15,31,63,127,255,127,639,2047,4095,8191,16383,32767,16383,81919,212991,524287,1048575,2097151,4194303,8388607,4194303,20971519,67108863,134217727,268435455,536870911,1073741823,536870911,2684354559,8589934591,17179869183,34359738367] [0,3,0,0,3,0,0,0,0,0,0,0,0,0,0,0,0,0,0,0,0,0,0,0,0,0,0,0,0,0,0,0,3,0,0,0] (fun i => match i with | 1 => spV (.bool true) | 4 => spV (.bool true) | 32 => spV (.agg zs.toArray) | _ => spV undef) (by kernel_rfl) (by kernel_rfl) ?_) | go_values | go_skip | go_guarded | go_step | go_upon | go_back)
        intro w_ hd_
        have hb_ := hd_.grow
        have HB_ := Lib.hid (HB.out.grow' hb_)
        clear HB
        have HB := HB_
        clear HB_
        have HA_ := Lib.hid (HA.out.grow hb_)
        clear HA
        have HA := HA_
        clear HA_
        have HBH_ := Lib.hid (HBH.out.grow hb_)
        clear HBH
        have HBH := HBH_
        clear HBH_
        have HT_ := Lib.hid (HT.out.grow hb_)
        clear HT
        have HT := HT_
        clear HT_
        clear hb_ hd_
        show wpL _ _ _ _ _ _ _ [0,1,2,3,4,5,6,7,8,9,10,11,12,13,14,15,16,17,18,19,20,21,22,23,24,25,26,27,28,29,30,31,32,33,34,35] _ _
        have CA0 := Lib.hid (HA.out.blk.at_ IA.out.1)
        have CA1 := Lib.hid (HA.out.blk.at_ IA.out.2.1)
        have CA2 := Lib.hid (HA.out.blk.at_ IA.out.2.2)
        have CB0 := Lib.hid (HBH.out.blk.at_ IB.out.1)
        have CB1 := Lib.hid (HBH.out.blk.at_ IB.out.2.1)
        have CB2 := Lib.hid (HBH.out.blk.at_ IB.out.2.2)
        repeat (first | (refine fl_loadb rfl (by decide) (by first | exact wanted_none rfl | (go_simp; done) | fail) rfl row_header HA.out.blk (by first | rfl | (go_simp; done) | rfl) HA.out.len (fun K hK => ?_); go_simp; refine hK _ ?_; clear hK K) | (refine fl_loadb rfl (by decide) (by first | exact wanted_none rfl | (go_simp; done) | fail) rfl row_header HBH.out.blk (by first | rfl | (go_simp; done) | rfl) HBH.out.len (fun K hK => ?_); go_simp; refine hK _ ?_; clear hK K) | (refine fl_load rfl (by decide) (by first | exact wanted_none rfl | (go_simp; done) | fail) rfl (by first | rfl | (go_simp; rfl)) (by kernel_rfl) (by first | exact CA0.out | exact CA1.out | exact CA2.out | exact CB0.out | exact CB1.out | exact CB2.out) (fun K hK => ?_); go_simp; refine hK _ ?_; clear hK K) | (refine fl_skip rfl (by first | (go_simp; done) | fail) (fun K hK => ?_); go_simp; refine hK _ ?_; clear hK K) | (refine fl_calm rfl (by decide) (by first | exact wanted_none rfl | (go_simp; done) | fail) (fun w_ _ _ => by first | (go_simp; rfl) | (go_simp; done) | rfl) (fun K hK => ?_); go_simp; refine hK _ ?_; clear hK K))
        refine fl_callv rfl (by kernel_rfl) rfl (by first | exact wanted_none rfl | (go_simp; done) | fail) (fun w_ => by first | (go_simp; exact ⟨rfl, rfl⟩) | (go_simp; rfl) | (go_simp; exact ⟨⟨rfl, rfl, rfl⟩, rfl⟩)) (fun w2_ hg_ hL_ => ?_) (fun K hK => ?_)
        · skip
          exact HRA.out _
        go_simp
        refine hK _ ?_
        clear hK K
        repeat (first | (refine fl_loadb rfl (by decide) (by first | exact wanted_none rfl | (go_simp; done) | fail) rfl row_header HA.out.blk (by first | rfl | (go_simp; done) | rfl) HA.out.len (fun K hK => ?_); go_simp; refine hK _ ?_; clear hK K) | (refine fl_loadb rfl (by decide) (by first | exact wanted_none rfl | (go_simp; done) | fail) rfl row_header HBH.out.blk (by first | rfl | (go_simp; done) | rfl) HBH.out.len (fun K hK => ?_); go_simp; refine hK _ ?_; clear hK K) | (refine fl_load rfl (by decide) (by first | exact wanted_none rfl | (go_simp; done) | fail) rfl (by first | rfl | (go_simp; rfl)) (by kernel_rfl) (by first | exact CA0.out | exact CA1.out | exact CA2.out | exact CB0.out | exact CB1.out | exact CB2.out) (fun K hK => ?_); go_simp; refine hK _ ?_; clear hK K) | (refine fl_skip rfl (by first | (go_simp; done) | fail) (fun K hK => ?_); go_simp; refine hK _ ?_; clear hK K) | (refine fl_calm rfl (by decide) (by first | exact wanted_none rfl | (go_simp; done) | fail) (fun w_ _ _ => by first | (go_simp; rfl) | (go_simp; done) | rfl) (fun K hK => ?_); go_simp; refine hK _ ?_; clear hK K))
        refine fl_callv rfl (by kernel_rfl) rfl (by first | exact wanted_none rfl | (go_simp; done) | fail) (fun w_ => by first | (go_simp; exact ⟨rfl, rfl⟩) | (go_simp; rfl) | (go_simp; exact ⟨⟨rfl, rfl, rfl⟩, rfl⟩)) (fun w2_ hg_ hL_ => ?_) (fun K hK => ?_)
        · skip
          exact HRB.out _
        go_simp
        refine hK _ ?_
        clear hK K
        repeat (first | (refine fl_loadb rfl (by decide) (by first | exact wanted_none rfl | (go_simp; done) | fail) rfl row_header HA.out.blk (by first | rfl | (go_simp; done) | rfl) HA.out.len (fun K hK => ?_); go_simp; refine hK _ ?_; clear hK K) | (refine fl_loadb rfl (by decide) (by first | exact wanted_none rfl | (go_simp; done) | fail) rfl row_header HBH.out.blk (by first | rfl | (go_simp; done) | rfl) HBH.out.len (fun K hK => ?_); go_simp; refine hK _ ?_; clear hK K) | (refine fl_load rfl (by decide) (by first | exact wanted_none rfl | (go_simp; done) | fail) rfl (by first | rfl | (go_simp; rfl)) (by kernel_rfl) (by first | exact CA0.out | exact CA1.out | exact CA2.out | exact CB0.out | exact CB1.out | exact CB2.out) (fun K hK => ?_); go_simp; refine hK _ ?_; clear hK K) | (refine fl_skip rfl (by first | (go_simp; done) | fail) (fun K hK => ?_); go_simp; refine hK _ ?_; clear hK K) | (refine fl_calm rfl (by decide) (by first | exact wanted_none rfl | (go_simp; done) | fail) (fun w_ _ _ => by first | (go_simp; rfl) | (go_simp; done) | rfl) (fun K hK => ?_); go_simp; refine hK _ ?_; clear hK K))
        refine fl_done ?_
        intro w2_ hg_ hL_
        replace HB := Lib.hid (HB.out.grow' hg_)
        replace HA := Lib.hid (HA.out.grow hg_)
        replace HBH := Lib.hid (HBH.out.grow hg_)
        replace HT := Lib.hid (HT.out.grow hg_)
        clear hg_ hL_
        try clear w_
        rename World => w_
        clear CA0 CA1 CA2 CB0 CB1 CB2
        first | exact HEX.out HB.out | (simp at HEX; exact HEX.out HB.out)
      | true =>
        cases s2 with
        | false =>
          try go_wp2_with fail
          repeat' (first | (with_reducible refine wp_flow (id := 1) [0,1,3,7,15,31,63,127,255,127,639,2047,4095,8191,16383,32767,16383,81919,212991,524287,1048575,2097151,4194303,8388607,4194303,20971519,67108863,134217727,268435455,536870911,1073741823,536870911,2684354559,8589934591,17179869183,34359738367] [0,3,0,0,3,0,0,0,0,0,0,0,0,0,0,0,0,0,0,0,0,0,0,0,0,0,0,0,0,0,0,0,3,0,0,0] (fun i => match i with | 1 => spV (.bool true) | 4 => spV (.bool true) | 32 => spV (.agg zs.toArray) | _ => spV undef) (by kernel_rfl) (by kernel_rfl) ?_) | go_values | go_skip | go_guarded | go_step | go_upon | go_back)
          intro w_ hd_
          have hb_ := hd_.grow
          have HB_ := Lib.hid (HB.out.grow' hb_)
          clear HB
          have HB := HB_
          clear HB_
          have HA_ := Lib.hid (HA.out.grow hb_)
          clear HA
          have HA := HA_
          clear HA_
          have HBH_ := Lib.hid (HBH.out.grow hb_)
          clear HBH
          have HBH := HBH_
          clear HBH_
          have HT_ := Lib.hid (HT.out.grow hb_)
          clear HT
          have HT := HT_
          clear HT_
          clear hb_ hd_
          show wpL _ _ _ _ _ _ _ [0,1,2,3,4,5,6,7,8,9,10,11,12,13,14,15,16,17,18,19,20,21,22,23,24,25,26,27,28,29,30,31,32,33,34,35] _ _
          have CA0 := Lib.hid (HA.out.blk.at_ IA.out.1)
          have CA1 := Lib.hid (HA.out.blk.at_ IA.out.2.1)
          have CA2 := Lib.hid (HA.out.blk.at_ IA.out.2.2)
          have CB0 := Lib.hid (HBH.out.blk.at_ IB.out.1)
          have CB1 := Lib.hid (HBH.out.blk.at_ IB.out.2.1)
          have CB2 := Lib.hid (HBH.out.blk.at_ IB.out.2.2)
          repeat (first | (refine fl_loadb rfl (by decide) (by first | exact wanted_none rfl | (go_simp; done) | fail) rfl row_header HA.out.blk (by first | rfl | (go_simp; done) | rfl) HA.out.len (fun K hK => ?_); go_simp; refine hK _ ?_; clear hK K) | (refine fl_loadb rfl (by decide) (by first | exact wanted_none rfl | (go_simp; done) | fail) rfl row_header HBH.out.blk (by first | rfl | (go_simp; done) | rfl) HBH.out.len (fun K hK => ?_); go_simp; refine hK _ ?_; clear hK K) | (refine fl_load rfl (by decide) (by first | exact wanted_none rfl | (go_simp; done) | fail) rfl (by first | rfl | (go_simp; rfl)) (by kernel_rfl) (by first | exact CA0.out | exact CA1.out | exact CA2.out | exact CB0.out | exact CB1.out | exact CB2.out) (fun K hK => ?_); go_simp; refine hK _ ?_; clear hK K) | (refine fl_skip rfl (by first | (go_simp; done) | fail) (fun K hK => ?_); go_simp; refine hK _ ?_; clear hK K) | (refine fl_calm rfl (by decide) (by first | exact wanted_none rfl | (go_simp; done) | fail) (fun w_ _ _ => by first | (go_simp; rfl) | (go_simp; done) | rfl) (fun K hK => ?_); go_simp; refine hK _ ?_; clear hK K))
          refine fl_callv rfl (by kernel_rfl) rfl (by first | exact wanted_none rfl | (go_simp; done) | fail) (fun w_ => by first | (go_simp; exact ⟨rfl, rfl⟩) | (go_simp; rfl) | (go_simp; exact ⟨⟨rfl, rfl, rfl⟩, rfl⟩)) (fun w2_ hg_ hL_ => ?_) (fun K hK => ?_)
          · skip
            exact HRA.out _
          go_simp
          refine hK _ ?_
          clear hK K
          repeat (first | (refine fl_loadb rfl (by decide) (by first | exact wanted_none rfl | (go_simp; done) | fail) rfl row_header HA.out.blk (by first | rfl | (go_simp; done) | rfl) HA.out.len (fun K hK => ?_); go_simp; refine hK _ ?_; clear hK K) | (refine fl_loadb rfl (by decide) (by first | exact wanted_none rfl | (go_simp; done) | fail) rfl row_header HBH.out.blk (by first | rfl | (go_simp; done) | rfl) HBH.out.len (fun K hK => ?_); go_simp; refine hK _ ?_; clear hK K) | (refine fl_load rfl (by decide) (by first | exact wanted_none rfl | (go_simp; done) | fail) rfl (by first | rfl | (go_simp; rfl)) (by kernel_rfl) (by first | exact CA0.out | exact CA1.out | exact CA2.out | exact CB0.out | exact CB1.out | exact CB2.out) (fun K hK => ?_); go_simp; refine hK _ ?_; clear hK K) | (refine fl_skip rfl (by first | (go_simp; done) | fail) (fun K hK => ?_); go_simp; refine hK _ ?_; clear hK K) | (refine fl_calm rfl (by decide) (by first | exact wanted_none rfl | (go_simp; done) | fail) (fun w_ _ _ => by first | (go_simp; rfl) | (go_simp; done) | rfl) (fun K hK => ?_); go_simp; refine hK _ ?_; clear hK K))
          refine fl_callv rfl (by kernel_rfl) rfl (by first | exact wanted_none rfl | (go_simp; done) | fail) (fun w_ => by first | (go_simp; exact ⟨rfl, rfl⟩) | (go_simp; rfl) | (go_simp; exact ⟨⟨rfl, rfl, rfl⟩, rfl⟩)) (fun w2_ hg_ hL_ => ?_) (fun K hK => ?_)
          · skip
            exact HRB.out _
          go_simp
          refine hK _ ?_
          clear hK K
          repeat (first | (refine fl_loadb rfl (by decide) (by first | exact wanted_none rfl | (go_simp; done) | fail) rfl row_header HA.out.blk (by first | rfl | (go_simp; done) | rfl) HA.out.len (fun K hK => ?_); go_simp; refine hK _ ?_; clear hK K) | (refine fl_loadb rfl (by decide) (by first | exact wanted_none rfl | (go_simp; done) | fail) rfl row_header HBH.out.blk (by first | rfl | (go_simp; done) | rfl) HBH.out.len (fun K hK => ?_); go_simp; refine hK _ ?_; clear hK K) | (refine fl_load rfl (by decide) (by first | exact wanted_none rfl | (go_simp; done) | fail) rfl (by first | rfl | (go_simp; rfl)) (by kernel_rfl) (by first | exact CA0.out | exact CA1.out | exact CA2.out | exact CB0.out | exact CB1.out | exact CB2.out) (fun K hK => ?_); go_simp; refine hK _ ?_; clear hK K) | (refine fl_skip rfl (by first | (go_simp; done) | fail) (fun K hK => ?_); go_simp; refine hK _ ?_; clear hK K) | (refine fl_calm rfl (by decide) (by first | exact wanted_none rfl | (go_simp; done) | fail) (fun w_ _ _ => by first | (go_simp; rfl) | (go_simp; done) | rfl) (fun K hK => ?_); go_simp; refine hK _ ?_; clear hK K))
          refine fl_done ?_
          intro w2_ hg_ hL_
          replace HB := Lib.hid (HB.out.grow' hg_)
          replace HA := Lib.hid (HA.out.grow hg_)
          replace HBH := Lib.hid (HBH.out.grow hg_)
          replace HT := Lib.hid (HT.out.grow hg_)
          clear hg_ hL_
          try clear w_
          rename World => w_
          clear CA0 CA1 CA2 CB0 CB1 CB2
          first | exact HEX.out HB.out | (simp at HEX; exact HEX.out HB.out)
        | true =>
          cases s3 with
          | false =>
            try go_wp2_with fail
            repeat' (first | (with_reducible refine wp_flow (id := 1) [0,1,3,7,15,31,63,127,255,127,639,2047,4095,8191,16383,32767,16383,81919,212991,524287,1048575,2097151,4194303,8388607,4194303,20971519,67108863,134217727,268435455,536870911,1073741823,536870911,2684354559,8589934591,17179869183,34359738367] [0,3,0,0,3,0,0,0,0,0,0,0,0,0,0,0,0,0,0,0,0,0,0,0,0,0,0,0,0,0,0,0,3,0,0,0] (fun i => match i with | 1 => spV (.bool true) | 4 => spV (.bool true) | 32 => spV (.agg zs.toArray) | _ => spV undef) (by kernel_rfl) (by kernel_rfl) ?_) | go_values | go_skip | go_guarded | go_step | go_upon | go_back)
            intro w_ hd_
            have hb_ := hd_.grow
            have HB_ := Lib.hid (HB.out.grow' hb_)
            clear HB
            have HB := HB_
            clear HB_
            have HA_ := Lib.hid (HA.out.grow hb_)
            clear HA
            have HA := HA_
            clear HA_
            have HBH_ := Lib.hid (HBH.out.grow hb_)
            clear HBH
            have HBH := HBH_
            clear HBH_
            have HT_ := Lib.hid (HT.out.grow hb_)
            clear HT
            have HT := HT_
            clear HT_
            clear hb_ hd_
            show wpL _ _ _ _ _ _ _ [0,1,2,3,4,5,6,7,8,9,10,11,12,13,14,15,16,17,18,19,20,21,22,23,24,25,26,27,28,29,30,31,32,33,34,35] _ _
            have CA0 := Lib.hid (HA.out.blk.at_ IA.out.1)
            have CA1 := Lib.hid (HA.out.blk.at_ IA.out.2.1)
            have CA2 := Lib.hid (HA.out.blk.at_ IA.out.2.2)
            have CB0 := Lib.hid (HBH.out.blk.at_ IB.out.1)
            have CB1 := Lib.hid (HBH.out.blk.at_ IB.out.2.1)
            have CB2 := Lib.hid (HBH.out.blk.at_ IB.out.2.2)
            repeat (first | (refine fl_loadb rfl (by decide) (by first | exact wanted_none rfl | (go_simp; done) | fail) rfl row_header HA.out.blk (by first | rfl | (go_simp; done) | rfl) HA.out.len (fun K hK => ?_); go_simp; refine hK _ ?_; clear hK K) | (refine fl_loadb rfl (by decide) (by first | exact wanted_none rfl | (go_simp; done) | fail) rfl row_header HBH.out.blk (by first | rfl | (go_simp; done) | rfl) HBH.out.len (fun K hK => ?_); go_simp; refine hK _ ?_; clear hK K) | (refine fl_load rfl (by decide) (by first | exact wanted_none rfl | (go_simp; done) | fail) rfl (by first | rfl | (go_simp; rfl)) (by kernel_rfl) (by first | exact CA0.out | exact CA1.out | exact CA2.out | exact CB0.out | exact CB1.out | exact CB2.out) (fun K hK => ?_); go_simp; refine hK _ ?_; clear hK K) | (refine fl_skip rfl (by first | (go_simp; done) | fail) (fun K hK => ?_); go_simp; refine hK _ ?_; clear hK K) | (refine fl_calm rfl (by decide) (by first | exact wanted_none rfl | (go_simp; done) | fail) (fun w_ _ _ => by first | (go_simp; rfl) | (go_simp; done) | rfl) (fun K hK => ?_); go_simp; refine hK _ ?_; clear hK K))
            refine fl_callv rfl (by kernel_rfl) rfl (by first | exact wanted_none rfl | (go_simp; done) | fail) (fun w_ => by first | (go_simp; exact ⟨rfl, rfl⟩) | (go_simp; rfl) | (go_simp; exact ⟨⟨rfl, rfl, rfl⟩, rfl⟩)) (fun w2_ hg_ hL_ => ?_) (fun K hK => ?_)
            · skip
              exact HRA.out _
            go_simp
            refine hK _ ?_
            clear hK K
            repeat (first | (refine fl_loadb rfl (by decide) (by first | exact wanted_none rfl | (go_simp; done) | fail) rfl row_header HA.out.blk (by first | rfl | (go_simp; done) | rfl) HA.out.len (fun K hK => ?_); go_simp; refine hK _ ?_; clear hK K) | (refine fl_loadb rfl (by decide) (by first | exact wanted_none rfl | (go_simp; done) | fail) rfl row_header HBH.out.blk (by first | rfl | (go_simp; done) | rfl) HBH.out.len (fun K hK => ?_); go_simp; refine hK _ ?_; clear hK K) | (refine fl_load rfl (by decide) (by first | exact wanted_none rfl | (go_simp; done) | fail) rfl (by first | rfl | (go_simp; rfl)) (by kernel_rfl) (by first | exact CA0.out | exact CA1.out | exact CA2.out | exact CB0.out | exact CB1.out | exact CB2.out) (fun K hK => ?_); go_simp; refine hK _ ?_; clear hK K) | (refine fl_skip rfl (by first | (go_simp; done) | fail) (fun K hK => ?_); go_simp; refine hK _ ?_; clear hK K) | (refine fl_calm rfl (by decide) (by first | exact wanted_none rfl | (go_simp; done) | fail) (fun w_ _ _ => by first | (go_simp; rfl) | (go_simp; done) | rfl) (fun K hK => ?_); go_simp; refine hK _ ?_; clear hK K))
            refine fl_callv rfl (by kernel_rfl) rfl (by first | exact wanted_none rfl | (go_simp; done) | fail) (fun w_ => by first | (go_simp; exact ⟨rfl, rfl⟩) | (go_simp; rfl) | (go_simp; exact ⟨⟨rfl, rfl, rfl⟩, rfl⟩)) (fun w2_ hg_ hL_ => ?_) (fun K hK => ?_)
            · skip
              exact HRB.out _
            go_simp
            refine hK _ ?_
            clear hK K
            repeat (first | (refine fl_loadb rfl (by decide) (by first | exact wanted_none rfl | (go_simp; done) | fail) rfl row_header HA.out.blk (by first | rfl | (go_simp; done) | rfl) HA.out.len (fun K hK => ?_); go_simp; refine hK _ ?_; clear hK K) | (refine fl_loadb rfl (by decide) (by first | exact wanted_none rfl | (go_simp; done) | fail) rfl row_header HBH.out.blk (by first | rfl | (go_simp; done) | rfl) HBH.out.len (fun K hK => ?_); go_simp; refine hK _ ?_; clear hK K) | (refine fl_load rfl (by decide) (by first | exact wanted_none rfl | (go_simp; done) | fail) rfl (by first | rfl | (go_simp; rfl)) (by kernel_rfl) (by first | exact CA0.out | exact CA1.out | exact CA2.out | exact CB0.out | exact CB1.out | exact CB2.out) (fun K hK => ?_); go_simp; refine hK _ ?_; clear hK K) | (refine fl_skip rfl (by first | (go_simp; done) | fail) (fun K hK => ?_); go_simp; refine hK _ ?_; clear hK K) | (refine fl_calm rfl (by decide) (by first | exact wanted_none rfl | (go_simp; done) | fail) (fun w_ _ _ => by first | (go_simp; rfl) | (go_simp; done) | rfl) (fun K hK => ?_); go_simp; refine hK _ ?_; clear hK K))
            refine fl_done ?_
            intro w2_ hg_ hL_
            replace HB := Lib.hid (HB.out.grow' hg_)
            replace HA := Lib.hid (HA.out.grow hg_)
            replace HBH := Lib.hid (HBH.out.grow hg_)
            replace HT := Lib.hid (HT.out.grow hg_)
            clear hg_ hL_
            try clear w_
            rename World => w_
            clear CA0 CA1 CA2 CB0 CB1 CB2
            first | exact HEX.out HB.out | (simp at HEX; exact HEX.out HB.out)
          | true =>
            try go_wp2_with fail
            repeat' (first | (with_reducible refine wp_flow (id := 1) [0,1,3,7,15,31,63,127,255,127,639,2047,4095,8191,16383,32767,16383,81919,212991,524287,1048575,2097151,4194303,8388607,4194303,20971519,67108863,134217727,268435455,536870911,1073741823,536870911,2684354559,8589934591,17179869183,34359738367] [0,3,0,0,3,0,0,0,0,0,0,0,0,0,0,0,0,0,0,0,0,0,0,0,0,0,0,0,0,0,0,0,3,0,0,0] (fun i => match i with | 1 => spV (.bool true) | 4 => spV (.bool true) | 32 => spV (.agg zs.toArray) | _ => spV undef) (by kernel_rfl) (by kernel_rfl) ?_) | go_values | go_skip | go_guarded | go_step | go_upon | go_back)
            intro w_ hd_
            have hb_ := hd_.grow
            have HB_ := Lib.hid (HB.out.grow' hb_)
            clear HB
            have HB := HB_
            clear HB_
            have HA_ := Lib.hid (HA.out.grow hb_)
            clear HA
            have HA := HA_
            clear HA_
            have HBH_ := Lib.hid (HBH.out.grow hb_)
            clear HBH
            have HBH := HBH_
            clear HBH_
            have HT_ := Lib.hid (HT.out.grow hb_)
            clear HT
            have HT := HT_
            clear HT_
            clear hb_ hd_
            show wpL _ _ _ _ _ _ _ [0,1,2,3,4,5,6,7,8,9,10,11,12,13,14,15,16,17,18,19,20,21,22,23,24,25,26,27,28,29,30,31,32,33,34,35] _ _
            have CA0 := Lib.hid (HA.out.blk.at_ IA.out.1)
            have CA1 := Lib.hid (HA.out.blk.at_ IA.out.2.1)
            have CA2 := Lib.hid (HA.out.blk.at_ IA.out.2.2)
            have CB0 := Lib.hid (HBH.out.blk.at_ IB.out.1)
            have CB1 := Lib.hid (HBH.out.blk.at_ IB.out.2.1)
            have CB2 := Lib.hid (HBH.out.blk.at_ IB.out.2.2)
            repeat (first | (refine fl_loadb rfl (by decide) (by first | exact wanted_none rfl | (go_simp; done) | fail) rfl row_header HA.out.blk (by first | rfl | (go_simp; done) | rfl) HA.out.len (fun K hK => ?_); go_simp; refine hK _ ?_; clear hK K) | (refine fl_loadb rfl (by decide) (by first | exact wanted_none rfl | (go_simp; done) | fail) rfl row_header HBH.out.blk (by first | rfl | (go_simp; done) | rfl) HBH.out.len (fun K hK => ?_); go_simp; refine hK _ ?_; clear hK K) | (refine fl_load rfl (by decide) (by first | exact wanted_none rfl | (go_simp; done) | fail) rfl (by first | rfl | (go_simp; rfl)) (by kernel_rfl) (by first | exact CA0.out | exact CA1.out | exact CA2.out | exact CB0.out | exact CB1.out | exact CB2.out) (fun K hK => ?_); go_simp; refine hK _ ?_; clear hK K) | (refine fl_skip rfl (by first | (go_simp; done) | fail) (fun K hK => ?_); go_simp; refine hK _ ?_; clear hK K) | (refine fl_calm rfl (by decide) (by first | exact wanted_none rfl | (go_simp; done) | fail) (fun w_ _ _ => by first | (go_simp; rfl) | (go_simp; done) | rfl) (fun K hK => ?_); go_simp; refine hK _ ?_; clear hK K))
            refine fl_callv rfl (by kernel_rfl) rfl (by first | exact wanted_none rfl | (go_simp; done) | fail) (fun w_ => by first | (go_simp; exact ⟨rfl, rfl⟩) | (go_simp; rfl) | (go_simp; exact ⟨⟨rfl, rfl, rfl⟩, rfl⟩)) (fun w2_ hg_ hL_ => ?_) (fun K hK => ?_)
            · skip
              exact HRA.out _
            go_simp
            refine hK _ ?_
            clear hK K
            repeat (first | (refine fl_loadb rfl (by decide) (by first | exact wanted_none rfl | (go_simp; done) | fail) rfl row_header HA.out.blk (by first | rfl | (go_simp; done) | rfl) HA.out.len (fun K hK => ?_); go_simp; refine hK _ ?_; clear hK K) | (refine fl_loadb rfl (by decide) (by first | exact wanted_none rfl | (go_simp; done) | fail) rfl row_header HBH.out.blk (by first | rfl | (go_simp; done) | rfl) HBH.out.len (fun K hK => ?_); go_simp; refine hK _ ?_; clear hK K) | (refine fl_load rfl (by decide) (by first | exact wanted_none rfl | (go_simp; done) | fail) rfl (by first | rfl | (go_simp; rfl)) (by kernel_rfl) (by first | exact CA0.out | exact CA1.out | exact CA2.out | exact CB0.out | exact CB1.out | exact CB2.out) (fun K hK => ?_); go_simp; refine hK _ ?_; clear hK K) | (refine fl_skip rfl (by first | (go_simp; done) | fail) (fun K hK => ?_); go_simp; refine hK _ ?_; clear hK K) | (refine fl_calm rfl (by decide) (by first | exact wanted_none rfl | (go_simp; done) | fail) (fun w_ _ _ => by first | (go_simp; rfl) | (go_simp; done) | rfl) (fun K hK => ?_); go_simp; refine hK _ ?_; clear hK K))
            refine fl_callv rfl (by kernel_rfl) rfl (by first | exact wanted_none rfl | (go_simp; done) | fail) (fun w_ => by first | (go_simp; exact ⟨rfl, rfl⟩) | (go_simp; rfl) | (go_simp; exact ⟨⟨rfl, rfl, rfl⟩, rfl⟩)) (fun w2_ hg_ hL_ => ?_) (fun K hK => ?_)
            · skip
              exact HRB.out _
            go_simp
            refine hK _ ?_
            clear hK K
            repeat (first | (refine fl_loadb rfl (by decide) (by first | exact wanted_none rfl | (go_simp; done) | fail) rfl row_header HA.out.blk (by first | rfl | (go_simp; done) | rfl) HA.out.len (fun K hK => ?_); go_simp; refine hK _ ?_; clear hK K) | (refine fl_loadb rfl (by decide) (by first | exact wanted_none rfl | (go_simp; done) | fail) rfl row_header HBH.out.blk (by first | rfl | (go_simp; done) | rfl) HBH.out.len (fun K hK => ?_); go_simp; refine hK _ ?_; clear hK K) | (refine fl_load rfl (by decide) (by first | exact wanted_none rfl | (go_simp; done) | fail) rfl (by first | rfl | (go_simp; rfl)) (by kernel_rfl) (by first | exact CA0.out | exact CA1.out | exact CA2.out | exact CB0.out | exact CB1.out | exact CB2.out) (fun K hK => ?_); go_simp; refine hK _ ?_; clear hK K) | (refine fl_skip rfl (by first | (go_simp; done) | fail) (fun K hK => ?_); go_simp; refine hK _ ?_; clear hK K) | (refine fl_calm rfl (by decide) (by first | exact wanted_none rfl | (go_simp; done) | fail) (fun w_ _ _ => by first | (go_simp; rfl) | (go_simp; done) | rfl) (fun K hK => ?_); go_simp; refine hK _ ?_; clear hK K))
            have HM := Lib.hid (midP HOB.out (show Blk w_ gb _ (hdrV b) by have h := HBH.out.blk; rw [EB.out] at h; exact h))
            refine fl_loadm rfl (by decide) (by first | exact wanted_none rfl | (go_simp; done) | fail) rfl row_aid HM.out (by first | rfl | (go_simp; done) | rfl) (by rw [List.length_map]; exact HOB.out.2.2.2.1) (fun K hK => ?_)
            go_simp
            refine hK _ ?_
            clear hK K
            repeat (first | (refine fl_loadb rfl (by decide) (by first | exact wanted_none rfl | (go_simp; done) | fail) rfl row_header HA.out.blk (by first | rfl | (go_simp; done) | rfl) HA.out.len (fun K hK => ?_); go_simp; refine hK _ ?_; clear hK K) | (refine fl_loadb rfl (by decide) (by first | exact wanted_none rfl | (go_simp; done) | fail) rfl row_header HBH.out.blk (by first | rfl | (go_simp; done) | rfl) HBH.out.len (fun K hK => ?_); go_simp; refine hK _ ?_; clear hK K) | (refine fl_load rfl (by decide) (by first | exact wanted_none rfl | (go_simp; done) | fail) rfl (by first | rfl | (go_simp; rfl)) (by kernel_rfl) (by first | exact CA0.out | exact CA1.out | exact CA2.out | exact CB0.out | exact CB1.out | exact CB2.out) (fun K hK => ?_); go_simp; refine hK _ ?_; clear hK K) | (refine fl_skip rfl (by first | (go_simp; done) | fail) (fun K hK => ?_); go_simp; refine hK _ ?_; clear hK K) | (refine fl_calm rfl (by decide) (by first | exact wanted_none rfl | (go_simp; done) | fail) (fun w_ _ _ => by first | (go_simp; rfl) | (go_simp; done) | rfl) (fun K hK => ?_); go_simp; refine hK _ ?_; clear hK K))
            refine fl_callv rfl (by kernel_rfl) rfl (by first | exact wanted_none rfl | (go_simp; done) | fail) (fun w_ => by first | (go_simp; exact ⟨rfl, rfl⟩) | (go_simp; rfl) | (go_simp; exact ⟨⟨rfl, rfl, rfl⟩, rfl⟩)) (fun w2_ hg_ hL_ => ?_) (fun K hK => ?_)
            · skip
              replace HT := Lib.hid (HT.out.grow hg_)
              exact HIA.out _ HT.out
            go_simp
            refine hK _ ?_
            clear hK K
            repeat (first | (refine fl_loadb rfl (by decide) (by first | exact wanted_none rfl | (go_simp; done) | fail) rfl row_header HA.out.blk (by first | rfl | (go_simp; done) | rfl) HA.out.len (fun K hK => ?_); go_simp; refine hK _ ?_; clear hK K) | (refine fl_loadb rfl (by decide) (by first | exact wanted_none rfl | (go_simp; done) | fail) rfl row_header HBH.out.blk (by first | rfl | (go_simp; done) | rfl) HBH.out.len (fun K hK => ?_); go_simp; refine hK _ ?_; clear hK K) | (refine fl_load rfl (by decide) (by first | exact wanted_none rfl | (go_simp; done) | fail) rfl (by first | rfl | (go_simp; rfl)) (by kernel_rfl) (by first | exact CA0.out | exact CA1.out | exact CA2.out | exact CB0.out | exact CB1.out | exact CB2.out) (fun K hK => ?_); go_simp; refine hK _ ?_; clear hK K) | (refine fl_skip rfl (by first | (go_simp; done) | fail) (fun K hK => ?_); go_simp; refine hK _ ?_; clear hK K) | (refine fl_calm rfl (by decide) (by first | exact wanted_none rfl | (go_simp; done) | fail) (fun w_ _ _ => by first | (go_simp; rfl) | (go_simp; done) | rfl) (fun K hK => ?_); go_simp; refine hK _ ?_; clear hK K))
            refine fl_done ?_
            intro w2_ hg_ hL_
            replace HB := Lib.hid (HB.out.grow' hg_)
            replace HA := Lib.hid (HA.out.grow hg_)
            replace HBH := Lib.hid (HBH.out.grow hg_)
            replace HT := Lib.hid (HT.out.grow hg_)
            clear hg_ hL_
            try clear w_
            rename World => w_
            clear CA0 CA1 CA2 CB0 CB1 CB2 HM
            first | exact HEX.out HB.out | (simp at HEX; exact HEX.out HB.out)
end Go.Proofs.YtphmefhnffoafaaDoor

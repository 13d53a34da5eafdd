/- The contract of header.Follows. Printed by mkhdrf.py. -/
import Derived.Test.YtphmefhnffoafaaDoorHeaderFollowsB15
import Derived.Test.YtphmefhnffoafaaDoorHeaderFollowsB16
set_option linter.unusedSimpArgs false
/- The contract of header.Follows. Printed by mkhdrf.py. -/
namespace Go.Proofs.YtphmefhnffoafaaDoor
open Go.RowKit Go.Shelf
set_option linter.unusedVariables false
section
variable {P : Program} {ops : Array Oper} {am cl : List Nat} {sp : Nat → Sp} {w0 : World} {Q : Exit → Act → World → Prop} {us : List Nat} {L : List (Nat × (World → Prop))} {o : Oper} {i : Nat} {a : Act}
theorem fl_loadm {T : TypeId} {x : Operand} {n b off : Nat} {cs : List Value} (hi : ops[i]? = some o) (hc : plCls cl i ≤ 2) (hw : Region.wanted o (yielded ops a.tmps) = true) (ho : o.op = .load T x) (hT : RowT P T n)
    (hv : ∀ j u, cs[j]? = some u → w0.cell? ⟨b, off + j, none⟩ = some u) (hx : a.eval x = .pointer (some ⟨b, off, none⟩)) (hn : cs.length = n)
    (hk : ∀ K : Act → Prop, (∀ a, wpL P ops am cl sp w0 Q us a L → K a) → K (a.put o.dst (.agg cs.toArray))) : wpL P ops am cl sp w0 Q (i :: us) a L := by
  refine fl_calm hi hc hw (fun w' hf _ => ?_) hk
  obtain ⟨d, hu, hd, hi⟩ := hT
  have hrun := run_loadVar_mid (P := P) w' b off T cs d (fun j u hj => by
    have h1 := hv j u hj
    rw [hf.cell (World.block_lt_of_cell? w0 _ h1)]; exact h1) hu (by cases d <;> simp_all) (by rw [hi, hn])
  unfold execOp
  simp only [ho, hx, Instr.loadAt, Instr.sureAddr, Sem.run_bind, Sem.run_pure, Result.andThen_ok, hrun]
end
set_option maxRecDepth 100000 in
set_option maxHeartbeats 40000000 in
theorem fol_any (a b : Hdr) (w : World) (ha : a.ok) (hb : b.ok) (ht : Tabs w) : Calls Tryd.prog 21 #[.agg (hdrV a).toArray, .agg (hdrV b).toArray] w fun e w' => e = .returned (.bool (followsB a b)) ∧ Below w.heap.size w w' := by
  have HOA := Lib.hid ha; have HOB := Lib.hid hb
  have HT := Lib.hid ht
  have HPD := Lib.hid (dig_map hb.2.2.2.1)
  obtain ⟨zs, hzs⟩ : ∃ zs, Dig zs (hidB a) := ⟨(hidB a).map B, rfl, hidB_len a⟩
  have HZ := Lib.hid hzs
  have IA := Lib.hid (hdr_at ha); have IB := Lib.hid (hdr_at hb)
  have LA := Lib.hid (hdrV_length ha); have LB := Lib.hid (hdrV_length hb)
  obtain ⟨ra, hra⟩ : ∃ r, r = rightH a := ⟨_, rfl⟩
  obtain ⟨rb, hrb⟩ : ∃ r, r = rightH b := ⟨_, rfl⟩
  have HRAE := Lib.hid hra
  have HIB := Lib.hid (show ra = true → a.height ≤ 1099511627776 ∧ 1 ≤ a.height from fun h => by have := rightH_iff.1 (hra.symm.trans h); omega)
  obtain ⟨i0, h0⟩ : ∃ k, k = a.shard := ⟨_, rfl⟩
  obtain ⟨i1, h1⟩ : ∃ k, k = a.height := ⟨_, rfl⟩
  obtain ⟨i2, h2⟩ : ∃ k, k = a.epoch := ⟨_, rfl⟩
  obtain ⟨j0, h3⟩ : ∃ k, k = b.shard := ⟨_, rfl⟩
  obtain ⟨j1, h4⟩ : ∃ k, k = b.height := ⟨_, rfl⟩
  obtain ⟨j2, h5⟩ : ∃ k, k = b.epoch := ⟨_, rfl⟩
  obtain ⟨s1, e1⟩ : ∃ s, (i0 == j0) = s := ⟨_, rfl⟩
  obtain ⟨s2, e2⟩ : ∃ s, (j1 == i1 + 1) = s := ⟨_, rfl⟩
  obtain ⟨s3, e3⟩ : ∃ s, decide (i2 ≤ j2) = s := ⟨_, rfl⟩
  obtain ⟨sm, hsm⟩ : ∃ s, decide (b.prev = hidB a) = s := ⟨_, rfl⟩
  have HRES := Lib.hid (show followsB a b = (ra && rb && s1 && s2 && s3 && sm) by
    unfold followsB
    rw [← hra, ← hrb, ← e1, ← e2, ← e3, ← hsm, h0, h1, h2, h3, h4, h5]
    congr 1
    rw [Bool.eq_iff_iff]; simp)
  rw [← h0, ← h1, ← h2] at IA
  rw [← h3, ← h4, ← h5] at IB
  rw [← h1] at HIB
  clear h0 h1 h2 h3 h4 h5 hzs
  have HRA := Lib.hid (fun w => hright_any a w ha); have HRB := Lib.hid (fun w => hright_any b w hb)
  rw [← hra] at HRA
  rw [← hrb] at HRB
  have HIA := Lib.hid (fun w ht => hid_any a HZ.out w ha ht)
  have HSM := Lib.hid (fun w => same_dig HPD.out HZ.out w)
  rw [hsm] at HSM
  clear hra hrb hsm
  obtain ⟨av, has⟩ : ∃ av, av = hdrV a := ⟨_, rfl⟩
  obtain ⟨bv, hbs⟩ : ∃ bv, bv = hdrV b := ⟨_, rfl⟩
  have EB := Lib.hid hbs
  rw [← has] at HRA HIA IA LA ⊢
  rw [← hbs] at HRB IB LB ⊢
  clear has hbs ha hb ht
  have HB := Lib.hid (Below.refl w.heap.size w)
  obtain ⟨ga, hga⟩ : ∃ g, g = w.heap.size := ⟨_, rfl⟩
  have HGA := Lib.hid hga
  go_enter Tryd.func21, Tryd.ntmps21
  go_wp2_with (first | (with_reducible refine wpl_box (o := ⟨some 2, _, _, _, _, _⟩) rfl rfl rfl ?_))
  intro w1 hb1 hbw1 hsz1
  rw [← hga] at hb1 hbw1 hsz1 ⊢
  clear hga
  obtain ⟨gb, hgb⟩ : ∃ g, g = w1.heap.size := ⟨_, rfl⟩
  have HGB := Lib.hid hgb
  go_wp2_with (first | (with_reducible refine wpl_box (o := ⟨some 3, _, _, _, _, _⟩) rfl rfl rfl ?_))
  intro w_ hb2 hbw2 hsz2
  have hgb2 : gb = ga + 1 := by omega
  have HA := Lib.hid (at_mk (hb1.below hbw2 (by omega)) LA.out)
  have HBH := Lib.hid (at_mk (show Blk w_ gb 25 bv by rw [HGB.out]; first | exact hb2 | (rw [hsz1]; exact hb2)) LB.out)
  have HB_ := Lib.hid (show Grow w w_ by rw [HGA.out] at hbw1; exact Below.trans hbw1 (hbw2.mono (by have := HGA.out; omega)))
  have HT_ := Lib.hid (HT.out.grow HB_.out)
  try rw [← hgb2]
  clear hb1 hb2 hbw1 hbw2 hsz1 hsz2 HB HT hgb hgb2
  have HB := HB_; have HT := HT_
  clear HB_ HT_
  try clear w1
  cases ra with
  | false =>
    try go_wp2_with fail
    repeat' (first | (with_reducible refine wp_flow (id := 1) [0,1,3,7,15,31,63,127,255,127,639,2047,4095,8191,16383,32767,16383,81919,212991,524287,1048575,2097151,4194303,8388607,4194303,20971519,67108863,134217727,268435455,536870911,1073741823,536870911,2684354559,8589934591,17179869183,34359738367] [0,3,0,0,3,0,0,0,0,0,0,0,0,0,0,0,0,0,0,0,0,0,0,0,0,0,0,0,0,0,0,0,3,3,0,0] (fun i => match i with | 1 => spV (.bool false) | 4 => spV (.bool false) | 32 => spV (.agg zs.toArray) | 33 => spV (.bool sm) | _ => spV undef) (by kernel_rfl) (by kernel_rfl) ?_) | go_values | go_skip | go_guarded | go_step | go_upon | go_back)
    intro w_ hd_
    have hb_ := hd_.grow
    have HB_ := Lib.hid (HB.out.grow' hb_)
    clear HB
    have HB := HB_
    clear HB_
    have HA_ := Lib.hid (HA.out.grow hb_)
    clear HA
    have HA := HA_
    clear HA_
    have HBH_ := Lib.hid (HBH.out.grow hb_)
    clear HBH
    have HBH := HBH_
    clear HBH_
    have HT_ := Lib.hid (HT.out.grow hb_)
    clear HT
    have HT := HT_
    clear HT_
    clear hb_ hd_
    show wpL _ _ _ _ _ _ _ [0,1,2,3,4,5,6,7,8,9,10,11,12,13,14,15,16,17,18,19,20,21,22,23,24,25,26,27,28,29,30,31,32,33,34,35] _ _
    have CA0 := Lib.hid (HA.out.blk.at_ IA.out.1)
    have CA1 := Lib.hid (HA.out.blk.at_ IA.out.2.1)
    have CA2 := Lib.hid (HA.out.blk.at_ IA.out.2.2)
    have CB0 := Lib.hid (HBH.out.blk.at_ IB.out.1)
    have CB1 := Lib.hid (HBH.out.blk.at_ IB.out.2.1)
    have CB2 := Lib.hid (HBH.out.blk.at_ IB.out.2.2)
    repeat (first | (refine fl_loadb rfl (by decide) (by first | exact wanted_none rfl | (go_simp; done) | fail) rfl row_header HA.out.blk (by first | rfl | (go_simp; done) | rfl) HA.out.len (fun K hK => ?_); go_simp; refine hK _ ?_; clear hK K) | (refine fl_loadb rfl (by decide) (by first | exact wanted_none rfl | (go_simp; done) | fail) rfl row_header HBH.out.blk (by first | rfl | (go_simp; done) | rfl) HBH.out.len (fun K hK => ?_); go_simp; refine hK _ ?_; clear hK K) | (refine fl_load rfl (by decide) (by first | exact wanted_none rfl | (go_simp; done) | fail) rfl (by first | rfl | (go_simp; rfl)) (by kernel_rfl) (by first | exact CA0.out | exact CA1.out | exact CA2.out | exact CB0.out | exact CB1.out | exact CB2.out) (fun K hK => ?_); go_simp; refine hK _ ?_; clear hK K) | (refine fl_skip rfl (by first | (go_simp; done) | fail) (fun K hK => ?_); go_simp; refine hK _ ?_; clear hK K) | (refine fl_calm rfl (by decide) (by first | exact wanted_none rfl | (go_simp; done) | fail) (fun w_ _ _ => by first | (go_simp; rfl) | (go_simp; done) | rfl) (fun K hK => ?_); go_simp; refine hK _ ?_; clear hK K))
    refine fl_callv rfl (by kernel_rfl) rfl (by first | exact wanted_none rfl | (go_simp; done) | fail) (fun w_ => by first | (go_simp; exact ⟨rfl, rfl⟩) | (go_simp; rfl) | (go_simp; exact ⟨⟨rfl, rfl, rfl⟩, rfl⟩)) (fun w2_ hg_ hL_ => ?_) (fun K hK => ?_)
    · skip
      exact HRA.out _
    go_simp
    refine hK _ ?_
    clear hK K
    repeat (first | (refine fl_loadb rfl (by decide) (by first | exact wanted_none rfl | (go_simp; done) | fail) rfl row_header HA.out.blk (by first | rfl | (go_simp; done) | rfl) HA.out.len (fun K hK => ?_); go_simp; refine hK _ ?_; clear hK K) | (refine fl_loadb rfl (by decide) (by first | exact wanted_none rfl | (go_simp; done) | fail) rfl row_header HBH.out.blk (by first | rfl | (go_simp; done) | rfl) HBH.out.len (fun K hK => ?_); go_simp; refine hK _ ?_; clear hK K) | (refine fl_load rfl (by decide) (by first | exact wanted_none rfl | (go_simp; done) | fail) rfl (by first | rfl | (go_simp; rfl)) (by kernel_rfl) (by first | exact CA0.out | exact CA1.out | exact CA2.out | exact CB0.out | exact CB1.out | exact CB2.out) (fun K hK => ?_); go_simp; refine hK _ ?_; clear hK K) | (refine fl_skip rfl (by first | (go_simp; done) | fail) (fun K hK => ?_); go_simp; refine hK _ ?_; clear hK K) | (refine fl_calm rfl (by decide) (by first | exact wanted_none rfl | (go_simp; done) | fail) (fun w_ _ _ => by first | (go_simp; rfl) | (go_simp; done) | rfl) (fun K hK => ?_); go_simp; refine hK _ ?_; clear hK K))
    refine fl_done ?_
    intro w2_ hg_ hL_
    replace HB := Lib.hid (HB.out.grow' hg_)
    replace HA := Lib.hid (HA.out.grow hg_)
    replace HBH := Lib.hid (HBH.out.grow hg_)
    replace HT := Lib.hid (HT.out.grow hg_)
    clear hg_ hL_
    try clear w_
    rename World => w_
    clear CA0 CA1 CA2 CB0 CB1 CB2
    go_wp2_with fail
    go_ret
    exact ⟨ret_bool (by rw [HRES.out]; simp), HB.out⟩
  | true =>
    have v1 : IntKind.i64.wrap (i1 + 1) = i1 + 1 := IntWalk.i64_in _ (by have := HIB.out rfl; omega)
    have v2 : RowKit.wrap64 (i1 + 1) = i1 + 1 := wrap64_in _ (by have := HIB.out rfl; omega)
    cases rb with
    | false =>
      try go_wp2_with fail
      repeat' (first | (with_reducible refine wp_flow (id := 1) [0,1,3,7,15,31,63,127,255,127,639,2047,4095,8191,16383,32767,16383,81919,212991,524287,1048575,2097151,4194303,8388607,4194303,20971519,67108863,134217727,268435455,536870911,1073741823,536870911,2684354559,8589934591,17179869183,34359738367] [0,3,0,0,3,0,0,0,0,0,0,0,0,0,0,0,0,0,0,0,0,0,0,0,0,0,0,0,0,0,0,0,3,3,0,0] (fun i => match i with | 1 => spV (.bool true) | 4 => spV (.bool false) | 32 => spV (.agg zs.toArray) | 33 => spV (.bool sm) | _ => spV undef) (by kernel_rfl) (by kernel_rfl) ?_) | go_values | go_skip | go_guarded | go_step | go_upon | go_back)
      intro w_ hd_
      have hb_ := hd_.grow
      have HB_ := Lib.hid (HB.out.grow' hb_)
      clear HB
      have HB := HB_
      clear HB_
      have HA_ := Lib.hid (HA.out.grow hb_)
      clear HA
      have HA := HA_
      clear HA_
      have HBH_ := Lib.hid (HBH.out.grow hb_)
      clear HBH
      have HBH := HBH_
      clear HBH_
      have HT_ := Lib.hid (HT.out.grow hb_)
      clear HT
      have HT := HT_
      clear HT_
      clear hb_ hd_
      show wpL _ _ _ _ _ _ _ [0,1,2,3,4,5,6,7,8,9,10,11,12,13,14,15,16,17,18,19,20,21,22,23,24,25,26,27,28,29,30,31,32,33,34,35] _ _
      have CA0 := Lib.hid (HA.out.blk.at_ IA.out.1)
      have CA1 := Lib.hid (HA.out.blk.at_ IA.out.2.1)
      have CA2 := Lib.hid (HA.out.blk.at_ IA.out.2.2)
      have CB0 := Lib.hid (HBH.out.blk.at_ IB.out.1)
      have CB1 := Lib.hid (HBH.out.blk.at_ IB.out.2.1)
      have CB2 := Lib.hid (HBH.out.blk.at_ IB.out.2.2)
      repeat (first | (refine fl_loadb rfl (by decide) (by first | exact wanted_none rfl | (go_simp; done) | fail) rfl row_header HA.out.blk (by first | rfl | (go_simp; done) | rfl) HA.out.len (fun K hK => ?_); go_simp; refine hK _ ?_; clear hK K) | (refine fl_loadb rfl (by decide) (by first | exact wanted_none rfl | (go_simp; done) | fail) rfl row_header HBH.out.blk (by first | rfl | (go_simp; done) | rfl) HBH.out.len (fun K hK => ?_); go_simp; refine hK _ ?_; clear hK K) | (refine fl_load rfl (by decide) (by first | exact wanted_none rfl | (go_simp; done) | fail) rfl (by first | rfl | (go_simp; rfl)) (by kernel_rfl) (by first | exact CA0.out | exact CA1.out | exact CA2.out | exact CB0.out | exact CB1.out | exact CB2.out) (fun K hK => ?_); go_simp; refine hK _ ?_; clear hK K) | (refine fl_skip rfl (by first | (go_simp; done) | fail) (fun K hK => ?_); go_simp; refine hK _ ?_; clear hK K) | (refine fl_calm rfl (by decide) (by first | exact wanted_none rfl | (go_simp; done) | fail) (fun w_ _ _ => by first | (go_simp; rfl) | (go_simp; done) | rfl) (fun K hK => ?_); go_simp; refine hK _ ?_; clear hK K))
      refine fl_callv rfl (by kernel_rfl) rfl (by first | exact wanted_none rfl | (go_simp; done) | fail) (fun w_ => by first | (go_simp; exact ⟨rfl, rfl⟩) | (go_simp; rfl) | (go_simp; exact ⟨⟨rfl, rfl, rfl⟩, rfl⟩)) (fun w2_ hg_ hL_ => ?_) (fun K hK => ?_)
      · skip
        exact HRA.out _
      go_simp
      refine hK _ ?_
      clear hK K
      repeat (first | (refine fl_loadb rfl (by decide) (by first | exact wanted_none rfl | (go_simp; done) | fail) rfl row_header HA.out.blk (by first | rfl | (go_simp; done) | rfl) HA.out.len (fun K hK => ?_); go_simp; refine hK _ ?_; clear hK K) | (refine fl_loadb rfl (by decide) (by first | exact wanted_none rfl | (go_simp; done) | fail) rfl row_header HBH.out.blk (by first | rfl | (go_simp; done) | rfl) HBH.out.len (fun K hK => ?_); go_simp; refine hK _ ?_; clear hK K) | (refine fl_load rfl (by decide) (by first | exact wanted_none rfl | (go_simp; done) | fail) rfl (by first | rfl | (go_simp; rfl)) (by kernel_rfl) (by first | exact CA0.out | exact CA1.out | exact CA2.out | exact CB0.out | exact CB1.out | exact CB2.out) (fun K hK => ?_); go_simp; refine hK _ ?_; clear hK K) | (refine fl_skip rfl (by first | (go_simp; done) | fail) (fun K hK => ?_); go_simp; refine hK _ ?_; clear hK K) | (refine fl_calm rfl (by decide) (by first | exact wanted_none rfl | (go_simp; done) | fail) (fun w_ _ _ => by first | (go_simp; rfl) | (go_simp; done) | rfl) (fun K hK => ?_); go_simp; refine hK _ ?_; clear hK K))
      refine fl_callv rfl (by kernel_rfl) rfl (by first | exact wanted_none rfl | (go_simp; done) | fail) (fun w_ => by first | (go_simp; exact ⟨rfl, rfl⟩) | (go_simp; rfl) | (go_simp; exact ⟨⟨rfl, rfl, rfl⟩, rfl⟩)) (fun w2_ hg_ hL_ => ?_) (fun K hK => ?_)
      · skip
        exact HRB.out _
      go_simp
      refine hK _ ?_
      clear hK K
      repeat (first | (refine fl_loadb rfl (by decide) (by first | exact wanted_none rfl | (go_simp; done) | fail) rfl row_header HA.out.blk (by first | rfl | (go_simp; done) | rfl) HA.out.len (fun K hK => ?_); go_simp; refine hK _ ?_; clear hK K) | (refine fl_loadb rfl (by decide) (by first | exact wanted_none rfl | (go_simp; done) | fail) rfl row_header HBH.out.blk (by first | rfl | (go_simp; done) | rfl) HBH.out.len (fun K hK => ?_); go_simp; refine hK _ ?_; clear hK K) | (refine fl_load rfl (by decide) (by first | exact wanted_none rfl | (go_simp; done) | fail) rfl (by first | rfl | (go_simp; rfl)) (by kernel_rfl) (by first | exact CA0.out | exact CA1.out | exact CA2.out | exact CB0.out | exact CB1.out | exact CB2.out) (fun K hK => ?_); go_simp; refine hK _ ?_; clear hK K) | (refine fl_skip rfl (by first | (go_simp; done) | fail) (fun K hK => ?_); go_simp; refine hK _ ?_; clear hK K) | (refine fl_calm rfl (by decide) (by first | exact wanted_none rfl | (go_simp; done) | fail) (fun w_ _ _ => by first | (go_simp; rfl) | (go_simp; done) | rfl) (fun K hK => ?_); go_simp; refine hK _ ?_; clear hK K))
      refine fl_done ?_
      intro w2_ hg_ hL_
      replace HB := Lib.hid (HB.out.grow' hg_)
      replace HA := Lib.hid (HA.out.grow hg_)
      replace HBH := Lib.hid (HBH.out.grow hg_)
      replace HT := Lib.hid (HT.out.grow hg_)
      clear hg_ hL_
      try clear w_
      rename World => w_
      clear CA0 CA1 CA2 CB0 CB1 CB2
      go_wp2_with fail
      go_ret
      exact ⟨ret_bool (by rw [HRES.out]; simp), HB.out⟩
    | true =>
      cases s1 with
      | false =>
        skip
        try go_wp2_with fail
        repeat' (first | (with_reducible refine wp_flow (id := 1) [0,1,3,7,15,31,63,127,255,127,639,2047,4095,8191,16383,32767,16383,81919,212991,524287,1048575,2097151,4194303,8388607,4194303,20971519,67108863,134217727,268435455,536870911,1073741823,536870911,2684354559,8589934591,17179869183,34359738367] [0,3,0,0,3,0,0,0,0,0,0,0,0,0,0,0,0,0,0,0,0,0,0,0,0,0,0,0,0,0,0,0,3,3,0,0] (fun i => match i with | 1 => spV (.bool true) | 4 => spV (.bool true) | 32 => spV (.agg zs.toArray) | 33 => spV (.bool sm) | _ => spV undef) (by kernel_rfl) (by kernel_rfl) ?_) | go_values | go_skip | go_guarded | go_step | go_upon | go_back)
        intro w_ hd_
        have hb_ := hd_.grow
        have HB_ := Lib.hid (HB.out.grow' hb_)
        clear HB
        have HB := HB_
        clear HB_
        have HA_ := Lib.hid (HA.out.grow hb_)
        clear HA
        have HA := HA_
        clear HA_
        have HBH_ := Lib.hid (HBH.out.grow hb_)
        clear HBH
        have HBH := HBH_
        clear HBH_
        have HT_ := Lib.hid (HT.out.grow hb_)
        clear HT
        have HT := HT_
        clear HT_
        clear hb_ hd_
        show wpL _ _ _ _ _ _ _ [0,1,2,3,4,5,6,7,8,9,10,11,12,13,14,15,16,17,18,19,20,21,22,23,24,25,26,27,28,29,30,31,32,33,34,35] _ _
        have CA0 := Lib.hid (HA.out.blk.at_ IA.out.1)
        have CA1 := Lib.hid (HA.out.blk.at_ IA.out.2.1)
        have CA2 := Lib.hid (HA.out.blk.at_ IA.out.2.2)
        have CB0 := Lib.hid (HBH.out.blk.at_ IB.out.1)
        have CB1 := Lib.hid (HBH.out.blk.at_ IB.out.2.1)
        have CB2 := Lib.hid (HBH.out.blk.at_ IB.out.2.2)
        repeat (first | (refine fl_loadb rfl (by decide) (by first | exact wanted_none rfl | (go_simp; done) | fail) rfl row_header HA.out.blk (by first | rfl | (go_simp; done) | rfl) HA.out.len (fun K hK => ?_); go_simp; refine hK _ ?_; clear hK K) | (refine fl_loadb rfl (by decide) (by first | exact wanted_none rfl | (go_simp; done) | fail) rfl row_header HBH.out.blk (by first | rfl | (go_simp; done) | rfl) HBH.out.len (fun K hK => ?_); go_simp; refine hK _ ?_; clear hK K) | (refine fl_load rfl (by decide) (by first | exact wanted_none rfl | (go_simp; done) | fail) rfl (by first | rfl | (go_simp; rfl)) (by kernel_rfl) (by first | exact CA0.out | exact CA1.out | exact CA2.out | exact CB0.out | exact CB1.out | exact CB2.out) (fun K hK => ?_); go_simp; refine hK _ ?_; clear hK K) | (refine fl_skip rfl (by first | (go_simp; done) | fail) (fun K hK => ?_); go_simp; refine hK _ ?_; clear hK K) | (refine fl_calm rfl (by decide) (by first | exact wanted_none rfl | (go_simp; done) | fail) (fun w_ _ _ => by first | (go_simp; rfl) | (go_simp; done) | rfl) (fun K hK => ?_); go_simp; refine hK _ ?_; clear hK K))
        refine fl_callv rfl (by kernel_rfl) rfl (by first | exact wanted_none rfl | (go_simp; done) | fail) (fun w_ => by first | (go_simp; exact ⟨rfl, rfl⟩) | (go_simp; rfl) | (go_simp; exact ⟨⟨rfl, rfl, rfl⟩, rfl⟩)) (fun w2_ hg_ hL_ => ?_) (fun K hK => ?_)
        · skip
          exact HRA.out _
        go_simp
        refine hK _ ?_
        clear hK K
        repeat (first | (refine fl_loadb rfl (by decide) (by first | exact wanted_none rfl | (go_simp; done) | fail) rfl row_header HA.out.blk (by first | rfl | (go_simp; done) | rfl) HA.out.len (fun K hK => ?_); go_simp; refine hK _ ?_; clear hK K) | (refine fl_loadb rfl (by decide) (by first | exact wanted_none rfl | (go_simp; done) | fail) rfl row_header HBH.out.blk (by first | rfl | (go_simp; done) | rfl) HBH.out.len (fun K hK => ?_); go_simp; refine hK _ ?_; clear hK K) | (refine fl_load rfl (by decide) (by first | exact wanted_none rfl | (go_simp; done) | fail) rfl (by first | rfl | (go_simp; rfl)) (by kernel_rfl) (by first | exact CA0.out | exact CA1.out | exact CA2.out | exact CB0.out | exact CB1.out | exact CB2.out) (fun K hK => ?_); go_simp; refine hK _ ?_; clear hK K) | (refine fl_skip rfl (by first | (go_simp; done) | fail) (fun K hK => ?_); go_simp; refine hK _ ?_; clear hK K) | (refine fl_calm rfl (by decide) (by first | exact wanted_none rfl | (go_simp; done) | fail) (fun w_ _ _ => by first | (go_simp; rfl) | (go_simp; done) | rfl) (fun K hK => ?_); go_simp; refine hK _ ?_; clear hK K))
        refine fl_callv rfl (by kernel_rfl) rfl (by first | exact wanted_none rfl | (go_simp; done) | fail) (fun w_ => by first | (go_simp; exact ⟨rfl, rfl⟩) | (go_simp; rfl) | (go_simp; exact ⟨⟨rfl, rfl, rfl⟩, rfl⟩)) (fun w2_ hg_ hL_ => ?_) (fun K hK => ?_)
        · skip
          exact HRB.out _
        go_simp
        refine hK _ ?_
        clear hK K
        repeat (first | (refine fl_loadb rfl (by decide) (by first | exact wanted_none rfl | (go_simp; done) | fail) rfl row_header HA.out.blk (by first | rfl | (go_simp; done) | rfl) HA.out.len (fun K hK => ?_); go_simp; refine hK _ ?_; clear hK K) | (refine fl_loadb rfl (by decide) (by first | exact wanted_none rfl | (go_simp; done) | fail) rfl row_header HBH.out.blk (by first | rfl | (go_simp; done) | rfl) HBH.out.len (fun K hK => ?_); go_simp; refine hK _ ?_; clear hK K) | (refine fl_load rfl (by decide) (by first | exact wanted_none rfl | (go_simp; done) | fail) rfl (by first | rfl | (go_simp; rfl)) (by kernel_rfl) (by first | exact CA0.out | exact CA1.out | exact CA2.out | exact CB0.out | exact CB1.out | exact CB2.out) (fun K hK => ?_); go_simp; refine hK _ ?_; clear hK K) | (refine fl_skip rfl (by first | (go_simp; done) | fail) (fun K hK => ?_); go_simp; refine hK _ ?_; clear hK K) | (refine fl_calm rfl (by decide) (by first | exact wanted_none rfl | (go_simp; done) | fail) (fun w_ _ _ => by first | (go_simp; rfl) | (go_simp; done) | rfl) (fun K hK => ?_); go_simp; refine hK _ ?_; clear hK K))
        refine fl_done ?_
        intro w2_ hg_ hL_
        replace HB := Lib.hid (HB.out.grow' hg_)
        replace HA := Lib.hid (HA.out.grow hg_)
        replace HBH := Lib.hid (HBH.out.grow hg_)
        replace HT := Lib.hid (HT.out.grow hg_)
        clear hg_ hL_
        try clear w_
        rename World => w_
        clear CA0 CA1 CA2 CB0 CB1 CB2
        go_wp2_with fail
        go_ret
        exact ⟨ret_bool (by rw [HRES.out]; simp), HB.out⟩
      | true =>
        cases s2 with
        | false =>
          try go_wp2_with fail
          repeat' (first | (with_reducible refine wp_flow (id := 1) [0,1,3,7,15,31,63,127,255,127,639,2047,4095,8191,16383,32767,16383,81919,212991,524287,1048575,2097151,4194303,8388607,4194303,20971519,67108863,134217727,268435455,536870911,1073741823,536870911,2684354559,8589934591,17179869183,34359738367] [0,3,0,0,3,0,0,0,0,0,0,0,0,0,0,0,0,0,0,0,0,0,0,0,0,0,0,0,0,0,0,0,3,3,0,0] (fun i => match i with | 1 => spV (.bool true) | 4 => spV (.bool true) | 32 => spV (.agg zs.toArray) | 33 => spV (.bool sm) | _ => spV undef) (by kernel_rfl) (by kernel_rfl) ?_) | go_values | go_skip | go_guarded | go_step | go_upon | go_back)
          intro w_ hd_
          have hb_ := hd_.grow
          have HB_ := Lib.hid (HB.out.grow' hb_)
          clear HB
          have HB := HB_
          clear HB_
          have HA_ := Lib.hid (HA.out.grow hb_)
          clear HA
          have HA := HA_
          clear HA_
          have HBH_ := Lib.hid (HBH.out.grow hb_)
          clear HBH
          have HBH := HBH_
          clear HBH_
          have HT_ := Lib.hid (HT.out.grow hb_)
          clear HT
          have HT := HT_
          clear HT_
          clear hb_ hd_
          show wpL _ _ _ _ _ _ _ [0,1,2,3,4,5,6,7,8,9,10,11,12,13,14,15,16,17,18,19,20,21,22,23,24,25,26,27,28,29,30,31,32,33,34,35] _ _
          have CA0 := Lib.hid (HA.out.blk.at_ IA.out.1)
          have CA1 := Lib.hid (HA.out.blk.at_ IA.out.2.1)
          have CA2 := Lib.hid (HA.out.blk.at_ IA.out.2.2)
          have CB0 := Lib.hid (HBH.out.blk.at_ IB.out.1)
          have CB1 := Lib.hid (HBH.out.blk.at_ IB.out.2.1)
          have CB2 := Lib.hid (HBH.out.blk.at_ IB.out.2.2)
          repeat (first | (refine fl_loadb rfl (by decide) (by first | exact wanted_none rfl | (go_simp; done) | fail) rfl row_header HA.out.blk (by first | rfl | (go_simp; done) | rfl) HA.out.len (fun K hK => ?_); go_simp; refine hK _ ?_; clear hK K) | (refine fl_loadb rfl (by decide) (by first | exact wanted_none rfl | (go_simp; done) | fail) rfl row_header HBH.out.blk (by first | rfl | (go_simp; done) | rfl) HBH.out.len (fun K hK => ?_); go_simp; refine hK _ ?_; clear hK K) | (refine fl_load rfl (by decide) (by first | exact wanted_none rfl | (go_simp; done) | fail) rfl (by first | rfl | (go_simp; rfl)) (by kernel_rfl) (by first | exact CA0.out | exact CA1.out | exact CA2.out | exact CB0.out | exact CB1.out | exact CB2.out) (fun K hK => ?_); go_simp; refine hK _ ?_; clear hK K) | (refine fl_skip rfl (by first | (go_simp; done) | fail) (fun K hK => ?_); go_simp; refine hK _ ?_; clear hK K) | (refine fl_calm rfl (by decide) (by first | exact wanted_none rfl | (go_simp; done) | fail) (fun w_ _ _ => by first | (go_simp; rfl) | (go_simp; done) | rfl) (fun K hK => ?_); go_simp; refine hK _ ?_; clear hK K))
          refine fl_callv rfl (by kernel_rfl) rfl (by first | exact wanted_none rfl | (go_simp; done) | fail) (fun w_ => by first | (go_simp; exact ⟨rfl, rfl⟩) | (go_simp; rfl) | (go_simp; exact ⟨⟨rfl, rfl, rfl⟩, rfl⟩)) (fun w2_ hg_ hL_ => ?_) (fun K hK => ?_)
          · skip
            exact HRA.out _
          go_simp
          refine hK _ ?_
          clear hK K
          repeat (first | (refine fl_loadb rfl (by decide) (by first | exact wanted_none rfl | (go_simp; done) | fail) rfl row_header HA.out.blk (by first | rfl | (go_simp; done) | rfl) HA.out.len (fun K hK => ?_); go_simp; refine hK _ ?_; clear hK K) | (refine fl_loadb rfl (by decide) (by first | exact wanted_none rfl | (go_simp; done) | fail) rfl row_header HBH.out.blk (by first | rfl | (go_simp; done) | rfl) HBH.out.len (fun K hK => ?_); go_simp; refine hK _ ?_; clear hK K) | (refine fl_load rfl (by decide) (by first | exact wanted_none rfl | (go_simp; done) | fail) rfl (by first | rfl | (go_simp; rfl)) (by kernel_rfl) (by first | exact CA0.out | exact CA1.out | exact CA2.out | exact CB0.out | exact CB1.out | exact CB2.out) (fun K hK => ?_); go_simp; refine hK _ ?_; clear hK K) | (refine fl_skip rfl (by first | (go_simp; done) | fail) (fun K hK => ?_); go_simp; refine hK _ ?_; clear hK K) | (refine fl_calm rfl (by decide) (by first | exact wanted_none rfl | (go_simp; done) | fail) (fun w_ _ _ => by first | (go_simp; rfl) | (go_simp; done) | rfl) (fun K hK => ?_); go_simp; refine hK _ ?_; clear hK K))
          refine fl_callv rfl (by kernel_rfl) rfl (by first | exact wanted_none rfl | (go_simp; done) | fail) (fun w_ => by first | (go_simp; exact ⟨rfl, rfl⟩) | (go_simp; rfl) | (go_simp; exact ⟨⟨rfl, rfl, rfl⟩, rfl⟩)) (fun w2_ hg_ hL_ => ?_) (fun K hK => ?_)
          · skip
            exact HRB.out _
          go_simp
          refine hK _ ?_
          clear hK K
          repeat (first | (refine fl_loadb rfl (by decide) (by first | exact wanted_none rfl | (go_simp; done) | fail) rfl row_header HA.out.blk (by first | rfl | (go_simp; done) | rfl) HA.out.len (fun K hK => ?_); go_simp; refine hK _ ?_; clear hK K) | (refine fl_loadb rfl (by decide) (by first | exact wanted_none rfl | (go_simp; done) | fail) rfl row_header HBH.out.blk (by first | rfl | (go_simp; done) | rfl) HBH.out.len (fun K hK => ?_); go_simp; refine hK _ ?_; clear hK K) | (refine fl_load rfl (by decide) (by first | exact wanted_none rfl | (go_simp; done) | fail) rfl (by first | rfl | (go_simp; rfl)) (by kernel_rfl) (by first | exact CA0.out | exact CA1.out | exact CA2.out | exact CB0.out | exact CB1.out | exact CB2.out) (fun K hK => ?_); go_simp; refine hK _ ?_; clear hK K) | (refine fl_skip rfl (by first | (go_simp; done) | fail) (fun K hK => ?_); go_simp; refine hK _ ?_; clear hK K) | (refine fl_calm rfl (by decide) (by first | exact wanted_none rfl | (go_simp; done) | fail) (fun w_ _ _ => by first | (go_simp; rfl) | (go_simp; done) | rfl) (fun K hK => ?_); go_simp; refine hK _ ?_; clear hK K))
          refine fl_done ?_
          intro w2_ hg_ hL_
          replace HB := Lib.hid (HB.out.grow' hg_)
          replace HA := Lib.hid (HA.out.grow hg_)
          replace HBH := Lib.hid (HBH.out.grow hg_)
          replace HT := Lib.hid (HT.out.grow hg_)
          clear hg_ hL_
          try clear w_
          rename World => w_
          clear CA0 CA1 CA2 CB0 CB1 CB2
          go_wp2_with fail
          go_ret
          exact ⟨ret_bool (by rw [HRES.out]; simp), HB.out⟩
        | true =>
          cases s3 with
          | false =>
            try go_wp2_with fail
            repeat' (first | (with_reducible refine wp_flow (id := 1) [0,1,3,7,15,31,63,127,255,127,639,2047,4095,8191,16383,32767,16383,81919,212991,524287,1048575,2097151,4194303,8388607,4194303,20971519,67108863,134217727,268435455,536870911,1073741823,536870911,2684354559,8589934591,17179869183,34359738367] [0,3,0,0,3,0,0,0,0,0,0,0,0,0,0,0,0,0,0,0,0,0,0,0,0,0,0,0,0,0,0,0,3,3,0,0] (fun i => match i with | 1 => spV (.bool true) | 4 => spV (.bool true) | 32 => spV (.agg zs.toArray) | 33 => spV (.bool sm) | _ => spV undef) (by kernel_rfl) (by kernel_rfl) ?_) | go_values | go_skip | go_guarded | go_step | go_upon | go_back)
            intro w_ hd_
            have hb_ := hd_.grow
            have HB_ := Lib.hid (HB.out.grow' hb_)
            clear HB
            have HB := HB_
            clear HB_
            have HA_ := Lib.hid (HA.out.grow hb_)
            clear HA
            have HA := HA_
            clear HA_
            have HBH_ := Lib.hid (HBH.out.grow hb_)
            clear HBH
            have HBH := HBH_
            clear HBH_
            have HT_ := Lib.hid (HT.out.grow hb_)
            clear HT
            have HT := HT_
            clear HT_
            clear hb_ hd_
            show wpL _ _ _ _ _ _ _ [0,1,2,3,4,5,6,7,8,9,10,11,12,13,14,15,16,17,18,19,20,21,22,23,24,25,26,27,28,29,30,31,32,33,34,35] _ _
            have CA0 := Lib.hid (HA.out.blk.at_ IA.out.1)
            have CA1 := Lib.hid (HA.out.blk.at_ IA.out.2.1)
            have CA2 := Lib.hid (HA.out.blk.at_ IA.out.2.2)
            have CB0 := Lib.hid (HBH.out.blk.at_ IB.out.1)
            have CB1 := Lib.hid (HBH.out.blk.at_ IB.out.2.1)
            have CB2 := Lib.hid (HBH.out.blk.at_ IB.out.2.2)
            repeat (first | (refine fl_loadb rfl (by decide) (by first | exact wanted_none rfl | (go_simp; done) | fail) rfl row_header HA.out.blk (by first | rfl | (go_simp; done) | rfl) HA.out.len (fun K hK => ?_); go_simp; refine hK _ ?_; clear hK K) | (refine fl_loadb rfl (by decide) (by first | exact wanted_none rfl | (go_simp; done) | fail) rfl row_header HBH.out.blk (by first | rfl | (go_simp; done) | rfl) HBH.out.len (fun K hK => ?_); go_simp; refine hK _ ?_; clear hK K) | (refine fl_load rfl (by decide) (by first | exact wanted_none rfl | (go_simp; done) | fail) rfl (by first | rfl | (go_simp; rfl)) (by kernel_rfl) (by first | exact CA0.out | exact CA1.out | exact CA2.out | exact CB0.out | exact CB1.out | exact CB2.out) (fun K hK => ?_); go_simp; refine hK _ ?_; clear hK K) | (refine fl_skip rfl (by first | (go_simp; done) | fail) (fun K hK => ?_); go_simp; refine hK _ ?_; clear hK K) | (refine fl_calm rfl (by decide) (by first | exact wanted_none rfl | (go_simp; done) | fail) (fun w_ _ _ => by first | (go_simp; rfl) | (go_simp; done) | rfl) (fun K hK => ?_); go_simp; refine hK _ ?_; clear hK K))
            refine fl_callv rfl (by kernel_rfl) rfl (by first | exact wanted_none rfl | (go_simp; done) | fail) (fun w_ => by first | (go_simp; exact ⟨rfl, rfl⟩) | (go_simp; rfl) | (go_simp; exact ⟨⟨rfl, rfl, rfl⟩, rfl⟩)) (fun w2_ hg_ hL_ => ?_) (fun K hK => ?_)
            · skip
              exact HRA.out _
            go_simp
            refine hK _ ?_
            clear hK K
            repeat (first | (refine fl_loadb rfl (by decide) (by first | exact wanted_none rfl | (go_simp; done) | fail) rfl row_header HA.out.blk (by first | rfl | (go_simp; done) | rfl) HA.out.len (fun K hK => ?_); go_simp; refine hK _ ?_; clear hK K) | (refine fl_loadb rfl (by decide) (by first | exact wanted_none rfl | (go_simp; done) | fail) rfl row_header HBH.out.blk (by first | rfl | (go_simp; done) | rfl) HBH.out.len (fun K hK => ?_); go_simp; refine hK _ ?_; clear hK K) | (refine fl_load rfl (by decide) (by first | exact wanted_none rfl | (go_simp; done) | fail) rfl (by first | rfl | (go_simp; rfl)) (by kernel_rfl) (by first | exact CA0.out | exact CA1.out | exact CA2.out | exact CB0.out | exact CB1.out | exact CB2.out) (fun K hK => ?_); go_simp; refine hK _ ?_; clear hK K) | (refine fl_skip rfl (by first | (go_simp; done) | fail) (fun K hK => ?_); go_simp; refine hK _ ?_; clear hK K) | (refine fl_calm rfl (by decide) (by first | exact wanted_none rfl | (go_simp; done) | fail) (fun w_ _ _ => by first | (go_simp; rfl) | (go_simp; done) | rfl) (fun K hK => ?_); go_simp; refine hK _ ?_; clear hK K))
            refine fl_callv rfl (by kernel_rfl) rfl (by first | exact wanted_none rfl | (go_simp; done) | fail) (fun w_ => by first | (go_simp; exact ⟨rfl, rfl⟩) | (go_simp; rfl) | (go_simp; exact ⟨⟨rfl, rfl, rfl⟩, rfl⟩)) (fun w2_ hg_ hL_ => ?_) (fun K hK => ?_)
            · skip
              exact HRB.out _
            go_simp
            refine hK _ ?_
            clear hK K
            repeat (first | (refine fl_loadb rfl (by decide) (by first | exact wanted_none rfl | (go_simp; done) | fail) rfl row_header HA.out.blk (by first | rfl | (go_simp; done) | rfl) HA.out.len (fun K hK => ?_); go_simp; refine hK _ ?_; clear hK K) | (refine fl_loadb rfl (by decide) (by first | exact wanted_none rfl | (go_simp; done) | fail) rfl row_header HBH.out.blk (by first | rfl | (go_simp; done) | rfl) HBH.out.len (fun K hK => ?_); go_simp; refine hK _ ?_; clear hK K) | (refine fl_load rfl (by decide) (by first | exact wanted_none rfl | (go_simp; done) | fail) rfl (by first | rfl | (go_simp; rfl)) (by kernel_rfl) (by first | exact CA0.out | exact CA1.out | exact CA2.out | exact CB0.out | exact CB1.out | exact CB2.out) (fun K hK => ?_); go_simp; refine hK _ ?_; clear hK K) | (refine fl_skip rfl (by first | (go_simp; done) | fail) (fun K hK => ?_); go_simp; refine hK _ ?_; clear hK K) | (refine fl_calm rfl (by decide) (by first | exact wanted_none rfl | (go_simp; done) | fail) (fun w_ _ _ => by first | (go_simp; rfl) | (go_simp; done) | rfl) (fun K hK => ?_); go_simp; refine hK _ ?_; clear hK K))
            refine fl_done ?_
            intro w2_ hg_ hL_
            replace HB := Lib.hid (HB.out.grow' hg_)
            replace HA := Lib.hid (HA.out.grow hg_)
            replace HBH := Lib.hid (HBH.out.grow hg_)
            replace HT := Lib.hid (HT.out.grow hg_)
            clear hg_ hL_
            try clear w_
            rename World => w_
            clear CA0 CA1 CA2 CB0 CB1 CB2
            go_wp2_with fail
            go_ret
            exact ⟨ret_bool (by rw [HRES.out]; simp), HB.out⟩
          | true =>
            try go_wp2_with fail
            repeat' (first | (with_reducible refine wp_flow (id := 1) [0,1,3,7,15,31,63,127,255,127,639,2047,4095,8191,16383,32767,16383,81919,212991,524287,1048575,2097151,4194303,8388607,4194303,20971519,67108863,134217727,268435455,536870911,1073741823,536870911,2684354559,8589934591,17179869183,34359738367] [0,3,0,0,3,0,0,0,0,0,0,0,0,0,0,0,0,0,0,0,0,0,0,0,0,0,0,0,0,0,0,0,3,3,0,0] (fun i => match i with | 1 => spV (.bool true) | 4 => spV (.bool true) | 32 => spV (.agg zs.toArray) | 33 => spV (.bool sm) | _ => spV undef) (by kernel_rfl) (by kernel_rfl) ?_) | go_values | go_skip | go_guarded | go_step | go_upon | go_back)
            intro w_ hd_
            have hb_ := hd_.grow
            have HB_ := Lib.hid (HB.out.grow' hb_)
            clear HB
            have HB := HB_
            clear HB_
            have HA_ := Lib.hid (HA.out.grow hb_)
            clear HA
            have HA := HA_
            clear HA_
            have HBH_ := Lib.hid (HBH.out.grow hb_)
            clear HBH
            have HBH := HBH_
            clear HBH_
            have HT_ := Lib.hid (HT.out.grow hb_)
            clear HT
            have HT := HT_
            clear HT_
            clear hb_ hd_
            show wpL _ _ _ _ _ _ _ [0,1,2,3,4,5,6,7,8,9,10,11,12,13,14,15,16,17,18,19,20,21,22,23,24,25,26,27,28,29,30,31,32,33,34,35] _ _
            have CA0 := Lib.hid (HA.out.blk.at_ IA.out.1)
            have CA1 := Lib.hid (HA.out.blk.at_ IA.out.2.1)
            have CA2 := Lib.hid (HA.out.blk.at_ IA.out.2.2)
            have CB0 := Lib.hid (HBH.out.blk.at_ IB.out.1)
            have CB1 := Lib.hid (HBH.out.blk.at_ IB.out.2.1)
            have CB2 := Lib.hid (HBH.out.blk.at_ IB.out.2.2)
            repeat (first | (refine fl_loadb rfl (by decide) (by first | exact wanted_none rfl | (go_simp; done) | fail) rfl row_header HA.out.blk (by first | rfl | (go_simp; done) | rfl) HA.out.len (fun K hK => ?_); go_simp; refine hK _ ?_; clear hK K) | (refine fl_loadb rfl (by decide) (by first | exact wanted_none rfl | (go_simp; done) | fail) rfl row_header HBH.out.blk (by first | rfl | (go_simp; done) | rfl) HBH.out.len (fun K hK => ?_); go_simp; refine hK _ ?_; clear hK K) | (refine fl_load rfl (by decide) (by first | exact wanted_none rfl | (go_simp; done) | fail) rfl (by first | rfl | (go_simp; rfl)) (by kernel_rfl) (by first | exact CA0.out | exact CA1.out | exact CA2.out | exact CB0.out | exact CB1.out | exact CB2.out) (fun K hK => ?_); go_simp; refine hK _ ?_; clear hK K) | (refine fl_skip rfl (by first | (go_simp; done) | fail) (fun K hK => ?_); go_simp; refine hK _ ?_; clear hK K) | (refine fl_calm rfl (by decide) (by first | exact wanted_none rfl | (go_simp; done) | fail) (fun w_ _ _ => by first | (go_simp; rfl) | (go_simp; done) | rfl) (fun K hK => ?_); go_simp; refine hK _ ?_; clear hK K))
            refine fl_callv rfl (by kernel_rfl) rfl (by first | exact wanted_none rfl | (go_simp; done) | fail) (fun w_ => by first | (go_simp; exact ⟨rfl, rfl⟩) | (go_simp; rfl) | (go_simp; exact ⟨⟨rfl, rfl, rfl⟩, rfl⟩)) (fun w2_ hg_ hL_ => ?_) (fun K hK => ?_)
            · skip
              exact HRA.out _
            go_simp
            refine hK _ ?_
            clear hK K
            repeat (first | (refine fl_loadb rfl (by decide) (by first | exact wanted_none rfl | (go_simp; done) | fail) rfl row_header HA.out.blk (by first | rfl | (go_simp; done) | rfl) HA.out.len (fun K hK => ?_); go_simp; refine hK _ ?_; clear hK K) | (refine fl_loadb rfl (by decide) (by first | exact wanted_none rfl | (go_simp; done) | fail) rfl row_header HBH.out.blk (by first | rfl | (go_simp; done) | rfl) HBH.out.len (fun K hK => ?_); go_simp; refine hK _ ?_; clear hK K) | (refine fl_load rfl (by decide) (by first | exact wanted_none rfl | (go_simp; done) | fail) rfl (by first | rfl | (go_simp; rfl)) (by kernel_rfl) (by first | exact CA0.out | exact CA1.out | exact CA2.out | exact CB0.out | exact CB1.out | exact CB2.out) (fun K hK => ?_); go_simp; refine hK _ ?_; clear hK K) | (refine fl_skip rfl (by first | (go_simp; done) | fail) (fun K hK => ?_); go_simp; refine hK _ ?_; clear hK K) | (refine fl_calm rfl (by decide) (by first | exact wanted_none rfl | (go_simp; done) | fail) (fun w_ _ _ => by first | (go_simp; rfl) | (go_simp; done) | rfl) (fun K hK => ?_); go_simp; refine hK _ ?_; clear hK K))
            refine fl_callv rfl (by kernel_rfl) rfl (by first | exact wanted_none rfl | (go_simp; done) | fail) (fun w_ => by first | (go_simp; exact ⟨rfl, rfl⟩) | (go_simp; rfl) | (go_simp; exact ⟨⟨rfl, rfl, rfl⟩, rfl⟩)) (fun w2_ hg_ hL_ => ?_) (fun K hK => ?_)
            · skip
              exact HRB.out _
            go_simp
            refine hK _ ?_
            clear hK K
            repeat (first | (refine fl_loadb rfl (by decide) (by first | exact wanted_none rfl | (go_simp; done) | fail) rfl row_header HA.out.blk (by first | rfl | (go_simp; done) | rfl) HA.out.len (fun K hK => ?_); go_simp; refine hK _ ?_; clear hK K) | (refine fl_loadb rfl (by decide) (by first | exact wanted_none rfl | (go_simp; done) | fail) rfl row_header HBH.out.blk (by first | rfl | (go_simp; done) | rfl) HBH.out.len (fun K hK => ?_); go_simp; refine hK _ ?_; clear hK K) | (refine fl_load rfl (by decide) (by first | exact wanted_none rfl | (go_simp; done) | fail) rfl (by first | rfl | (go_simp; rfl)) (by kernel_rfl) (by first | exact CA0.out | exact CA1.out | exact CA2.out | exact CB0.out | exact CB1.out | exact CB2.out) (fun K hK => ?_); go_simp; refine hK _ ?_; clear hK K) | (refine fl_skip rfl (by first | (go_simp; done) | fail) (fun K hK => ?_); go_simp; refine hK _ ?_; clear hK K) | (refine fl_calm rfl (by decide) (by first | exact wanted_none rfl | (go_simp; done) | fail) (fun w_ _ _ => by first | (go_simp; rfl) | (go_simp; done) | rfl) (fun K hK => ?_); go_simp; refine hK _ ?_; clear hK K))
            have HM := Lib.hid (midP HOB.out (show Blk w_ gb _ (hdrV b) by have h := HBH.out.blk; rw [EB.out] at h; exact h))
            refine fl_loadm rfl (by decide) (by first | exact wanted_none rfl | (go_simp; done) | fail) rfl row_aid HM.out (by first | rfl | (go_simp; done) | rfl) (by rw [List.length_map]; exact HOB.out.2.2.2.1) (fun K hK => ?_)
            go_simp
            refine hK _ ?_
            clear hK K
            repeat (first | (refine fl_loadb rfl (by decide) (by first | exact wanted_none rfl | (go_simp; done) | fail) rfl row_header HA.out.blk (by first | rfl | (go_simp; done) | rfl) HA.out.len (fun K hK => ?_); go_simp; refine hK _ ?_; clear hK K) | (refine fl_loadb rfl (by decide) (by first | exact wanted_none rfl | (go_simp; done) | fail) rfl row_header HBH.out.blk (by first | rfl | (go_simp; done) | rfl) HBH.out.len (fun K hK => ?_); go_simp; refine hK _ ?_; clear hK K) | (refine fl_load rfl (by decide) (by first | exact wanted_none rfl | (go_simp; done) | fail) rfl (by first | rfl | (go_simp; rfl)) (by kernel_rfl) (by first | exact CA0.out | exact CA1.out | exact CA2.out | exact CB0.out | exact CB1.out | exact CB2.out) (fun K hK => ?_); go_simp; refine hK _ ?_; clear hK K) | (refine fl_skip rfl (by first | (go_simp; done) | fail) (fun K hK => ?_); go_simp; refine hK _ ?_; clear hK K) | (refine fl_calm rfl (by decide) (by first | exact wanted_none rfl | (go_simp; done) | fail) (fun w_ _ _ => by first | (go_simp; rfl) | (go_simp; done) | rfl) (fun K hK => ?_); go_simp; refine hK _ ?_; clear hK K))
            refine fl_callv rfl (by kernel_rfl) rfl (by first | exact wanted_none rfl | (go_simp; done) | fail) (fun w_ => by first | (go_simp; exact ⟨rfl, rfl⟩) | (go_simp; rfl) | (go_simp; exact ⟨⟨rfl, rfl, rfl⟩, rfl⟩)) (fun w2_ hg_ hL_ => ?_) (fun K hK => ?_)
            · skip
              replace HT := Lib.hid (HT.out.grow hg_)
              exact HIA.out _ HT.out
            go_simp
            refine hK _ ?_
            clear hK K
            repeat (first | (refine fl_loadb rfl (by decide) (by first | exact wanted_none rfl | (go_simp; done) | fail) rfl row_header HA.out.blk (by first | rfl | (go_simp; done) | rfl) HA.out.len (fun K hK => ?_); go_simp; refine hK _ ?_; clear hK K) | (refine fl_loadb rfl (by decide) (by first | exact wanted_none rfl | (go_simp; done) | fail) rfl row_header HBH.out.blk (by first | rfl | (go_simp; done) | rfl) HBH.out.len (fun K hK => ?_); go_simp; refine hK _ ?_; clear hK K) | (refine fl_load rfl (by decide) (by first | exact wanted_none rfl | (go_simp; done) | fail) rfl (by first | rfl | (go_simp; rfl)) (by kernel_rfl) (by first | exact CA0.out | exact CA1.out | exact CA2.out | exact CB0.out | exact CB1.out | exact CB2.out) (fun K hK => ?_); go_simp; refine hK _ ?_; clear hK K) | (refine fl_skip rfl (by first | (go_simp; done) | fail) (fun K hK => ?_); go_simp; refine hK _ ?_; clear hK K) | (refine fl_calm rfl (by decide) (by first | exact wanted_none rfl | (go_simp; done) | fail) (fun w_ _ _ => by first | (go_simp; rfl) | (go_simp; done) | rfl) (fun K hK => ?_); go_simp; refine hK _ ?_; clear hK K))
            refine fl_callv rfl (by kernel_rfl) rfl (by first | exact wanted_none rfl | (go_simp; done) | fail) (fun w_ => by first | (go_simp; exact ⟨rfl, rfl⟩) | (go_simp; rfl) | (go_simp; exact ⟨⟨rfl, rfl, rfl⟩, rfl⟩)) (fun w2_ hg_ hL_ => ?_) (fun K hK => ?_)
            · skip
              exact HSM.out _
            go_simp
            refine hK _ ?_
            clear hK K
            repeat (first | (refine fl_loadb rfl (by decide) (by first | exact wanted_none rfl | (go_simp; done) | fail) rfl row_header HA.out.blk (by first | rfl | (go_simp; done) | rfl) HA.out.len (fun K hK => ?_); go_simp; refine hK _ ?_; clear hK K) | (refine fl_loadb rfl (by decide) (by first | exact wanted_none rfl | (go_simp; done) | fail) rfl row_header HBH.out.blk (by first | rfl | (go_simp; done) | rfl) HBH.out.len (fun K hK => ?_); go_simp; refine hK _ ?_; clear hK K) | (refine fl_load rfl (by decide) (by first | exact wanted_none rfl | (go_simp; done) | fail) rfl (by first | rfl | (go_simp; rfl)) (by kernel_rfl) (by first | exact CA0.out | exact CA1.out | exact CA2.out | exact CB0.out | exact CB1.out | exact CB2.out) (fun K hK => ?_); go_simp; refine hK _ ?_; clear hK K) | (refine fl_skip rfl (by first | (go_simp; done) | fail) (fun K hK => ?_); go_simp; refine hK _ ?_; clear hK K) | (refine fl_calm rfl (by decide) (by first | exact wanted_none rfl | (go_simp; done) | fail) (fun w_ _ _ => by first | (go_simp; rfl) | (go_simp; done) | rfl) (fun K hK => ?_); go_simp; refine hK _ ?_; clear hK K))
            refine fl_done ?_
            intro w2_ hg_ hL_
            replace HB := Lib.hid (HB.out.grow' hg_)
            replace HA := Lib.hid (HA.out.grow hg_)
            replace HBH := Lib.hid (HBH.out.grow hg_)
            replace HT := Lib.hid (HT.out.grow hg_)
            clear hg_ hL_
            try clear w_
            rename World => w_
            clear CA0 CA1 CA2 CB0 CB1 CB2 HM
            go_wp2_with fail
            go_ret
            exact ⟨ret_bool (by rw [HRES.out]; simp), HB.out⟩
end Go.Proofs.YtphmefhnffoafaaDoor

/- A digest stored in the midst of a struct; headers built. Printed by mknext.py. -/
namespace Go.Proofs.YtphmefhnffoafaaDoor
open Go.RowKit Go.Shelf
set_option linter.unusedVariables false

theorem blk_setCells {g : Nat} {t : TypeId} : ∀ (vs : List Value) (o : Nat) (w : World) (cs : List Value), Blk w g t cs → o + vs.length ≤ cs.length → Blk (w.setCells g o vs) g t (splice cs o vs)
  | [], o, w, cs, h, _ => by simpa [splice, World.setCells] using h
  | v :: r, o, w, cs, h, hl => by
    simp only [List.length_cons] at hl
    have h1 := blk_setCells r (o + 1) _ _ (h.set_ o v) (by rw [List.length_set]; omega)
    have e : splice (cs.set o v) (o + 1) r = splice cs o (v :: r) := by
      apply List.ext_getElem?
      intro k
      rw [splice_get _ _ _ _ (by rw [List.length_set]; omega), splice_get _ _ _ _ (by simp only [List.length_cons]; omega)]
      simp only [List.length_cons]
      by_cases h1 : k = o
      · subst h1
        rw [if_neg (by omega), if_pos (by omega), List.getElem?_set, if_pos rfl, if_pos (by omega), Nat.sub_self]; rfl
      · by_cases h2 : o + 1 ≤ k ∧ k < o + 1 + r.length
        · rw [if_pos h2, if_pos (by omega), show k - o = (k - (o + 1)) + 1 by omega, List.getElem?_cons_succ]
        · rw [if_neg h2, if_neg (by omega), List.getElem?_set, if_neg (by omega)]
    rw [e] at h1
    exact h1
theorem grown_setCells (g : Nat) : ∀ (vs : List Value) (o : Nat) (w : World), w.grownBy (w.setCells g o vs) (some g) ∧ (w.setCells g o vs).heap.size = w.heap.size
  | [], o, w => ⟨⟨rfl, rfl, rfl, Nat.le_refl _, fun _ _ _ => rfl⟩, rfl⟩
  | v :: r, o, w => by
    obtain ⟨h1, h2⟩ := grown_setCells g r (o + 1) (w.setCell ⟨g, o, none⟩ v)
    exact ⟨grown_trans (grown_set w g o v) h1, h2.trans (by simp)⟩
section
variable {P : Program} {ops : Array Oper} {rest : List Oper} {o : Oper} {a : Act} {w : World} {Q : Exit → Act → World → Prop}
theorem wpl_storem (hgd : o.guard = none) {T : TypeId} {x y : Operand} (ho : o.op = .store T x y) {n : Nat} (hT : RowT P T n) {g off : Nat} {t : TypeId} {old cs : List Value} (hb : Blk w g t old) (hx : a.eval x = .pointer (some ⟨g, off, none⟩)) (hy : a.eval y = .agg cs.toArray)
    (hn : cs.length = n) (hle : off + n ≤ old.length) (h1 : ∀ u ∈ cs, u.oneCell' = true)
    (h : ∀ w', Blk w' g t (splice old off cs) → w.grownBy w' (some g) → w'.heap.size = w.heap.size → wpList P ops Q rest (a.put o.dst undef) w') : wpList P ops Q (o :: rest) a w := by
  obtain ⟨d, hu, hd, hi⟩ := hT
  refine wpList_store_mid hgd T x y ho g off cs.toArray hx hy (fun j hj => ?_) (by rw [hi]; simp [hn]) (all_oneCell_toArray h1) ?_
  · simp only [List.size_toArray] at hj
    exact ⟨by rw [hb.at_ (List.getElem?_eq_getElem (show off + j < old.length by omega))]; rfl, hb.frozen _⟩
  · obtain ⟨h2, h3⟩ := grown_setCells g cs off w
    exact h _ (blk_setCells cs off w old hb (by omega)) h2 h3
end
theorem built_hdr0 (parts : List (Nat × Value)) : Tryd.prog.built 25 parts = Instr.fill (fun i => (#[(0, 1), (1, 1), (2, 1), (3, 32), (35, 32)] : Array (Nat × Nat))[i]?) (hdrV noHdr).toArray parts := by kernel_rfl
theorem zero_hdr2 : (Tryd.prog.info? 25).map (·.zero) = some (some (.agg (hdrV noHdr).toArray)) := by rw [zeroHdr_eq]; exact zero_hdr
theorem built_hdrE : Tryd.prog.built 25 [] = some (hdrV noHdr).toArray := by rw [built_hdr0]; rfl
theorem built_hdr4 {s ep : Int} {root : List UInt8} (hr : root.length = 32) : Tryd.prog.built 25 [(0, .int .i64 s), (1, .int .i64 1), (2, .int .i64 ep), (4, .agg (root.map B).toArray)] = some (hdrV ⟨s, 1, ep, zeroD, root⟩).toArray := by
  have e0 : (root.map B).length = 32 := by rw [List.length_map, hr]
  have hz : zeroD.length = 32 := by simp [zeroD]
  rw [built_hdr0, fill_cons (off := 0) (s := 1) (cs := [.int .i64 s]) rfl rfl rfl (by simp [hdrV, noHdr]), fill_cons (off := 1) (s := 1) (cs := [.int .i64 1]) rfl rfl rfl (by simp [hdrV, noHdr, splice]),
    fill_cons (off := 2) (s := 1) (cs := [.int .i64 ep]) rfl rfl rfl (by simp [hdrV, noHdr, splice]), fill_cons (off := 35) (s := 32) (cs := root.map B) rfl rfl e0 (by simp [hdrV, noHdr, splice]), fill_nil]
  congr 2
  have h35 : (hdrV ⟨s, 1, ep, zeroD, root⟩) = ([.int .i64 s, .int .i64 1, .int .i64 ep] ++ zeroD.map B) ++ (root.map B ++ []) := by simp [hdrV]
  rw [h35]
  refine Eq.trans ?_ (splice_mid (off := 35) (old := (List.replicate 32 (0 : UInt8)).map B) (by simp [hz]) (by simp [hr]))
  rfl
theorem hdr_next {s h ep s2 h2 : Int} {prev prev2 root : List UInt8} (hp : prev.length = 32) (hq : prev2.length = 32) : splice (((hdrV ⟨s, h, ep, prev, root⟩).set 0 (.int .i64 s2)).set 1 (.int .i64 h2)) 3 (prev2.map B) = hdrV ⟨s2, h2, ep, prev2, root⟩ := by
  have e1 : ((hdrV ⟨s, h, ep, prev, root⟩).set 0 (.int .i64 s2)).set 1 (.int .i64 h2) = [.int .i64 s2, .int .i64 h2, .int .i64 ep] ++ (prev.map B ++ root.map B) := rfl
  rw [e1, splice_mid (off := 3) rfl (by simp [hp, hq])]; rfl
theorem ls_root_any {w : World} {A : Option Addr} {n c : Nat} {ls : List (List UInt8)} {rs : List Value} (h : LS w A n c ls) (hr : Dig rs (rootB ls)) (hn : n ≤ 1000000) (hl : ∀ l ∈ ls, l.length ≤ 1000000) (ht : Tabs w) : Calls Tryd.prog 66 #[.slice A n c] w fun e w' => e = .returned (.agg rs.toArray) ∧ Below w.heap.size w w' := by
  obtain ⟨ps, hps, hls, hnc⟩ := h
  exact root_any n n c _ ps rs _ (Nat.le_refl _) (by rw [hls]; exact hr) hps hnc (by omega) (fun p hp => hl _ (by rw [← hls]; exact List.mem_map_of_mem hp)) ht
theorem ls_rroot_any {w : World} {A : Option Addr} {n c : Nat} {ls : List (List UInt8)} {rs : List Value} (h : LS w A n c ls) (hr : Dig rs (rootB ls)) (hn : n ≤ 1000000) (hl : ∀ l ∈ ls, l.length ≤ 1000000) (ht : Tabs w) : Calls Tryd.prog 67 #[.slice A n c] w fun e w' => e = .returned (.agg rs.toArray) ∧ Below w.heap.size w w' := by
  obtain ⟨ps, hps, hls, hnc⟩ := h
  exact rroot_any n n c _ ps rs _ (Nat.le_refl _) (by rw [hls]; exact hr) hps hnc (by omega) (fun p hp => hl _ (by rw [← hls]; exact List.mem_map_of_mem hp)) ht
theorem nextB_no {p : Hdr} {first : Bool} {ls : List (List UInt8)} {s ep : Int} (h : nextOK p first ls s ep = false) : nextB p first ls s ep = noHdr := by unfold nextB; rw [if_neg (by simp [h])]
theorem nextB_yes {p : Hdr} {first : Bool} {ls : List (List UInt8)} {s ep : Int} (h : nextOK p first ls s ep = true) : nextB p first ls s ep = nextH p first ls s ep := by unfold nextB; rw [if_pos h]
theorem hdr_one (h : Hdr) : ∀ u ∈ hdrV h, u.oneCell' = true := by
  intro u hu
  unfold hdrV at hu
  simp only [List.mem_cons, List.mem_append, List.mem_map] at hu
  rcases hu with rfl | rfl | rfl | ⟨_, _, rfl⟩ | ⟨_, _, rfl⟩ <;> rfl
end Go.Proofs.YtphmefhnffoafaaDoor

/- The given statement CommandFormsSaid, out of the walk cmForms_walk: for every input the law returns true, and each argument reads as it did. No condition. -/
import Derived.Test.YtobmldegjajocaaCommandFormsT31
import Derived.Test.YtobmldegjajocaaCommandFormsT33
import Derived.Test.YtobmldegjajocaaCommandFormsT37
import Derived.Test.YtobmldegjajocaaRows
import Derived.ProofKit
import Derived.OpenShut
import Derived.ShutString
import Derived.ChangeOld
import Derived.Below
set_option linter.unusedSimpArgs false
/- The walk of CommandForms. -/
namespace Go.Proofs.Ytobmldegjajocaa
open Go.RowKit Go.Shelf
set_option linter.unusedVariables false
theorem great_smF {m : Cmd} (h : greatCm m = false) : SmallC m := by
  unfold greatCm at h
  simp only [Bool.or_eq_false_iff, decide_eq_false_iff_not, List.any_eq_false] at h
  obtain ⟨h1, h2, h3⟩ := h
  unfold greatT at h3
  simp only [Bool.or_eq_false_iff, decide_eq_false_iff_not, List.any_eq_false, decide_eq_true_eq] at h3
  refine ⟨by omega, by omega, fun i hi => ?_, by omega, fun x hx => ?_⟩
  · have := h3.2 i hi; omega
  · rw [List.take_of_length_le (by omega)] at h1
    have := h1 x hx
    unfold bigPath at this
    simp at this; omega
theorem formC_ok2 {m : Cmd} (hk : m.ok) (h : (formC m).2 = 0) : readCm (formC m).1 = .ok m := by
  unfold formC at h ⊢
  by_cases h1 : checkC m ≠ 0
  · rw [if_pos h1] at h; exact absurd h h1
  · rw [if_neg h1] at h ⊢
    by_cases h2 : 8192 < (putCm m).length
    · rw [if_pos h2] at h; exact absurd h (by decide)
    · rw [if_neg h2]; exact readCm_put hk (by simpa using h1) (by omega)
theorem formC_le2 (m : Cmd) : (formC m).1.length ≤ 8192 := by
  unfold formC
  by_cases h1 : checkC m ≠ 0
  · rw [if_pos h1]; simp
  · rw [if_neg h1]
    by_cases h2 : 8192 < (putCm m).length
    · rw [if_pos h2]; simp
    · rw [if_neg h2]; show (putCm m).length ≤ 8192; omega
set_option maxRecDepth 100000 in
set_option maxHeartbeats 8000000 in
theorem cmForms_walk (q1 : CW) (m1 : Cmd) (w : World) (h1 : CmdAt w q1 m1) (h1n : q1.n ≤ 9223372036854775807) (h1o : q1.n2 ≤ 9223372036854775807) (h1c : q1.n3 ≤ 9223372036854775807) :
    Calls Try.prog 3 #[.agg (q1.vs m1).toArray] w fun e w' => e = .returned (.bool true) ∧ Below w.heap.size w w' := by
  have HXC := Lib.hid (vs_cl (q := q1) h1.ok)
  have ZC := Lib.hid zero_cmd
  have HCZ := Lib.hid (vs_cl (q := noCW) noCmd_ok)
  obtain ⟨zc, hzc⟩ : ∃ z, z = noCW.vs noCmd := ⟨_, rfl⟩
  rw [← hzc] at ZC HCZ
  have G1 := Lib.hid (fun (w' : World) (hg : Grow w w') => great24_any w' (h1.grow hg) h1n h1o)
  have HP1 := Lib.hid (fun (hz : SmallC m1) (w' : World) (hg : Grow w w') => cmput_any w' (h1.grow hg) hz)
  have HP2 := Lib.hid (fun (hz : SmallC m1) (w' : World) (hg : Grow w w') => rcmput_any w' (h1.grow hg) hz)
  have HSU := Lib.hid (fun (hz : SmallC m1) (q : CW) (w' : World) (h : CmdAt w' q m1) (hg : Grow w w') => rcmsame_any (res := true) (by simp) w' h (h1.grow hg) hz)
  have HO1 := Lib.hid h1.ok
  have HLA := Lib.hid (formC_le2 m1)
  have HRD := Lib.hid (formC_ok2 h1.ok)
  have HSA := Lib.hid (fun h => great_smF (m := m1) h)
  obtain ⟨ga, hga⟩ : ∃ z, z = greatCm m1 := ⟨_, rfl⟩
  rw [← hga] at G1 HSA
  obtain ⟨ea, hea⟩ : ∃ z, z = (formC m1).2 := ⟨_, rfl⟩
  rw [← hea] at HP1 HP2 HRD
  obtain ⟨xa, hxa⟩ : ∃ z, z = (formC m1).1 := ⟨_, rfl⟩
  rw [← hxa] at HP1 HP2 HRD HLA
  have HBY := Lib.hid (fun (w : World) (A : Option Addr) (c : Nat) (A2 : Option Addr) (c2 : Nat) (k1 : Sl w w.heap.size 1 A xa.length (xa.map B)) (k2 : Sl w w.heap.size 1 A2 xa.length (xa.map B)) => bytesq_any (c := c) (c2 := c2) (res := true) (by simp) w k1 k2 (by have := HLA.out; omega))
  have HRR := Lib.hid (fun (e0 : ea = 0) (w : World) (A : Option Addr) (c : Nat) (k1 : Sl w w.heap.size 1 A xa.length (xa.map B)) => (cmread_any (c := c) w k1 (by have := HLA.out; omega)).mono fun e w' (h : CmRead w w' xa e) => show ∃ q : CW, e = .returned (.tuple #[.agg (q.vs m1).toArray, .int .i64 0]) ∧ CmdAt w' q m1 ∧ Grow w w' by
    unfold CmRead at h; rw [HRD.out e0] at h; exact h)
  obtain ⟨la, hla⟩ : ∃ z, z = xa.length := ⟨_, rfl⟩
  rw [← hla] at HP1 HP2 HBY HRR
  obtain ⟨xv, hxv⟩ : ∃ z, z = q1.vs m1 := ⟨_, rfl⟩
  rw [← hxv] at HXC G1 HP1 HP2 HSU ⊢
  have ze : (ea == ea) = true := by simp
  have zn : (ea != ea) = false := by simp
  clear h1 h1n h1o h1c hga hea hxa hla hxv hzc
  obtain ⟨w_, hw⟩ : ∃ x, x = w := ⟨_, rfl⟩
  have HB := Lib.hid (show Below w.heap.size w w_ by rw [hw]; exact Below.refl _ _)
  suffices H : Calls Try.prog 3 #[.agg xv.toArray] w_ fun e w' => e = .returned (.bool true) ∧ Below w.heap.size w w' by rw [hw] at H; exact H
  clear hw
  go_enter Try.func3, Try.ntmps3
  go_wp2_with (first | (with_reducible refine wpl_box (o := ⟨some 1, _, _, _, _, _⟩) rfl rfl rfl ?_))
  intro w2_ hb2_ hb_ hsz2_
  have HX_ := Lib.hid (at_mk hb2_ HXC.out.len)
  clear hb2_ hsz2_
  have HG_ := Lib.hid HB.out.size
  have HB_ := Lib.hid (HB.out.grow' hb_)
  clear HB
  have HB := HB_
  clear HB_
  generalize hg_ : w_.heap.size = g1 at HX_ HG_ ⊢
  clear hg_
  have HX_g := HG_
  clear HG_
  have HX := HX_
  clear hb_ HX_
  try clear w_
  rename World => w_
  go_wp2_with (first | (with_reducible refine wpl_loadb (o := ⟨_, .load _ _, _, _, _, _⟩) rfl rfl row_cmd HX.out.blk rfl HX.out.len ?_) | (with_reducible refine wpl_loadw (o := ⟨_, .load _ _, _, _, _, _⟩) (by first | rfl | (go_simp; done) | fail) rfl row_cmd HX.out.blk rfl HX.out.len ?_))
  refine (G1.out _ HB.out).mono ?_
  rintro e w_ ⟨rfl, hb_⟩
  have HB_ := Lib.hid (HB.out.grow' hb_)
  clear HB
  have HB := HB_
  clear HB_
  have HX_ := Lib.hid (HX.out.grow hb_)
  clear HX
  have HX := HX_
  clear HX_
  clear hb_
  cases ga with
  | true =>
    go_wp2_with fail
    refine (awake24_any _).mono ?_
    rintro e w_ ⟨rfl, hb_⟩
    have HB_ := Lib.hid (HB.out.grow' hb_)
    clear HB
    have HB := HB_
    clear HB_
    clear hb_
    go_wp2_with fail
    go_ret
    exact ⟨rfl, HB.out⟩
  | false =>
  have ZA := Lib.hid (HSA.out rfl)
  clear G1 HSA
  go_wp2_with (first | (with_reducible refine wpl_loadb (o := ⟨_, .load _ _, _, _, _, _⟩) rfl rfl row_cmd HX.out.blk rfl HX.out.len ?_) | (with_reducible refine wpl_loadw (o := ⟨_, .load _ _, _, _, _, _⟩) (by first | rfl | (go_simp; done) | fail) rfl row_cmd HX.out.blk rfl HX.out.len ?_))
  refine (HP1.out ZA.out _ HB.out).mono ?_
  rintro e w2_ ⟨A5, c5, rfl, ho, hc, hb_⟩
  have HS5 := Lib.hid (Sl.of_own ho)
  clear ho hc
  have hb_ := hb_
  clear hb_
  have HB_ := Lib.hid (HB.out.grow' hb_)
  clear HB
  have HB := HB_
  clear HB_
  have HX_ := Lib.hid (HX.out.grow hb_)
  clear HX
  have HX := HX_
  clear HX_
  clear hb_
  try clear w_
  rename World => w_
  go_wp2_with (first | (with_reducible refine wpl_loadb (o := ⟨_, .load _ _, _, _, _, _⟩) rfl rfl row_cmd HX.out.blk rfl HX.out.len ?_) | (with_reducible refine wpl_loadw (o := ⟨_, .load _ _, _, _, _, _⟩) (by first | rfl | (go_simp; done) | fail) rfl row_cmd HX.out.blk rfl HX.out.len ?_))
  refine (HP2.out ZA.out _ HB.out).mono ?_
  rintro e w2_ ⟨A6, c6, rfl, ho, hc, hb_⟩
  have HS6 := Lib.hid (Sl.of_own ho)
  clear ho hc
  have hb_ := hb_
  clear hb_
  have HB_ := Lib.hid (HB.out.grow' hb_)
  clear HB
  have HB := HB_
  clear HB_
  have HX_ := Lib.hid (HX.out.grow hb_)
  clear HX
  have HX := HX_
  clear HX_
  have HS5_ := Lib.hid (HS5.out.grow hb_)
  clear HS5
  have HS5 := HS5_
  clear HS5_
  clear hb_
  try clear w_
  rename World => w_
  go_wp2_with fail
  refine (HBY.out _ _ _ _ _ HS5.out HS6.out).mono ?_
  rintro e w_ ⟨rfl, hb_⟩
  have HB_ := Lib.hid (HB.out.grow' hb_)
  clear HB
  have HB := HB_
  clear HB_
  have HX_ := Lib.hid (HX.out.grow hb_)
  clear HX
  have HX := HX_
  clear HX_
  have HS5_ := Lib.hid (HS5.out.grow hb_)
  clear HS5
  have HS5 := HS5_
  clear HS5_
  clear hb_
  clear HS6 HP1 HP2 HBY
  by_cases e1 : ea = 0
  · have HR1 := Lib.hid (HRR.out e1)
    have z1 : (ea != 0) = false := by simp [e1]
    clear e1 HRR
    go_wp2_with fail
    refine (HR1.out _ _ _ HS5.out).mono ?_
    rintro e w2_ ⟨q, rfl, hq, hb_⟩
    have HQ := Lib.hid hq
    have HQC := Lib.hid (vs_cl (q := q) HO1.out)
    have HSQ := Lib.hid (HSU.out ZA.out q)
    clear hq HS5
    have hb_ := hb_
    clear hb_
    have HB_ := Lib.hid (HB.out.grow' hb_)
    clear HB
    have HB := HB_
    clear HB_
    have HX_ := Lib.hid (HX.out.grow hb_)
    clear HX
    have HX := HX_
    clear HX_
    clear hb_
    try clear w_
    rename World => w_
    obtain ⟨qv, hqv⟩ : ∃ z, z = q.vs m1 := ⟨_, rfl⟩
    rw [← hqv] at HQC HSQ ⊢
    clear hqv HSU
    go_wp2_with (first | (with_reducible refine wpl_alloc (o := ⟨some 7, _, _, _, _, _⟩) rfl rfl zero_cmd ?_))
    intro w1_ hb1_ hbw1_ hsz1_
    have HB1_ := Lib.hid (at_mk hb1_ len_cmd)
    have HBW1_ := Lib.hid hbw1_
    have HZ1_ := Lib.hid hsz1_
    clear hb1_ hbw1_ hsz1_
    go_wp2_with (first | (with_reducible refine wpl_storeb (o := ⟨none, .store _ _ _, _, _, _, _⟩) rfl rfl row_cmd HB1_.out.blk rfl rfl HB1_.out.len HQC.out.len HQC.out.one ?_))
    intro w2_ hb2_ hg2_ hsz2_
    have hb_ := var_grow HBW1_.out HZ1_.out hg2_
    have HX_ := Lib.hid (at_mk hb2_ HQC.out.len)
    clear hb2_ hg2_ hsz2_ HB1_ HBW1_ HZ1_
    have HB_ := Lib.hid (HB.out.grow' hb_)
    clear HB
    have HB := HB_
    clear HB_
    have HX_ := Lib.hid (HX.out.grow hb_)
    clear HX
    have HX := HX_
    clear HX_
    have HQ_ := Lib.hid (HQ.out.grow hb_)
    clear HQ
    have HQ := HQ_
    clear HQ_
    generalize hg_ : w_.heap.size = g7 at HX_ ⊢
    clear hg_
    have HU := HX_
    clear hb_ HX_
    clear w1_
    try clear w_
    rename World => w_
    go_wp2_with (first | (with_reducible refine wpl_loadb (o := ⟨_, .load _ _, _, _, _, _⟩) rfl rfl row_cmd HX.out.blk rfl HX.out.len ?_) | (with_reducible refine wpl_loadw (o := ⟨_, .load _ _, _, _, _, _⟩) (by first | rfl | (go_simp; done) | fail) rfl row_cmd HX.out.blk rfl HX.out.len ?_) | (with_reducible refine wpl_loadb (o := ⟨_, .load _ _, _, _, _, _⟩) rfl rfl row_cmd HU.out.blk rfl HU.out.len ?_) | (with_reducible refine wpl_loadw (o := ⟨_, .load _ _, _, _, _, _⟩) (by first | rfl | (go_simp; done) | fail) rfl row_cmd HU.out.blk rfl HU.out.len ?_))
    refine (HSQ.out _ HQ.out HB.out).mono ?_
    rintro e w_ ⟨rfl, hb_⟩
    have HB_ := Lib.hid (HB.out.grow' hb_)
    clear HB
    have HB := HB_
    clear HB_
    clear hb_
    go_wp2_with fail
    refine (awake24_any _).mono ?_
    rintro e w_ ⟨rfl, hb_⟩
    have HB_ := Lib.hid (HB.out.grow' hb_)
    clear HB
    have HB := HB_
    clear HB_
    clear hb_
    go_wp2_with fail
    go_ret
    exact ⟨rfl, HB.out⟩
  · have z1 : (ea != 0) = true := by simp [e1]
    clear e1
    go_wp2_with fail
    refine (awake24_any _).mono ?_
    rintro e w_ ⟨rfl, hb_⟩
    have HB_ := Lib.hid (HB.out.grow' hb_)
    clear HB
    have HB := HB_
    clear HB_
    clear hb_
    go_wp2_with fail
    go_ret
    exact ⟨rfl, HB.out⟩
end Go.Proofs.Ytobmldegjajocaa
/- The given statement CommandFormsSaid, out of the walk cmForms_walk: for every input the law returns true, and each argument reads as it did. No condition. -/
namespace Go.Proofs.Ytobmldegjajocaa.lawCommandForms
open Go.ChangeShapes Go.WideShapes Go.ChangeAt Go.RowKit
open Go.ChangeMaps (open_string shut_string)
set_option linter.unusedVariables false
theorem own : ownKnob Try.prog.godebug = none := by kernel_rfl
theorem laidOut : laidOutB Try.prog = true := by kernel_rfl
set_option maxRecDepth 100000 in
theorem lifted (os : Os) (started : os.Started) (H : Type) (enc : TypeId × Value → H) :
    ReturnsInHanded {} Try.checked os 3 .any (Rows.commandFormsSpec.pre6 enc Try.prog Try.f3 Rows.commandFormsRow.domain false) (Rows.commandFormsSpec.post enc Try.prog Try.f3 false true false false) := by
  refine returnsInHanded_of_change (C := Try.checked) own started (by kernel_rfl) Try.func3
    (ChangeSpec.witness6 (enc := enc) (C := Try.checked) false ⟨#[], #[.agg (noCW.vs noCmd).toArray], []⟩ 8 (by kernel_rfl) (by kernel_rfl) (by kernel_rfl) (by kernel_rfl)) ?_
  intro W base args ds gs before hval0 hW hcnd _
  have hval : ∀ (j : Nat) t v, Try.f3.params[j]? = some t → args[j]? = some v → Value.okWide Try.prog W .any base t v := hval0
  have hW' := hW
  obtain ⟨p, q, hA0, hV, rfl, hfz, hnd⟩ := hW
  have hA : DataW.TrodAll enc Try.prog W 0 (fun _ => true) true Try.f3.params.toList args.toList ds p := hA0
  rw [Try.params3] at hA hval
  obtain ⟨v0, vs0, d0, ds0, p0, q0, hargs, rfl, rfl, h0, r0⟩ := trodAll_cons hA
  obtain ⟨rfl, rfl, rfl⟩ := trodAll_nil r0
  obtain rfl : args = #[v0] := by cases args; simp_all
  obtain ⟨rfl, rfl⟩ := trodVars_none hV
  have k0 := h0
  have lt0 : ∀ x ∈ p0, x.block < W.heap.size := by obtain ⟨m, hm⟩ := k0; exact DataW.trod_lt m _ _ _ hm
  obtain ⟨x0_0, x0_1, rfl, f0_0, f0_1, f0_2, f0_3⟩ := open_cmdM (hval 0 33 v0 rfl rfl) h0
  clear hA0 hval0
  refine (cmForms_walk x0_0 x0_1 W f0_0 f0_1 f0_2 f0_3).mono fun e W' ⟨he, bel⟩ => ?_
  subst he
  exact ⟨_, rfl, _, _, _, [], _, [], hW', trodAll_mk1 (shut_bool Try.underlying4 _), (trodAll_cons_mk (Below.trod laidOut (by kernel_rfl) (of_decide_eq_true (by kernel_rfl)) k0 bel lt0) trodAll_mk0), rfl, bel.frame _, fun h => by cases h⟩
theorem proved : Rows.CommandFormsSaid :=
  OpenClaim.holds_of_wide 3 Try.f3 rfl rfl rfl rfl rfl rfl rfl ⟨rfl, rfl, rfl, rfl, rfl⟩ rfl rfl rfl rfl rfl (by kernel_rfl) Try.func3 (by kernel_rfl)
    (of_decide_eq_true (by kernel_rfl)) (by unfold Func.isWrapper; first | (rw [if_pos (by decide +kernel)]; kernel_rfl) | (rw [if_neg (by decide +kernel)]; exact ⟨rfl, rfl⟩))
    (fun os started H enc _ => lifted os started H enc)
#print axioms proved
end Go.Proofs.Ytobmldegjajocaa.lawCommandForms

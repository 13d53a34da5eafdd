/- The given statement TxReadsSaid, out of the walk txReads_walk: for every input the law returns true, and each argument reads as it did. No condition. -/
import Derived.Test.YtphmefhnffoafaaTxReadsB17
import Derived.Test.YtphmefhnffoafaaTxReadsB18
import Derived.Test.YtphmefhnffoafaaTxReadsB5
import Derived.Test.YtphmefhnffoafaaRows
import Derived.ProofKit
import Derived.OpenShut
import Derived.ShutString
import Derived.ChangeOld
import Derived.Below
set_option linter.unusedSimpArgs false
/- The walk of TxReads. -/
namespace Go.Proofs.Ytphmefhnffoafaa
open Go.RowKit Go.Shelf
set_option linter.unusedVariables false
theorem txnOf_le (l : List UInt8) : (txnOf (readT l)).ins.length ≤ 16 ∧ (txnOf (readT l)).outs.length ≤ 16 ∧ ∀ i ∈ (txnOf (readT l)).ins, i.secret.length ≤ 64 := by
  rcases readT_cases l with ⟨x, _, _, h⟩ | ⟨t, _, h1, h2⟩
  · rw [h]; exact ⟨by simp [txnOf, noTxn], by simp [txnOf, noTxn], fun i hi => by simp [txnOf, noTxn] at hi⟩
  · rw [h2]
    obtain ⟨_, k1, k2, k3, _⟩ := lookT_ok h1
    split
    · exact ⟨by simp [txnOf, noTxn], by simp [txnOf, noTxn], fun i hi => by simp [txnOf, noTxn] at hi⟩
    · exact ⟨k1, k2, k3⟩
set_option maxRecDepth 100000 in
set_option maxHeartbeats 4000000 in
theorem txReads_walk (A : Option Addr) (n c : Nat) (bs : List UInt8) (w : World) (hs : Sl w w.heap.size 1 A n (bs.map B)) (hc : n ≤ c) (hm : c ≤ maxLen) :
    Calls Try.prog 3 #[.slice A n c] w fun e w' => e = .returned (.bool true) ∧ Below w.heap.size w w' := by
  have HS := Lib.hid hs
  have HC := Lib.hid hc
  obtain ⟨w_, hw⟩ : ∃ x, x = w := ⟨_, rfl⟩
  have HB := Lib.hid (show Below w.heap.size w w_ by rw [hw]; exact Below.refl _ _)
  suffices H : Calls Try.prog 3 #[.slice A n c] w_ fun e w' => e = .returned (.bool true) ∧ Below w.heap.size w w' by rw [hw] at H; exact H
  clear hw hs hm
  by_cases h700 : n ≤ 700
  · have g1 : decide (700 < (n : Int)) = false := by simp; omega
    have HN := Lib.hid (show n ≤ 1000000 by omega)
    have HLE := Lib.hid (txnOf_le bs)
    have HTC := Lib.hid (fun A n c A2 n2 c2 fee ex => txV_cl (A := A) (n := n) (c := c) (A2 := A2) (n2 := n2) (c2 := c2) (fee := fee) (ex := ex))
    clear hc
    go_enter Try.func3, Try.ntmps3
    go_wp2_with fail
    refine (tread_any _ (HS.out.grow HB.out) HN.out).mono ?_
    rintro e w2_ ⟨A1, n1, c1, B1, m1, d1, l1, rfl, hi1, hl1, ho1, hb_⟩
    have HI1 := Lib.hid hi1; have HO1 := Lib.hid ho1; have HL1 := Lib.hid hl1
    clear hi1 ho1 hl1
    have hb_ := hb_
    clear hb_
    have HB_ := Lib.hid (HB.out.grow' hb_)
    clear HB
    have HB := HB_
    clear HB_
    clear hb_
    try clear w_
    rename World => w_
    have HV1 := Lib.hid (HTC.out A1 n1 c1 B1 m1 d1 (txnOf (readT bs)).fee (txnOf (readT bs)).expiry)
    obtain ⟨er, her⟩ : ∃ v, v = errOf (readT bs) := ⟨_, rfl⟩
    have HER := Lib.hid her
    rw [← her]
    clear her
    obtain ⟨v1, hv1⟩ : ∃ v, v = txV A1 n1 c1 B1 m1 d1 (txnOf (readT bs)).fee (txnOf (readT bs)).expiry := ⟨_, rfl⟩
    have HE1 := Lib.hid hv1
    rw [← hv1] at HV1 ⊢
    clear hv1
    go_wp2_with (first | (with_reducible refine wpl_alloc (o := ⟨some 3, _, _, _, _, _⟩) rfl rfl zero_tx ?_))
    intro w1_ hb1_ hbw1_ hsz1_
    have HB1_ := Lib.hid (at_mk hb1_ len_tx)
    have HBW1_ := Lib.hid hbw1_
    have HZ1_ := Lib.hid hsz1_
    clear hb1_ hbw1_ hsz1_
    go_wp2_with (first | (with_reducible refine wpl_storeb (o := ⟨none, .store _ _ _, _, _, _, _⟩) rfl rfl row_tx HB1_.out.blk rfl rfl HB1_.out.len HV1.out.len HV1.out.one ?_))
    intro w2_ hb2_ hg2_ hsz2_
    have hb_ := var_grow HBW1_.out HZ1_.out hg2_
    have HX_ := Lib.hid (at_mk hb2_ HV1.out.len)
    clear hb2_ hg2_ hsz2_ HB1_ HBW1_ HZ1_
    have HB_ := Lib.hid (HB.out.grow' hb_)
    clear HB
    have HB := HB_
    clear HB_
    have HI1_ := Lib.hid (HI1.out.grow hb_)
    clear HI1
    have HI1 := HI1_
    clear HI1_
    have HO1_ := Lib.hid (HO1.out.grow hb_)
    clear HO1
    have HO1 := HO1_
    clear HO1_
    generalize hg_ : w_.heap.size = g3 at HX_ ⊢
    clear hg_
    have HX := HX_
    clear hb_ HX_
    clear w1_
    try clear w_
    rename World => w_
    go_wp2_with fail
    refine (rtread_any _ (HS.out.grow HB.out) HC.out HN.out).mono ?_
    rintro e w2_ ⟨A2, n2, c2, B2, m2, d2, l2, rfl, hi2, hl2, ho2, hb_⟩
    have HI2 := Lib.hid hi2; have HO2 := Lib.hid ho2; have HL2 := Lib.hid hl2
    clear hi2 ho2 hl2
    have hb_ := hb_
    clear hb_
    have HB_ := Lib.hid (HB.out.grow' hb_)
    clear HB
    have HB := HB_
    clear HB_
    have HX_ := Lib.hid (HX.out.grow hb_)
    clear HX
    have HX := HX_
    clear HX_
    have HI1_ := Lib.hid (HI1.out.grow hb_)
    clear HI1
    have HI1 := HI1_
    clear HI1_
    have HO1_ := Lib.hid (HO1.out.grow hb_)
    clear HO1
    have HO1 := HO1_
    clear HO1_
    clear hb_
    try clear w_
    rename World => w_
    have HV2 := Lib.hid (HTC.out A2 n2 c2 B2 m2 d2 (txnOf (readT bs)).fee (txnOf (readT bs)).expiry)
    rw [← HER.out]
    obtain ⟨v2, hv2⟩ : ∃ v, v = txV A2 n2 c2 B2 m2 d2 (txnOf (readT bs)).fee (txnOf (readT bs)).expiry := ⟨_, rfl⟩
    have HE2 := Lib.hid hv2
    rw [← hv2] at HV2 ⊢
    clear hv2
    go_wp2_with (first | (with_reducible refine wpl_alloc (o := ⟨some 5, _, _, _, _, _⟩) rfl rfl zero_tx ?_))
    intro w1_ hb1_ hbw1_ hsz1_
    have HB1_ := Lib.hid (at_mk hb1_ len_tx)
    have HBW1_ := Lib.hid hbw1_
    have HZ1_ := Lib.hid hsz1_
    clear hb1_ hbw1_ hsz1_
    go_wp2_with (first | (with_reducible refine wpl_storeb (o := ⟨none, .store _ _ _, _, _, _, _⟩) rfl rfl row_tx HB1_.out.blk rfl rfl HB1_.out.len HV2.out.len HV2.out.one ?_))
    intro w2_ hb2_ hg2_ hsz2_
    have hb_ := var_grow HBW1_.out HZ1_.out hg2_
    have HX_ := Lib.hid (at_mk hb2_ HV2.out.len)
    clear hb2_ hg2_ hsz2_ HB1_ HBW1_ HZ1_
    have HB_ := Lib.hid (HB.out.grow' hb_)
    clear HB
    have HB := HB_
    clear HB_
    have HX_ := Lib.hid (HX.out.grow hb_)
    clear HX
    have HX := HX_
    clear HX_
    have HI1_ := Lib.hid (HI1.out.grow hb_)
    clear HI1
    have HI1 := HI1_
    clear HI1_
    have HO1_ := Lib.hid (HO1.out.grow hb_)
    clear HO1
    have HO1 := HO1_
    clear HO1_
    have HI2_ := Lib.hid (HI2.out.grow hb_)
    clear HI2
    have HI2 := HI2_
    clear HI2_
    have HO2_ := Lib.hid (HO2.out.grow hb_)
    clear HO2
    have HO2 := HO2_
    clear HO2_
    generalize hg_ : w_.heap.size = g5 at HX_ ⊢
    clear hg_
    have HY := HX_
    clear hb_ HX_
    clear w1_
    try clear w_
    rename World => w_
    have e1 : ((er : Int) == (er : Int)) = true := by simp
    go_wp2_with (first | (with_reducible refine wpl_loadb (o := ⟨_, .load _ _, _, _, _, _⟩) rfl rfl row_tx HX.out.blk rfl HX.out.len ?_) | (with_reducible refine wpl_loadw (o := ⟨_, .load _ _, _, _, _, _⟩) (by first | rfl | (go_simp; done) | fail) rfl row_tx HX.out.blk rfl HX.out.len ?_) | (with_reducible refine wpl_loadb (o := ⟨_, .load _ _, _, _, _, _⟩) rfl rfl row_tx HY.out.blk rfl HY.out.len ?_) | (with_reducible refine wpl_loadw (o := ⟨_, .load _ _, _, _, _, _⟩) (by first | rfl | (go_simp; done) | fail) rfl row_tx HY.out.blk rfl HY.out.len ?_))
    have HSS := Lib.hid (rtsame_any (res := true) (fee := (txnOf (readT bs)).fee) (ex := (txnOf (readT bs)).expiry) (fee2 := (txnOf (readT bs)).fee) (ex2 := (txnOf (readT bs)).expiry) (l := l1) (l2 := l2) (os := (txnOf (readT bs)).outs) (os2 := (txnOf (readT bs)).outs) (by rw [HL1.out, HL2.out]; simp) w_
      (by have e := HI1.out.2.2.1; have e2 := congrArg List.length HL1.out; rw [List.length_map] at e2; have := HLE.out.1; omega) (by have e := HO1.out.2.2.1; have := HLE.out.2.1; omega)
      (fun p hp => by have := HLE.out.2.2 p.2 (by rw [← HL1.out]; exact List.mem_map_of_mem hp); omega) HI1.out HI2.out HO1.out HO2.out)
    rw [← HE1.out, ← HE2.out] at HSS
    refine HSS.out.mono ?_
    rintro e w_ ⟨rfl, hb_⟩
    have HB_ := Lib.hid (HB.out.grow' hb_)
    clear HB
    have HB := HB_
    clear HB_
    clear hb_
    go_wp2_with fail
    refine (awake7_any _).mono ?_
    rintro e w_ ⟨rfl, hb_⟩
    have HB_ := Lib.hid (HB.out.grow' hb_)
    clear HB
    have HB := HB_
    clear HB_
    clear hb_
    go_wp2_with fail
    go_ret
    exact ⟨rfl, HB.out⟩
  · have g1 : decide (700 < (n : Int)) = true := by simp; omega
    clear h700 hc
    go_enter Try.func3, Try.ntmps3
    go_wp2_with fail
    refine (awake7_any _).mono ?_
    rintro e w_ ⟨rfl, hb_⟩
    have HB_ := Lib.hid (HB.out.grow' hb_)
    clear HB
    have HB := HB_
    clear HB_
    clear hb_
    go_wp2_with fail
    go_ret
    exact ⟨rfl, HB.out⟩
end Go.Proofs.Ytphmefhnffoafaa

/- The given statement TxReadsSaid, out of the walk txReads_walk: for every input the law returns true, and each argument reads as it did. No condition. -/
namespace Go.Proofs.Ytphmefhnffoafaa.lawTxReads
open Go.ChangeShapes Go.WideShapes Go.ChangeAt Go.RowKit
open Go.ChangeMaps (open_string shut_string)
set_option linter.unusedVariables false

theorem own : ownKnob Try.prog.godebug = none := by kernel_rfl
theorem laidOut : laidOutB Try.prog = true := by kernel_rfl

set_option maxRecDepth 100000 in
theorem lifted (os : Os) (started : os.Started) (H : Type) (enc : TypeId × Value → H) :
    ReturnsInHanded {} Try.checked os 3 .any (Rows.txReadsSpec.pre6 enc Try.prog Try.f3 Rows.txReadsRow.domain false) (Rows.txReadsSpec.post enc Try.prog Try.f3 false true false false) := by
  refine returnsInHanded_of_change (C := Try.checked) own started (by kernel_rfl) Try.func3
    (ChangeSpec.witness6 (enc := enc) (C := Try.checked) false ⟨#[], #[.slice none 0 0], []⟩ 8 (by kernel_rfl) (by kernel_rfl) (by kernel_rfl) (by kernel_rfl)) ?_
  intro W base args ds gs before hval0 hW hcnd _
  have hval : ∀ (j : Nat) t v, Try.f3.params[j]? = some t → args[j]? = some v → Value.okWide Try.prog W .any base t v := hval0
  have hW' := hW
  obtain ⟨p, q, hA0, hV, rfl, hfz, hnd⟩ := hW
  have hA : DataW.TrodAll enc Try.prog W 0 (fun _ => true) true Try.f3.params.toList args.toList ds p := hA0
  rw [Try.params3] at hA hval
  obtain ⟨v0, vs0, d0, ds0, p0, q0, hargs, rfl, rfl, h0, r0⟩ := trodAll_cons hA
  obtain ⟨rfl, rfl, rfl⟩ := trodAll_nil r0
  obtain rfl : args = #[v0] := by cases args; simp_all
  obtain ⟨rfl, rfl⟩ := trodVars_none hV
  have k0 := h0
  have lt0 : ∀ x ∈ p0, x.block < W.heap.size := by obtain ⟨m, hm⟩ := k0; exact DataW.trod_lt m _ _ _ hm
  obtain ⟨x0_0, x0_1, x0_2, x0_3, rfl, f0_0, f0_1, f0_2⟩ := open_b (hval 0 22 v0 rfl rfl) h0
  clear hA0 hval0
  refine (txReads_walk x0_0 x0_1 x0_2 x0_3 W f0_0 f0_1 f0_2).mono fun e W' ⟨he, bel⟩ => ?_
  subst he
  exact ⟨_, rfl, _, _, _, [], _, [], hW', trodAll_mk1 (shut_bool Try.underlying4 _), (trodAll_cons_mk (Below.trod laidOut (by kernel_rfl) (of_decide_eq_true (by kernel_rfl)) k0 bel lt0) trodAll_mk0), rfl, bel.frame _, fun h => by cases h⟩

theorem proved : Rows.TxReadsSaid :=
  OpenClaim.holds_of_wide 3 Try.f3 rfl rfl rfl rfl rfl rfl rfl ⟨rfl, rfl, rfl, rfl, rfl⟩ rfl rfl rfl rfl rfl (by kernel_rfl) Try.func3 (by kernel_rfl)
    (of_decide_eq_true (by kernel_rfl)) (by unfold Func.isWrapper; first | (rw [if_pos (by decide +kernel)]; kernel_rfl) | (rw [if_neg (by decide +kernel)]; exact ⟨rfl, rfl⟩))
    (fun os started H enc _ => lifted os started H enc)
#print axioms proved
end Go.Proofs.Ytphmefhnffoafaa.lawTxReads

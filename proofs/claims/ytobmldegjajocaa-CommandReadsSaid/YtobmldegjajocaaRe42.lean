/- The given statement CommandReadsSaid, out of the walk cmReads_walk: for every input the law returns true, and each argument reads as it did. No condition. -/
import Derived.Test.YtobmldegjajocaaRe31
import Derived.Test.YtobmldegjajocaaRe41
import Derived.ProofKit
import Derived.ShutString
import Derived.ChangeOld
set_option linter.unusedSimpArgs false
set_option linter.unusedVariables false
set_option maxRecDepth 100000
set_option maxHeartbeats 16000000
namespace Go.Proofs.Ytobmldegjajocaa
open Go.RowKit Go.Shelf
theorem readCs_nz : ∀ {ts : List (List UInt8)} {x : Nat}, readCs ts = .error x → x ≠ 0
 | [], x, h => by cases h
 | t :: ts, x, h => by
  rw [readCs_cons] at h;split at h
  ·rename_i y hy; injection h with h; subst h; exact readC_nz hy
  split at h
  ·rename_i y hy; injection h with h; subst h; exact readCs_nz hy
  ·cases h
theorem fillC_nz {p : LkC} {x : Nat} (h : fillC p = .error x) : x ≠ 0 := by
 unfold fillC at h;split at h
 ·rename_i y hy;injection h with h; subst h
  split at hy
  ·exact readT_nz hy
  ·cases hy
 split at h
 ·rename_i y hy;injection h with h; subst h
  exact readCs_nz hy
 cases h
theorem readCm_nz {l : List UInt8} {x : Nat} (h : readCm l = .error x) : x ≠ 0 := by
 unfold readCm at h;split at h
 ·injection h with h; omega
 split at h
 ·rename_i y hy; injection h with h; subst h; exact lookCm_err hy
 split at h
 ·injection h with h; omega
 exact fillC_nz h
theorem readCm_small (l : List UInt8) : (cmdOf (readCm l)).ok ∧ SmallC (cmdOf (readCm l)) := by
 have hno : noCmd.ok ∧ SmallC noCmd := ⟨noCmd_ok, by simp [noCmd, noTxn, SmallC]⟩;cases h : readCm l with
 | error x => exact hno
 | ok m =>
  show m.ok ∧ SmallC m
  obtain ⟨h1, h2, h3⟩ := readCm_back h;unfold readCm at h;split at h
  ·cases h
  split at h
  ·cases h
  rename_i p t hk;split at h
  ·cases h
  have hl := lookCm_ok hk;unfold fillC at h;split at h
  ·cases h
  rename_i tx htx;split at h
  ·cases h
  rename_i cs hcs;injection h with h
  subst h;obtain ⟨c1, c2⟩ := readCs_back _ _ hcs
  have htk : tx.ok ∧ tx.ins.length ≤ 16 ∧ tx.outs.length ≤ 16 ∧ ∀ i ∈ tx.ins, i.secret.length ≤ 64 := by
   split at htx
   ·obtain ⟨r1, r2, r3⟩ := readT_back htx;have r := right_of r2;exact ⟨r3, r.1, r.2.1, fun i hi => (r.2.2.2 i hi).1⟩
   ·injection htx with htx; subst htx
    exact ⟨noTxn_ok, by simp [noTxn], by simp [noTxn], by simp [noTxn]⟩
  refine ⟨⟨hl.1.1, htk.1, fun x hx => (c2 x hx).1, hl.1.2.2.2⟩, by have := htk.2.1; simp only; omega, by have := htk.2.2.1; simp only; omega, fun i hi => by have := htk.2.2.2 i hi; omega, ?_, fun x hx => ?_⟩
  ·have := congrArg List.length c1; rw [List.length_map] at this; have := hl.2.2.2.2.2.1; simp only; omega
  ·have hb := (c2 x hx).2;unfold badCert at hb;simp at hb;have := hb.2; omega
theorem cmReads_walk (A : Option Addr) (n c : Nat) (bs : List UInt8) (w : World) (hs : Sl w w.heap.size 1 A n (bs.map B)) (hc : n ≤ c) (hm : c ≤ maxLen) :
  Calls Try.prog 4 #[.slice A n c] w fun e w' => e = .returned (.bool true) ∧ Below w.heap.size w w' := by
 have HS := kp hs;have HC := kp hc;have HBL := kq (bs.length = n) (by have := hs.len; simpa using this);obtain ⟨w_, hw⟩ := xe w;have HB := kq (Below w.heap.size w w_) (by rw [hw]; exact Below.refl _ _)
 suffices H : Calls Try.prog 4 #[.slice A n c] w_ fun e w' => e = .returned (.bool true) ∧ Below w.heap.size w w' by rw [hw] at H; exact H
 clear hw hs hm;by_cases h15 : n ≤ 1500
 ·have z1 : ((1500 : Int) < (n : Int)) = False := eq_false (by omega);have HN := kp h15;have HSM := kp (readCm_small bs);obtain ⟨m, hme⟩ := xe (cmdOf (readCm bs));obtain ⟨er, her⟩ := xe (errOf (readCm bs));have HR1 := kp (fun (w' : World) (hg : Grow w w') => show Calls Try.prog 12 #[.slice A n c] w' fun e w'' => ∃ q : CW, e = .returned (.tuple #[.agg (q.vs m).toArray, .int .i64 (er : Int)]) ∧ CmdAt w'' q m ∧ Grow w' w'' by rw [hme, her]; exact cmread_any w' (HS.o.grow hg) (by omega));have HR2 := kp (fun (w' : World) (hg : Grow w w') => show Calls Try.prog 14 #[.slice A n c] w' fun e w'' => ∃ q : CW, e = .returned (.tuple #[.agg (q.vs m).toArray, .int .i64 (er : Int)]) ∧ CmdAt w'' q m ∧ Grow w' w'' by rw [hme, her]; exact rcmread_any w' (HS.o.grow hg) hc (by omega));rw [← hme] at HSM;have HSS := kp (fun (q1 q2 : CW) (w : World) (h1 : CmdAt w q1 m) (h2 : CmdAt w q2 m) => rcmsame_any (res := true) (by simp) w h1 h2 HSM.o.2);have HP := kp (fun (q1 : CW) (w : World) (h1 : CmdAt w q1 m) => cmput_any w h1 HSM.o.2)
  have HFM := kp (show er = 0 → formC m = (bs, 0) from fun h => by
   cases hr : readCm bs with
   | error x => rw [hr] at her; exact absurd (h.symm.trans her) (fun h2 => readCm_nz hr h2.symm)
   | ok y =>
    obtain ⟨r1, r2, r3⟩ := readCm_back hr;have e : m = y := by rw [hme, hr]; rfl
    rw [e];unfold formC
    rw [if_neg (by rw [r2]; simp), if_neg (by rw [← r1]; omega), ← r1])
  have HBY := kp (fun (w : World) (A1 : Option Addr) (n1 c1 : Nat) (A2 : Option Addr) (n2 c2 : Nat) (h1 : Sl w w.heap.size 1 A1 n1 (bs.map B)) (h2 : Sl w w.heap.size 1 A2 n2 (bs.map B)) (hn : n1 ≤ 1000000) => bytesq_any (c := c1) (c2 := c2) (res := true) (by simp) w h1 h2 hn);clear hme her h15 hc
  go_enter Try.func4, Try.ntmps4
  go_wp2_with fail;refine (HR1.o _ HB.o).mono ?_;rintro e v_ ⟨q1, rfl, hq, y_⟩;have HQ1 := kp hq; have HQC1 := kp (vs_cl (q := q1) HSM.o.1);have HSQ := kp (HSS.o q1); have HP1 := kp (HP.o q1);clear hq HR1 z1 HSS HP;have y_ := y_;clear y_;replace HB := kp (HB.o.grow' y_);clear y_;try clear w_
  rename World => w_;obtain ⟨v1, hv1⟩ := xe (q1.vs m);rw [← hv1] at HQC1 HSQ HP1 ⊢;clear hv1;go_wp2_with (with_reducible refine wal 3 zero_cmd ?_);intro w1_ hb1_ hbw1_ hsz1_;have HB1_ := kp (at_mk hb1_ len_cmd);have HBW1_ := kp hbw1_;have HZ1_ := kp hsz1_;clear hb1_ hbw1_ hsz1_;go_wp2_with (with_reducible refine wsb row_cmd HB1_.o.blk HB1_.o.len HQC1.o.len HQC1.o.one ?_);intro v_ b_ g_ s_;have y_ := var_grow HBW1_.o HZ1_.o g_;have HX_ := kp (at_mk b_ HQC1.o.len);clear b_ g_ s_ HB1_ HBW1_ HZ1_;replace HB := kp (HB.o.grow' y_);replace HQ1 := kp (HQ1.o.grow y_);generalize hg_ : w_.heap.size = g3 at HX_ ⊢;clear hg_;have HX := HX_;clear y_ HX_;clear w1_;try clear w_
  rename World => w_;go_wp2_with fail;refine (HR2.o _ HB.o).mono ?_;rintro e v_ ⟨q2, rfl, hq, y_⟩;have HQ2 := kp hq; have HQC2 := kp (vs_cl (q := q2) HSM.o.1);have HSR := kp (HSQ.o q2);clear hq HR2 HSQ;have y_ := y_;clear y_;replace HB := kp (HB.o.grow' y_);replace HX := kp (HX.o.grow y_);replace HQ1 := kp (HQ1.o.grow y_);clear y_;try clear w_
  rename World => w_;obtain ⟨v2, hv2⟩ := xe (q2.vs m);rw [← hv2] at HQC2 HSR ⊢;clear hv2;go_wp2_with (with_reducible refine wal 5 zero_cmd ?_);intro w1_ hb1_ hbw1_ hsz1_;have HB1_ := kp (at_mk hb1_ len_cmd);have HBW1_ := kp hbw1_;have HZ1_ := kp hsz1_;clear hb1_ hbw1_ hsz1_;go_wp2_with (with_reducible refine wsb row_cmd HB1_.o.blk HB1_.o.len HQC2.o.len HQC2.o.one ?_);intro v_ b_ g_ s_;have y_ := var_grow HBW1_.o HZ1_.o g_;have HX_ := kp (at_mk b_ HQC2.o.len);clear b_ g_ s_ HB1_ HBW1_ HZ1_;replace HB := kp (HB.o.grow' y_);replace HX := kp (HX.o.grow y_);replace HQ1 := kp (HQ1.o.grow y_);replace HQ2 := kp (HQ2.o.grow y_);generalize hg_ : w_.heap.size = g5 at HX_ ⊢;clear hg_;have HY := HX_;clear y_ HX_;clear w1_;try clear w_
  rename World => w_;have z2 : ((er : Int) != (er : Int)) = false := by simp
  go_wp2_with (first | (with_reducible refine wpl_loadb (o := ⟨_, .load _ _, _, _, _, _⟩) rfl rfl row_cmd HX.o.blk rfl HX.o.len ?_) | (with_reducible refine wpl_loadw (o := ⟨_, .load _ _, _, _, _, _⟩) (by first | rfl | (go_simp; done) | fail) rfl row_cmd HX.o.blk rfl HX.o.len ?_) | (with_reducible refine wpl_loadb (o := ⟨_, .load _ _, _, _, _, _⟩) rfl rfl row_cmd HY.o.blk rfl HY.o.len ?_) | (with_reducible refine wpl_loadw (o := ⟨_, .load _ _, _, _, _, _⟩) (by first | rfl | (go_simp; done) | fail) rfl row_cmd HY.o.blk rfl HY.o.len ?_));refine (HSR.o _ HQ1.o HQ2.o).mono ?_;clear z2;rintro e w_ ⟨rfl, y_⟩;replace HB := kp (HB.o.grow' y_);replace HX := kp (HX.o.grow y_);replace HQ1 := kp (HQ1.o.grow y_);clear y_;clear HSR HQ2 HY;by_cases h0 : er = 0
  ·have z1 : ((er : Int) != 0) = false := by simp [h0]
   have hf := HFM.o h0;rw [hf] at HP1;simp only at HP1;clear h0 hf HFM;go_wp2_with (first | (with_reducible refine wpl_loadb (o := ⟨_, .load _ _, _, _, _, _⟩) rfl rfl row_cmd HX.o.blk rfl HX.o.len ?_) | (with_reducible refine wpl_loadw (o := ⟨_, .load _ _, _, _, _, _⟩) (by first | rfl | (go_simp; done) | fail) rfl row_cmd HX.o.blk rfl HX.o.len ?_));refine (HP1.o _ HQ1.o).mono ?_;rintro e v_ ⟨A5, c5, rfl, ho, hc5, y_⟩;have HS5 := kq (Sl v_ v_.heap.size 1 A5 n (bs.map B)) (by rw [← HBL.o]; exact Sl.of_own ho);rw [HBL.o];clear ho hc5 z1;have y_ := y_;clear y_;replace HB := kp (HB.o.grow' y_);clear y_;try clear w_
   rename World => w_;go_wp2_with fail;refine (HBY.o _ _ _ _ _ _ _ HS5.o ((HS.o.below HB.o).more HB.o.size) (by have := HN.o; omega)).mono ?_;rintro e w_ ⟨rfl, y_⟩;replace HB := kp (HB.o.grow' y_);clear y_;go_wp2_with fail;refine (awake24_any _).mono ?_;rintro e w_ ⟨rfl, y_⟩;replace HB := kp (HB.o.grow' y_);clear y_;go_wp2_with fail;go_ret
   exact ⟨rfl, HB.o⟩
  ·have z1 : ((er : Int) != 0) = true := by simp [h0]
   clear h0;go_wp2_with fail;refine (awake24_any _).mono ?_;rintro e w_ ⟨rfl, y_⟩;replace HB := kp (HB.o.grow' y_);clear y_;go_wp2_with fail;go_ret
   exact ⟨rfl, HB.o⟩
 ·have z1 : ((1500 : Int) < (n : Int)) = True := eq_true (by omega)
  go_enter Try.func4, Try.ntmps4
  go_wp2_with fail;refine (awake24_any _).mono ?_;rintro e w_ ⟨rfl, y_⟩;replace HB := kp (HB.o.grow' y_);clear y_;go_wp2_with fail;go_ret
  exact ⟨rfl, HB.o⟩
end Go.Proofs.Ytobmldegjajocaa
namespace Go.Proofs.Ytobmldegjajocaa.lawCommandReads
open Go.ChangeShapes Go.WideShapes Go.ChangeAt Go.RowKit
open Go.ChangeMaps (open_string shut_string)
theorem own : ownKnob Try.prog.godebug = none := by kernel_rfl
theorem laidOut : laidOutB Try.prog = true := by kernel_rfl
theorem lifted (os : Os) (started : os.Started) (H : Type) (enc : TypeId × Value → H) :
  ReturnsInHanded {} Try.checked os 4 .any (Rows.commandReadsSpec.pre6 enc Try.prog Try.f4 Rows.commandReadsRow.domain false) (Rows.commandReadsSpec.post enc Try.prog Try.f4 false true false false) := by
 refine returnsInHanded_of_change (C := Try.checked) own started (by kernel_rfl) Try.func4
  (ChangeSpec.witness6 (enc := enc) (C := Try.checked) false ⟨#[], #[.slice none 0 0], []⟩ 8 (by kernel_rfl) (by kernel_rfl) (by kernel_rfl) (by kernel_rfl)) ?_
 intro W base args ds gs before hval0 hW hcnd _;have hval : ∀ (j : Nat) t v, Try.f4.params[j]? = some t → args[j]? = some v → Value.okWide Try.prog W .any base t v := hval0;have hW' := hW;obtain ⟨p, q, hA0, hV, rfl, hfz, hnd⟩ := hW;have hA : DataW.TrodAll enc Try.prog W 0 (fun _ => true) true Try.f4.params.toList args.toList ds p := hA0;rw [Try.params4] at hA hval;obtain ⟨v0, vs0, d0, ds0, p0, q0, hargs, rfl, rfl, h0, r0⟩ := trodAll_cons hA;obtain ⟨rfl, rfl, rfl⟩ := trodAll_nil r0;obtain rfl : args = #[v0] := by cases args; simp_all
 obtain ⟨rfl, rfl⟩ := trodVars_none hV;have k0 := h0;have lt0 : ∀ x ∈ p0, x.block < W.heap.size := by obtain ⟨m, hm⟩ := k0; exact DataW.trod_lt m _ _ _ hm
 obtain ⟨x0_0, x0_1, x0_2, x0_3, rfl, f0_0, f0_1, f0_2⟩ := open_b (hval 0 36 v0 rfl rfl) h0;clear hA0 hval0;refine (cmReads_walk x0_0 x0_1 x0_2 x0_3 W f0_0 f0_1 f0_2).mono fun e W' ⟨he, bel⟩ => ?_
 subst he;exact ⟨_, rfl, _, _, _, [], _, [], hW', trodAll_mk1 (shut_bool Try.underlying4 _), (trodAll_cons_mk (Below.trod laidOut (by kernel_rfl) (of_decide_eq_true (by kernel_rfl)) k0 bel lt0) trodAll_mk0), rfl, bel.frame _, fun h => by cases h⟩
theorem proved : Rows.CommandReadsSaid :=
 OpenClaim.holds_of_wide 4 Try.f4 rfl rfl rfl rfl rfl rfl rfl ⟨rfl, rfl, rfl, rfl, rfl⟩ rfl rfl rfl rfl rfl (by kernel_rfl) Try.func4 (by kernel_rfl)
  (of_decide_eq_true (by kernel_rfl)) (by unfold Func.isWrapper; first | (rw [if_pos (by decide +kernel)]; kernel_rfl) | (rw [if_neg (by decide +kernel)]; exact ⟨rfl, rfl⟩))
  (fun os started H enc _ => lifted os started H enc)
#print axioms proved
end Go.Proofs.Ytobmldegjajocaa.lawCommandReads

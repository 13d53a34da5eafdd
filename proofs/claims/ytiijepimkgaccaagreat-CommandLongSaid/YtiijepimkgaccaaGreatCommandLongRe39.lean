/- The contract of seisinref24.Put. Printed by mkcmdh.py. -/
import Derived.Test.YtiijepimkgaccaaGreatCommandLongRe36
import Derived.Test.YtiijepimkgaccaaGreatCommandLongRe38
set_option linter.unusedSimpArgs false
set_option linter.unusedVariables false
set_option maxRecDepth 100000
set_option maxHeartbeats 16000000
namespace Go.Proofs.YtiijepimkgaccaaGreat
open Go.RowKit Go.Shelf
theorem rnum24_any (N : Int) (w : World) (h0 : 0 ≤ N) (hN : N ≤ 9223372036854775807) :
  Calls Tryz.prog 28 #[.int .i64 N] w fun e w' => ∃ A c, e = .returned (.slice A (numB N.toNat).length c) ∧ OwnAt w' w.heap.size A (numB N.toNat).length c ((numB N.toNat).map B) ∧ (numB N.toNat).length ≤ c ∧ Grow w w' := by
 have HC := kp (rnum_any N.toNat w (by omega));rw [Int.toNat_of_nonneg h0] at HC;have qk := convI (k := N) h0 (by omega)
 go_enter Tryz.func28, Tryz.ntmps28
 go_wp2_with fail;refine HC.o.mono ?_;rintro e v_ ⟨A, c, rfl, ho, hc, hb⟩;have HO := kp ho; have HCC := kp hc; have HB := kp hb;clear ho hc hb qk;go_wp2_with fail;go_ret
 exact ⟨A, c, rfl, HO.o, HCC.o, HB.o⟩
theorem rnumU_any (N : Int) (w : World) (h0 : 0 ≤ N) (hN : N ≤ 18446744073709551615) :
  Calls Tryz.prog 30 #[.int .u64 N] w fun e w' => ∃ A c, e = .returned (.slice A (numB N.toNat).length c) ∧ OwnAt w' w.heap.size A (numB N.toNat).length c ((numB N.toNat).map B) ∧ (numB N.toNat).length ≤ c ∧ Grow w w' := by
 have := rnum_any N.toNat w (by omega);rw [Int.toNat_of_nonneg h0] at this; exact this
theorem rnum24N_any (N : Nat) (w : World) (hN : N ≤ 1000000) :
  Calls Tryz.prog 28 #[.int .i64 (N : Int)] w fun e w' => ∃ A c, e = .returned (.slice A (numB N).length c) ∧ OwnAt w' w.heap.size A (numB N).length c ((numB N).map B) ∧ (numB N).length ≤ c ∧ Grow w w' := by
 have := rnum24_any (N : Int) w (by omega) (by omega)
 rwa [Int.toNat_natCast] at this
theorem below_refl' (Z : Nat) (w : World) : Below Z w w := Below.refl _ _
theorem below_trans' (Z : Nat) (a b c : World) (h : Below Z a b) (k : Below Z b c) : Below Z a c := h.trans k
theorem below_app {w w3 : World} {Z n c : Nat} {A : Option Addr} {xs : List Value} (ho : OwnAt w Z A n c xs) (hz : Z ≤ w.heap.size) (hg : w.grownBy w3 (A.map Addr.block)) : Below Z w w3 :=
 below_grown (Below.refl _ _) hg hz (fun g hg' => by have := own_from ho g hg'; omega)
theorem own_far {w w3 : World} {base n c m c2 z : Nat} {A T : Option Addr} {xs ys : List Value} (ht : OwnAt w base T m c2 ys) (ho : OwnAt w z A n c xs) (hne : ∀ b, A.map Addr.block = some b → b < base) (hg : w.grownBy w3 (A.map Addr.block)) : OwnAt w3 base T m c2 ys :=
 own_kept ht hg (fun g e h => by have h1 := own_from ht g (by rw [e]; rfl); have h2 := hne g h.symm; omega)
theorem rcmput_any {q : CW} {m : Cmd} (w : World) (h : CmdAt w q m) (hs : SmallC m) :
  Calls Tryz.prog 8 #[.agg (q.vs m).toArray] w fun e w' => ∃ A' c', e = .returned (.tuple #[.slice A' (formC m).1.length c', .int .i64 (formC m).2]) ∧ OwnAt w' w.heap.size A' (formC m).1.length c' ((formC m).1.map B) ∧ (formC m).1.length ≤ c' ∧ Grow w w' := by
 have HXC := kp (vs_cl (q := q) h.ok);have X0 := kp (vs_kind q m); have X5 := kp (vs_certs q m);have X39 := kp (vs_serial (q := q) h.ok.2.2.2.1); have X40 := kp (vs_epoch (q := q) h.ok.2.2.2.1);have XA := kq ((q.vs m)[38]? = some (.int .u64 m.dest.amount)) (vs_to (j := 32) (by unfold outV; rw [List.getElem?_append_right (by simp [h.ok.2.2.2.1.1])]; simp [h.ok.2.2.2.1.1]));have XO := kp (fun j u (hu : (m.dest.owner.map B)[j]? = some u) => vs_to (q := q) (m := m) (j := j) (u := u) (by unfold outV; rw [List.getElem?_append_left (List.getElem?_eq_some_iff.1 hu).1]; exact hu));have XI := kp (fun j u (hu : (m.id.map B)[j]? = some u) => vs_id (q := q) h.ok.2.2.2.1 hu);have XX := kp (fun j u (hu : (q.tv m)[j]? = some u) => vs_tx hu);have LX := kq ((q.tv m).length = 4) rfl;have HDO := kp (dig_map h.ok.2.2.2.1.1); have HDI := kp (dig_map h.ok.2.2.2.2.2.2);have HAM := kq (0 ≤ m.dest.amount ∧ m.dest.amount ≤ 18446744073709551615) (by have := h.ok.2.2.2.1.2; unfold U64 at this; omega);have hn3 : m.certs.length = q.n3 := h.n3;have HCK := kp (fun w' (hg : Grow w w') => rcmcheck_any w' (h.grow hg) hs)
 have HTP := kp (show hasTxK m.kind = true → checkC m = 0 → ∀ (w' : World) (hg : Grow w w'), Calls Tryz.prog 31 #[.agg (q.tv m).toArray] w' fun e w'' => ∃ A' c', e = .returned (.slice A' (putTB m.tx).length c') ∧ OwnAt w'' w'.heap.size A' (putTB m.tx).length c' ((putTB m.tx).map B) ∧ (putTB m.tx).length ≤ c' ∧ Grow w' w'' from fun h1 h2 w' hg => by
  obtain ⟨r1, r2, r3, r4⟩ := right_of ((checkC_zero h2).2.2.2.1 h1);have := rtputo_any w' (h.ins.grow hg) (h.outs.grow hg) (by rw [← h.n1]; exact r1) (by rw [← h.n2]; exact r2) h.ok.2.1.2.2.1 r3 (fun p hp => r4 p.2 (by rw [h.insE]; exact List.mem_map_of_mem hp))
  rw [h.tx] at this; exact this)
 have HCA := kp (fun (w' : World) (hg : Grow w w') => h.certs.grow hg);have HCE := kp h.certsE;have HPL := kq (∀ x ∈ m.certs, x.path.length ≤ 1000) hs.2.2.2.2;have HZ1 := kq (checkC m = 0 → _) (fun e => checkC_zero (m := m) e);have HTB := kq (hasTxK m.kind = true → checkC m = 0 → (putTB m.tx).length ≤ 3000) (fun h1 h2 => putTB_le h.ok.2.1 ((checkC_zero h2).2.2.2.1 h1));have HCT := kq (checkC m = 0 → ∀ x ∈ m.certs, (certText x).length ≤ 2009) (fun h1 x hx => certText_le (h.ok.2.2.1 x hx) ((checkC_zero h1).2.2.2.2.1 x hx));have F1 := kq (checkC m ≠ 0 → formC m = ([], checkC m)) (fun e => by unfold formC; rw [if_pos e]);have F2 := kq (checkC m = 0 → 8192 < (putCm m).length → formC m = ([], 4)) (fun e e2 => by unfold formC; rw [if_neg (by simp [e]), if_pos e2]);have F3 := kq (checkC m = 0 → ¬ 8192 < (putCm m).length → formC m = (putCm m, 0)) (fun e e2 => by unfold formC; rw [if_neg (by simp [e]), if_neg e2]);obtain ⟨b0, hb0⟩ := xe (numB m.kind.toNat);obtain ⟨b1, hb1⟩ := xe (b0 ++ (if m.kind = 1 then numB m.serial.toNat ++ m.dest.owner ++ numB m.dest.amount.toNat else []));obtain ⟨b2, hb2⟩ := xe (b1 ++ txPart m);obtain ⟨b3, hb3⟩ := xe (b2 ++ certPart m);obtain ⟨b4, hb4⟩ := xe (b3 ++ (if m.kind = 7 then numB m.epoch.toNat else []));have HPC := kq (putCm m = b4 ++ (if m.kind = 9 then m.id else [])) (by rw [hb4, hb3, hb2, hb1, hb0]; rfl);have B0 := kp hb0;have T1 := kq (m.kind = 1 → b1 = b0 ++ numB m.serial.toNat ++ m.dest.owner ++ numB m.dest.amount.toNat) (fun e => by rw [hb1, if_pos e]; simp);have N1 := kq (m.kind ≠ 1 → b1 = b0) (fun e => by rw [hb1, if_neg e]; simp);have T2 := kq (hasTxK m.kind = true → b2 = b1 ++ numB (putTB m.tx).length ++ putTB m.tx) (fun e => by rw [hb2]; unfold txPart; rw [if_pos e]; simp);have N2 := kq (hasTxK m.kind = false → b2 = b1) (fun e => by rw [hb2]; unfold txPart; rw [e]; simp);have T3 := kq (hasCK m.kind = true → b3 = b2 ++ numB q.n3 ++ m.certs.flatMap certText) (fun e => by rw [hb3, ← hn3]; unfold certPart; rw [if_pos e]; simp);have N3 := kq (hasCK m.kind = false → b3 = b2) (fun e => by rw [hb3]; unfold certPart; rw [e]; simp);have T4 := kq (m.kind = 7 → b4 = b3 ++ numB m.epoch.toNat) (fun e => by rw [hb4, if_pos e]);have N4 := kq (m.kind ≠ 7 → b4 = b3) (fun e => by rw [hb4, if_neg e]; simp);have T5 := kq (m.kind = 9 → putCm m = b4 ++ m.id) (fun e => by rw [HPC.o, if_pos e]);have N5 := kq (m.kind ≠ 9 → putCm m = b4) (fun e => by rw [HPC.o, if_neg e]; simp);clear hb0 hb1 hb2 hb3 hb4 HPC;obtain ⟨ck, hck⟩ := xe (checkC m);obtain ⟨pc, hpc⟩ := xe (putCm m);obtain ⟨fm, hfm⟩ := xe (formC m);obtain ⟨tb, htb⟩ := xe (putTB m.tx);rw [← hck] at HCK HZ1 HCT HTB HTP F1 F2 F3;rw [← hpc] at F2 F3 T5 N5;rw [← hfm] at F1 F2 F3 ⊢;rw [← htb] at HTP HTB T2;obtain ⟨tl, htl⟩ := xe tb.length;rw [← htl] at HTP HTB T2;have HATB := kp (all_bytes tb);obtain ⟨xv, hxv⟩ := xe (q.vs m);obtain ⟨tv, htv⟩ := xe (q.tv m);obtain ⟨crs, hcrs⟩ := xe m.certs;rw [← hxv] at HXC X0 X5 X39 X40 XA XO XI XX HCK ⊢;rw [← htv] at XX LX HTP;have HCL := kq (crs.length = q.n3) (by rw [hcrs]; exact hn3);have HC16 := kq (ck = 0 → q.n3 ≤ 16) (fun e => by rw [← hn3]; exact (HZ1.o e).2.2.1);rw [← hcrs] at HCE HPL HCT T3;have HRG := kq (ck = 0 → (1 ≤ m.kind ∧ m.kind ≤ 9) ∧ (0 ≤ m.serial ∧ m.serial ≤ 1099511627776 ∧ 0 ≤ m.epoch ∧ m.epoch ≤ 1099511627776)) (fun e => ⟨(HZ1.o e).1, by have := (HZ1.o e).2.1; omega⟩);clear HZ1;obtain ⟨own, hown⟩ := xe m.dest.owner;obtain ⟨mid, hmid⟩ := xe m.id;have HAO := kp (all_bytes own); have HAI := kp (all_bytes mid);rw [← hown] at XO HDO T1; rw [← hmid] at XI HDI T5;obtain ⟨k, hk⟩ := xe m.kind;obtain ⟨se, hse⟩ := xe m.serial;obtain ⟨ep, hep⟩ := xe m.epoch;obtain ⟨am, ham⟩ := xe m.dest.amount;rw [← hk] at X0 HTB HTP HRG B0 T1 N1 T2 N2 T3 N3 T4 N4 T5 N5; rw [← hse] at X39 HRG T1; rw [← hep] at X40 HRG T4; rw [← ham] at XA HAM T1;obtain ⟨A, n, c, A2, n2, c2, A3, n3, c3, l, cl⟩ := q;simp only at X5 HCA HCE T3 HCL HC16;obtain ⟨ht, hht⟩ := xe (hasTxK k);obtain ⟨hc, hhc⟩ := xe (hasCK k);have HHT := kp hht; have HHC := kp hhc;rw [← hht] at HTB HTP T2 N2; rw [← hhc] at T3 N3;obtain ⟨od, hod⟩ := xe (own.map B);obtain ⟨md, hmd⟩ := xe (mid.map B);rw [← hod] at XO HDO; rw [← hmd] at XI HDI;clear h hs hn3 hck hpc hfm htb htl hxv htv hcrs hown hmid hk hse hep ham hht hhc hod hmd;refine bq (fun w_ HB => ?_)
 go_enter Tryz.func8, Tryz.ntmps8
 go_wp2_with (with_reducible refine wbx 1 ?_);intro v_ b_ y_ hsz2_;have HX_ := kp (at_mk b_ HXC.o.len);clear b_ hsz2_;have HG_ := kp HB.o.size;replace HB := kp (HB.o.grow' y_);generalize hg_ : w_.heap.size = g1 at HX_ HG_ ⊢;clear hg_;have HX_g := HG_;clear HG_;have HX := HX_;clear y_ HX_;try clear w_
 rename World => w_;go_wp2_with (with_reducible refine wlb 9 row_cmd HX.o.blk HX.o.len ?_);refine (HCK.o _ HB.o).mono ?_;rintro e w_ ⟨rfl, y_⟩;replace HB := kp (HB.o.grow' y_);replace HX := kp (HX.o.grow y_);clear y_;by_cases h0 : ck = 0
 rotate_left
 ·have d0 : (ck != 0) = true := by simpa using h0
  have HNI := kp (F1.o h0);clear h0;go_wp2_with fail
  go_ret2
  exact ⟨none, 0, by rw [HNI.o]; rfl, by rw [HNI.o]; exact World.ownsRow_nil _ _ _ _, by rw [HNI.o]; exact Nat.le_refl _, HB.o⟩
 obtain ⟨⟨hk1, hk9⟩, hse0, hse1, hep0, hep1⟩ := HRG.o h0;have hn16 : n3 ≤ 16 := HC16.o h0;have HCT2 := kp (HCT.o h0);have HTB2 := kp (fun e => HTB.o e h0); have HTP2 := kp (fun e => HTP.o e h0);have F22 := kp (F2.o h0); have F32 := kp (F3.o h0);have d0 : (ck != 0) = false := by simpa using h0
 clear HCK HRG HC16 HCT HTB HTP F1 F2 F3 h0;have c0 := HX.o.blk.at_ X0.o;go_wp2_with fail;clear d0;rename World => w6;obtain ⟨Z, hZ⟩ := xe w6.heap.size;have HZ := kp hZ;clear hZ;refine (rnum24_any k _ (by omega) (by omega)).mono ?_;rintro e w_ ⟨A5, c5, rfl, ho_, hc_, y_⟩;have hL5 : (numB k.toNat).length ≤ 9 := numB_le (by omega);rw [← B0.o] at ho_ hL5 ⊢;obtain ⟨L5, hl5⟩ := xe b0.length;have HO := kq (OwnAt w_ Z A5 L5 c5 (b0.map B)) (by rw [HZ.o, hl5]; exact ho_);have HG := kq (Grow w6 w_) y_;rw [← hl5] at hL5 ⊢;clear ho_ hc_ y_ hl5 c0;have HXG := kq (∀ w', Grow w6 w' → At w' g1 36 73 xv) (fun w' hg => HX.o.grow hg);have HBG := kq (∀ w', Grow w6 w' → Grow w w') (fun w' hg => below_chain HB.o hg);have HGZ := kq (g1 < Z) (by rw [HZ.o]; exact HX.o.lt);clear HX HB;have c0 := (HXG.o _ HG.o).blk.at_ X0.o;obtain ⟨e1, he_⟩ : ∃ z : Bool, (k == 1) = z := ⟨_, rfl⟩;have HE_ := kp he_
 go_upto_if 19 with fail
 go_cut [5] from 20 to 35 (fun s5 wr => ∃ A5 L5 c5, s5 = .slice A5 L5 c5 ∧ L5 ≤ 80 ∧ Hid (OwnAt wr Z A5 L5 c5 (b1.map B)) ∧ Hid (Grow w6 wr))
 case first =>
  clear he_ c0;cases e1 with
  | false =>
   have HQ := kp (N1.o (by have := HE_.o; simpa using this));have HFIN := kq (OwnAt w_ Z A5 L5 c5 (b1.map B)) (by rw [HQ.o]; exact HO.o);go_wp2_with fail
   go_meet
   case rel => exact ⟨A5, L5, c5, rfl, by omega, HFIN, HG⟩
  | true =>
   have HQ := kp (T1.o (by have := HE_.o; simpa using this));have HB := kp (HBG.o _ HG.o); have HGW := kq (Gw w6 w_) HG.o;try go_wp2_with fail
   repeat' (first | (with_reducible refine wp_plan (id := 6) (fun a b => (Below Z a b)) [0,0,2,4,4,0,0,1,3,3,0] (.get 0 (.get 1 (.get 2 (.get 5 (.get 6 (.get 7 (.act 3 (.act 4 (.act 8 (.act 9 (.get 10 .done))))))))))) (by kernel_rfl) (by kernel_rfl) (below_refl' Z) (below_trans' Z) ?_) | go_values | go_skip | go_guarded | go_step | go_upon | go_back)
   intro w_ hd_;have y_ := hd_.grow;replace HB := kp (HB.o.grow' y_);replace HO := kp (HO.o.grow y_);replace HGW := kp (HGW.o.grow y_);clear y_ hd_;clear HG HB;have HG := kq (Grow w6 w_) HGW.o;clear HGW;repeat ((first | refine plc (fun K hK => ?_) | refine pls (fun K hK => ?_) | refine psa (fun K hK => ?_)); go_simp; refine hK _ _ ?_; clear hK K)
   refine pl_now rfl rfl (by exact wanted_none rfl) (v := .int .i64 se) (by have c9 := (HXG.o _ HG.o).blk.at_ X39.o; first | (go_simp; rfl) | (go_simp; done)) (fun K hK => ?_);go_simp;refine hK _ _ ?_;clear hK K;repeat ((first | refine plc (fun K hK => ?_) | refine pls (fun K hK => ?_) | refine psa (fun K hK => ?_)); go_simp; refine hK _ _ ?_; clear hK K)
   refine pl_loadmf rfl (by decide) (by exact wanted_none rfl) rfl row_aid (below_refl' Z _) (fun w3_ hf_ j u hu => ((HXG.o _ HG.o).blk.below hf_ HGZ.o).at_ (XO.o j u hu)) (by first | rfl | (go_simp; done) | rfl) HDO.o.len (fun K hK => ?_);go_simp;refine hK _ _ ?_;clear hK K;refine pac (fun K hK => ?_);go_wp2_with fail;refine (rnum24_any se _ (by omega) (by omega)).mono ?_;rintro e v_ ⟨A7, c7, rfl, ho_, hc_, y_⟩;obtain ⟨nb, hnb⟩ := xe (numB se.toNat);have HNB := kp hnb;have hm_ : nb.length ≤ 9 := by rw [hnb]; exact numB_le (by omega)
   rw [← hnb] at ho_ ⊢;obtain ⟨m_, hm2_⟩ := xe nb.length;rw [← hm2_] at ho_ hm_ ⊢;have HSL := kp (Sl.of_own ho_); have HON := kp (all_bytes nb);have HO_ := kq (OwnAt v_ Z A5 L5 c5 (b0.map B)) (HO.o.grow y_);have HG_ := kp (HG.o.grow' y_);have HFU := kp (y_.mono (show Z ≤ w_.heap.size by rw [HZ.o]; exact HG.o.size));clear ho_ hc_ y_ hnb hm2_ HO HG ;go_wp2_with fail;refine hK _ _ (fun _ => HFU.o) ?_;clear hK K HFU;have HO := HO_; have HG := HG_;clear HO_ HG_;try clear w_
   rename World => w_;have HZB := kq (Z ≤ w_.heap.size) (by rw [HZ.o]; exact HG.o.size);refine pac (fun K hK => ?_);show wpList _ _ _ [⟨some _, .call _, _, _, _, _⟩] _ _
   go_wp2_with (at_builtin; refine wpl_apps rfl rfl el_u8 HO.o rfl HSL.o rfl HON.o (by omega) (by omega) HZB.o ?_);intro A5 c5 w3_ ho_ hg_ hA_;have hst := acc_step HG.o HZ.o HO.o ho_ hg_;have HFU := kp (below_app HO.o HZB.o hg_);obtain ⟨L5, hL6_⟩ := xe (L5 + m_);obtain ⟨ac1, hac_⟩ := xe (b0 ++ nb);have hb6_ : L5 ≤ 20 := by omega
   rw [← hL6_, ← hac_] at hst;rw [← hL6_];have Hac1 := kp hac_;have HO_ := kp hst.1; have HG_ := kp hst.2;clear ho_ hg_ hA_ hst hL6_ hac_ HO HG HSL HZB hL5;have hL5 := hb6_;clear hb6_;go_wp2_with fail;refine hK _ _ (fun _ => HFU.o) ?_;clear hK K HFU;have HO := HO_; have HG := HG_;clear HO_ HG_;try clear w_
   rename World => w_;obtain ⟨nb1, hnb1⟩ := xe nb;refine pac (fun K hK => ?_);go_wp2_with fail;refine (tbytes_any HDO.o _).mono ?_;rintro e v_ ⟨A7, c7, rfl, hs_, hc_, y_⟩;have HSL := kp hs_;have HO_ := kq (OwnAt v_ Z A5 L5 c5 (ac1.map B)) (HO.o.grow y_);have HG_ := kp (HG.o.grow' y_);have HFU := kp (Below.mono y_ (show Z ≤ w_.heap.size by rw [HZ.o]; exact HG.o.size));clear hs_ hc_ y_ HO HG hnb1;go_wp2_with fail;refine hK _ _ (fun _ => HFU.o) ?_;clear hK K HFU;have HO := HO_; have HG := HG_;clear HO_ HG_;try clear w_
   rename World => w_;have HZB := kq (Z ≤ w_.heap.size) (by rw [HZ.o]; exact HG.o.size);refine pac (fun K hK => ?_);show wpList _ _ _ [⟨some _, .call _, _, _, _, _⟩] _ _
   go_wp2_with (at_builtin; refine wpl_apps rfl rfl el_u8 HO.o rfl HSL.o rfl HAO.o (by omega) (by omega) HZB.o ?_);intro A5 c5 w3_ ho_ hg_ hA_;have hst := acc_step HG.o HZ.o HO.o ho_ hg_;have HFU := kp (below_app HO.o HZB.o hg_);obtain ⟨L5, hL6_⟩ := xe (L5 + 32);obtain ⟨ac2, hac_⟩ := xe (ac1 ++ own);have hb6_ : L5 ≤ 60 := by omega
   rw [← hL6_, ← hac_] at hst;rw [← hL6_];have Hac2 := kp hac_;have HO_ := kp hst.1; have HG_ := kp hst.2;clear ho_ hg_ hA_ hst hL6_ hac_ HO HG HSL HZB hL5;have hL5 := hb6_;clear hb6_;go_wp2_with fail;refine hK _ _ (fun _ => HFU.o) ?_;clear hK K HFU;have HO := HO_; have HG := HG_;clear HO_ HG_;try clear w_
   rename World => w_;repeat ((first | refine plc (fun K hK => ?_) | refine pls (fun K hK => ?_) | refine psa (fun K hK => ?_)); go_simp; refine hK _ _ ?_; clear hK K)
   refine pl_done ?_;have ham2 := HAM.o.2;have HNB1 := HNB;clear HNB;have c38 := (HXG.o _ HG.o).blk.at_ XA.o;go_wp2_with fail;refine (rnumU_any am _ HAM.o.1 HAM.o.2).mono ?_;rintro e v_ ⟨A7, c7, rfl, ho_, hc_, y_⟩;obtain ⟨nb, hnb⟩ := xe (numB am.toNat);have HNB := kp hnb;have hm_ : nb.length ≤ 9 := by rw [hnb]; exact numB_le (by omega)
   rw [← hnb] at ho_ ⊢;obtain ⟨m_, hm2_⟩ := xe nb.length;rw [← hm2_] at ho_ hm_ ⊢;have HSL := kp (Sl.of_own ho_); have HON := kp (all_bytes nb);replace HO := kq (OwnAt v_ Z A5 L5 c5 (ac2.map B)) (HO.o.grow y_);replace HG := kp (HG.o.grow' y_);clear ho_ hc_ y_ hnb hm2_ c38;try clear w_
   rename World => w_;have HZB := kq (Z ≤ w_.heap.size) (by rw [HZ.o]; exact HG.o.size);go_wp2_with (at_builtin; refine wpl_apps rfl rfl el_u8 HO.o rfl HSL.o rfl HON.o (by omega) (by omega) HZB.o ?_);intro A5 c5 w3_ ho_ hg_ hA_;have hst := acc_step HG.o HZ.o HO.o ho_ hg_;obtain ⟨L5, hL6_⟩ := xe (L5 + m_);obtain ⟨ac3, hac_⟩ := xe (ac2 ++ nb);have hb6_ : L5 ≤ 70 := by omega
   rw [← hL6_, ← hac_] at hst;rw [← hL6_];have Hac3 := kp hac_;have HO_ := kp hst.1; have HG_ := kp hst.2;clear ho_ hg_ hA_ hst hL6_ hac_ HO HG HSL HZB hL5;have hL5 := hb6_;clear hb6_;have HO := HO_; have HG := HG_;clear HO_ HG_;try clear w_
   rename World => w_;have HFIN := kq (OwnAt w_ Z A5 L5 c5 (b1.map B)) (by rw [HQ.o, ← HNB1.o, ← HNB.o, ← Hac1.o, ← Hac2.o, ← Hac3.o]; exact HO.o);go_wp2_with fail
   go_meet
   case rel => exact ⟨A5, L5, c5, rfl, by omega, HFIN, HG⟩
 case rest =>
 obtain ⟨A5, L5, c5, rfl, hL5, hO, hG⟩ := hcut;clear HO HG;have HO := kp hO.o; have HG := kp hG.o;clear hO hG;try clear w_
 rename World => w_;clear he_ c0 HE_;have c0 := (HXG.o _ HG.o).blk.at_ X0.o
 go_upto_region 8 with fail
 go_cut [43] from 36 to 42 (fun s_ wr => s_ = .bool ht ∧ Hid (OwnAt wr Z A5 L5 c5 (b1.map B)) ∧ Hid (Grow w6 wr))
 case first =>
  rcases Int.lt_or_le k 2 with hk2 | hk2
  ·have HH := kq (ht = false) (by rw [HHT.o]; unfold hasTxK; simp; omega);have y2 : (2 ≤ k) = False := eq_false (by omega);go_wp2_with fail
   go_meet
   case rel => exact ⟨by rw [HH.o], HO, HG⟩
  rcases Int.lt_or_le 6 k with hk6 | hk6
  ·have HH := kq (ht = false) (by rw [HHT.o]; unfold hasTxK; simp; omega);have y6 : (k ≤ 6) = False := eq_false (by omega);go_wp2_with fail
   go_meet
   case rel => exact ⟨by rw [HH.o], HO, HG⟩
  have HH := kq (ht = true) (by rw [HHT.o]; unfold hasTxK; simp; omega);go_wp2_with fail
  go_meet
  case rel => exact ⟨by rw [HH.o], HO, HG⟩
 case rest =>
 obtain ⟨rfl, hO, hG⟩ := hcut;clear HO HG c0;have HO := kp hO.o; have HG := kp hG.o;clear hO hG;try clear w_
 rename World => w_
 go_upto_if 43 with fail
 go_cut [5, 6] from 44 to 53 (fun s5 s6 wr => ∃ A5 L5 c5, s5 = .slice A5 L5 c5 ∧ L5 ≤ 3200 ∧ Hid (OwnAt wr Z A5 L5 c5 (b2.map B)) ∧ Hid (Grow w6 wr))
 case first =>
  cases ht with
  | false =>
   have HQ := kp (N2.o (by first | trivial | rfl));have HFIN := kq (OwnAt w_ Z A5 L5 c5 (b2.map B)) (by rw [HQ.o]; exact HO.o);go_wp2_with fail
   go_meet
   case rel => exact ⟨A5, L5, c5, rfl, by omega, HFIN, HG⟩
  | true =>
  have HQ := kp (T2.o (by first | trivial | rfl));have htl : tl ≤ 3000 := HTB2.o (by first | trivial | rfl);have FX := kq (∀ j u, tv[j]? = some u → w_.cell? ⟨g1, 1 + j, none⟩ = some u) (fun j u hu => (HXG.o _ HG.o).blk.at_ (XX.o j u hu));go_wp2_with (with_reducible refine wlm 45 row_tx FX.o LX.o ?_);refine (HTP2.o (by first | trivial | rfl) _ (HBG.o _ HG.o)).mono ?_;rintro e v_ ⟨TA, TC, rfl, ho_, hc_, y_⟩;have HTO := kp ho_;have HO_ := kq (OwnAt v_ Z A5 L5 c5 (b1.map B)) (HO.o.grow y_);have HG_ := kp (HG.o.grow' y_);obtain ⟨zb, hzb⟩ := xe w_.heap.size;have HNE := kq (∀ b, A5.map Addr.block = some b → b < zb) (fun b hb => by rw [hzb]; exact own_lt HO.o b hb);rw [← hzb] at HTO;clear ho_ hc_ y_ HO HG FX hzb;have HO := HO_; have HG := HG_;clear HO_ HG_;try clear w_
  rename World => w_;go_wp2_with fail;refine (rnum24N_any tl _ (by omega)).mono ?_;rintro e v_ ⟨A7, c7, rfl, ho_, hc_, y_⟩;obtain ⟨nb, hnb⟩ := xe (numB tl);have HNB := kp hnb;have hm_ : nb.length ≤ 9 := by rw [hnb]; exact numB_le (by omega)
  rw [← hnb] at ho_ ⊢;obtain ⟨m_, hm2_⟩ := xe nb.length;rw [← hm2_] at ho_ hm_ ⊢;have HSL := kp (Sl.of_own ho_); have HON := kp (all_bytes nb);have HO_ := kq (OwnAt v_ Z A5 L5 c5 (b1.map B)) (HO.o.grow y_);have HG_ := kp (HG.o.grow' y_);have HTO_ := kp (HTO.o.grow y_);clear ho_ hc_ y_ hnb hm2_ HO HG HTO;have HO := HO_; have HG := HG_;clear HO_ HG_;try clear w_
  rename World => w_;have HTO := HTO_;clear HTO_;have HZB := kq (Z ≤ w_.heap.size) (by rw [HZ.o]; exact HG.o.size);go_wp2_with (at_builtin; refine wpl_apps rfl rfl el_u8 HO.o rfl HSL.o rfl HON.o (by omega) (by omega) HZB.o ?_);intro A5 c5 w3_ ho_ hg_ hA_;have hst := acc_step HG.o HZ.o HO.o ho_ hg_;have HTO_ := kp (own_far HTO.o HO.o HNE.o hg_);obtain ⟨L5, hL6_⟩ := xe (L5 + m_);obtain ⟨ac4, hac_⟩ := xe (b1 ++ nb);have hb6_ : L5 ≤ 100 := by omega
  rw [← hL6_, ← hac_] at hst;rw [← hL6_];have Hac4 := kp hac_;have HO_ := kp hst.1; have HG_ := kp hst.2;clear ho_ hg_ hA_ hst hL6_ hac_ HO HG HSL HZB hL5;have hL5 := hb6_;clear hb6_;have HO := HO_; have HG := HG_;clear HO_ HG_;try clear w_
  rename World => w_;clear HTO HNE;have HSL := kp (Sl.of_own HTO_.o);clear HTO_;have HZB := kq (Z ≤ w_.heap.size) (by rw [HZ.o]; exact HG.o.size);go_wp2_with (at_builtin; refine wpl_apps rfl rfl el_u8 HO.o rfl HSL.o rfl HATB.o (by omega) (by omega) HZB.o ?_);intro A5 c5 w3_ ho_ hg_ hA_;have hst := acc_step HG.o HZ.o HO.o ho_ hg_;obtain ⟨L5, hL6_⟩ := xe (L5 + tl);obtain ⟨ac5, hac_⟩ := xe (ac4 ++ tb);have hb6_ : L5 ≤ 3200 := by omega
  rw [← hL6_, ← hac_] at hst;rw [← hL6_];have Hac5 := kp hac_;have HO_ := kp hst.1; have HG_ := kp hst.2;clear ho_ hg_ hA_ hst hL6_ hac_ HO HG HSL HZB hL5;have hL5 := hb6_;clear hb6_;have HO := HO_; have HG := HG_;clear HO_ HG_;try clear w_
  rename World => w_;have HFIN := kq (OwnAt w_ Z A5 L5 c5 (b2.map B)) (by rw [HQ.o, ← HNB.o, ← Hac4.o, ← Hac5.o]; exact HO.o);go_wp2_with fail
  go_meet
  case rel => exact ⟨A5, L5, c5, rfl, by omega, HFIN, HG⟩
 case rest =>
 obtain ⟨A5, L5, c5, rfl, hL5, hO, hG⟩ := hcut;clear HO HG;have HO := kp hO.o; have HG := kp hG.o;clear hO hG;try clear w_
 rename World => w_;have c0 := (HXG.o _ HG.o).blk.at_ X0.o
 go_upto_region 11 with fail
 go_cut [61] from 54 to 60 (fun s_ wr => s_ = .bool hc ∧ Hid (OwnAt wr Z A5 L5 c5 (b2.map B)) ∧ Hid (Grow w6 wr))
 case first =>
  rcases Int.lt_or_le k 4 with hk2 | hk2
  ·have HH := kq (hc = false) (by rw [HHC.o]; unfold hasCK; simp; omega);have y2 : (4 ≤ k) = False := eq_false (by omega);go_wp2_with fail
   go_meet
   case rel => exact ⟨by rw [HH.o], HO, HG⟩
  rcases Int.lt_or_le 6 k with hk6 | hk6
  ·have HH := kq (hc = false) (by rw [HHC.o]; unfold hasCK; simp; omega);have y6 : (k ≤ 6) = False := eq_false (by omega);go_wp2_with fail
   go_meet
   case rel => exact ⟨by rw [HH.o], HO, HG⟩
  have HH := kq (hc = true) (by rw [HHC.o]; unfold hasCK; simp; omega);go_wp2_with fail
  go_meet
  case rel => exact ⟨by rw [HH.o], HO, HG⟩
 case rest =>
 obtain ⟨rfl, hO, hG⟩ := hcut;clear HO HG c0;have HO := kp hO.o; have HG := kp hG.o;clear hO hG;try clear w_
 rename World => w_
 go_upto_if 61 with fail
 go_cut [5, 7, 8] from 62 to 87 (fun s5 s7 s8 wr => ∃ A5 L5 c5, s5 = .slice A5 L5 c5 ∧ L5 ≤ 36000 ∧ Hid (OwnAt wr Z A5 L5 c5 (b3.map B)) ∧ Hid (Grow w6 wr))
 case first =>
  cases hc with
  | false =>
   have HQ := kp (N3.o (by first | trivial | rfl));have HFIN := kq (OwnAt w_ Z A5 L5 c5 (b3.map B)) (by rw [HQ.o]; exact HO.o);go_wp2_with fail
   go_meet
   case rel => exact ⟨A5, L5, c5, rfl, by omega, HFIN, HG⟩
  | true =>
  have HQ := kp (T3.o (by first | trivial | rfl));have k5_ := (HXG.o _ HG.o).blk.at_ X5.o;go_wp2_with fail;refine (rnum24N_any n3 _ (by omega)).mono ?_;rintro e v_ ⟨A7, c7, rfl, ho_, hc_, y_⟩;obtain ⟨nb, hnb⟩ := xe (numB n3);have HNB := kp hnb;have hm_ : nb.length ≤ 9 := by rw [hnb]; exact numB_le (by omega)
  rw [← hnb] at ho_ ⊢;obtain ⟨m_, hm2_⟩ := xe nb.length;rw [← hm2_] at ho_ hm_ ⊢;have HSL := kp (Sl.of_own ho_); have HON := kp (all_bytes nb);replace HO := kq (OwnAt v_ Z A5 L5 c5 (b2.map B)) (HO.o.grow y_);replace HG := kp (HG.o.grow' y_);clear ho_ hc_ y_ hnb hm2_ k5_;try clear w_
  rename World => w_;have HZB := kq (Z ≤ w_.heap.size) (by rw [HZ.o]; exact HG.o.size);go_wp2_with (at_builtin; refine wpl_apps rfl rfl el_u8 HO.o rfl HSL.o rfl HON.o (by omega) (by omega) HZB.o ?_);intro A5 c5 w3_ ho_ hg_ hA_;have hst := acc_step HG.o HZ.o HO.o ho_ hg_;obtain ⟨L5, hL6_⟩ := xe (L5 + m_);obtain ⟨ac6, hac_⟩ := xe (b2 ++ nb);have hb6_ : L5 ≤ 3220 := by omega
  rw [← hL6_, ← hac_] at hst;rw [← hL6_];have Hac6 := kp hac_;have HO_ := kp hst.1; have HG_ := kp hst.2;clear ho_ hg_ hA_ hst hL6_ hac_ HO HG HSL HZB hL5;have hL5 := hb6_;clear hb6_;have HO := HO_; have HG := HG_;clear HO_ HG_;try clear w_
  rename World => w_;go_wp2_with fail;go_loopw [5, 7] (fun s5 s7 wr => ∃ j : Nat, ∃ A5 L5 c5, j ≤ n3 ∧ s5 = .slice A5 L5 c5 ∧ s7 = .int .i64 j ∧ L5 ≤ 3220 + j * 2009 ∧ Hid (OwnAt wr Z A5 L5 c5 ((ac6 ++ (crs.take j).flatMap certText).map B)) ∧ Hid (Grow w6 wr)) (fun _ s7 _ => n3 - (intOf s7).toNat)
  case atStart => exact ⟨0, A5, L5, c5, by omega, rfl, rfl, by omega, kp (by simpa using HO.o), HG⟩
  case round =>
   obtain ⟨j, A5, L5, c5, hj, rfl, rfl, hL5_, hO, hG⟩ := hrel;clear HO HG hL5;have hL5 := hL5_;clear hL5_;have HO := kp hO.o; have HG := kp hG.o;clear hO hG;rename World => w_;have c5_ := (HXG.o _ HG.o).blk.at_ X5.o;by_cases hlt : j < n3
   ·obtain ⟨b, off, p, P1_, pn, pcp, rfl, hp, hp1, hok, hid, hbl, hcc⟩ := (HCA.o w (Below.refl _ _)).at_ hlt;have HPX := kq (crs[j]? = some p.2) (by rw [HCE.o, List.getElem?_map, hp]; rfl);have HSN := kp (fm_snoc certText HPX.o);have HPC := kp (cerV_cl (v := .slice P1_ pn pcp) rfl hok);have HB := kp (HBG.o _ HG.o);have HC := kq (∀ i u, (certV (.slice P1_ pn pcp) p.2)[i]? = some u → w_.cell? ⟨b, off + j * 137 + i, none⟩ = some u) (fun i u hu => bcell HB.o (hcc i u hu));have HL1 := kp (HCT2.o _ (List.mem_of_getElem? HPX.o));have HPT := kq (pn ≤ 1000) (by rw [← hid.2.1]; exact HPL.o _ (List.mem_of_getElem? HPX.o));have HPUT := kp (fun (w' : World) (hg : Grow w w') => rcputo_any (A2 := P1_) (n2 := pn) (c2 := pcp) w' hok HPT.o (hid.grow hg));obtain ⟨cb, hcb⟩ := xe (putCB p.2);have HCB := kq (certText p.2 = numB cb.length ++ cb) (by rw [hcb]; rfl);rw [HCB.o] at HSN HL1;rw [← hcb] at HPUT;have HACB := kp (all_bytes cb);obtain ⟨pv, hpv⟩ := xe (certV (.slice P1_ pn pcp) p.2);rw [← hpv] at HPC HC HPUT;obtain ⟨xs, hxs⟩ := xe (ac6 ++ (crs.take j).flatMap certText);have HXE := kp hxs;rw [← hxs] at HO;obtain ⟨tl2, htl2⟩ := xe cb.length;rw [← htl2] at HSN HL1 HPUT;have hlc : (numB tl2).length + tl2 ≤ 2009 := by have := HL1.o; rw [List.length_append, ← htl2] at this; exact this
    clear hp hp1 hok hid hbl hcc hcb hpv hxs HPT HL1 htl2 HB;go_wp2_with (with_reducible refine wlm 79 row_cert HC.o HPC.o.len ?_);refine (HPUT.o _ (HBG.o _ HG.o)).mono ?_;rintro e v_ ⟨TA, TC, rfl, ho_, hc_, y_⟩;have HTO := kp ho_;have HO_ := kq (OwnAt v_ Z A5 L5 c5 (xs.map B)) (HO.o.grow y_);have HG_ := kp (HG.o.grow' y_);obtain ⟨zb, hzb⟩ := xe w_.heap.size;have HNE := kq (∀ b, A5.map Addr.block = some b → b < zb) (fun b hb => by rw [hzb]; exact own_lt HO.o b hb);rw [← hzb] at HTO;clear ho_ hc_ y_ HO HG HC HPUT hzb c5_;have HO := HO_; have HG := HG_;clear HO_ HG_;try clear w_
    rename World => w_;have hnl : (numB tl2).length ≤ 9 := numB_le (by omega);go_wp2_with fail;refine (rnum24N_any tl2 _ (by omega)).mono ?_;rintro e v_ ⟨A7, c7, rfl, ho_, hc_, y_⟩;obtain ⟨nb, hnb⟩ := xe (numB tl2);have HNB := kp hnb;have hm_ : nb.length ≤ 9 := by rw [hnb]; exact numB_le (by omega)
    rw [← hnb] at ho_ ⊢;obtain ⟨m_, hm2_⟩ := xe nb.length;rw [← hm2_] at ho_ hm_ ⊢;have HSL := kp (Sl.of_own ho_); have HON := kp (all_bytes nb);have HO_ := kq (OwnAt v_ Z A5 L5 c5 (xs.map B)) (HO.o.grow y_);have HG_ := kp (HG.o.grow' y_);have hmq_ : m_ + tl2 ≤ 2009 := by rw [hm2_, hnb]; exact hlc
    have HTO_ := kp (HTO.o.grow y_);clear ho_ hc_ y_ hnb hm2_ HO HG HTO hlc hnl;have HO := HO_; have HG := HG_;clear HO_ HG_;try clear w_
    rename World => w_;have HTO := HTO_;clear HTO_;have HZB := kq (Z ≤ w_.heap.size) (by rw [HZ.o]; exact HG.o.size);go_wp2_with (at_builtin; refine wpl_apps rfl rfl el_u8 HO.o rfl HSL.o rfl HON.o (by omega) (by omega) HZB.o ?_);intro A5 c5 w3_ ho_ hg_ hA_;have hst := acc_step HG.o HZ.o HO.o ho_ hg_;have HTO_ := kp (own_far HTO.o HO.o HNE.o hg_);obtain ⟨L5, hL6_⟩ := xe (L5 + m_);obtain ⟨ac7, hac_⟩ := xe (xs ++ nb);have hb6_ : L5 ≤ 3220 + j * 2009 + m_ := by omega
    rw [← hL6_, ← hac_] at hst;rw [← hL6_];have Hac7 := kp hac_;have HO_ := kp hst.1; have HG_ := kp hst.2;clear ho_ hg_ hA_ hst hL6_ hac_ HO HG HSL HZB hL5;have hL5 := hb6_;clear hb6_;have HO := HO_; have HG := HG_;clear HO_ HG_;try clear w_
    rename World => w_;clear HTO HNE;have HSL := kp (Sl.of_own HTO_.o);clear HTO_;have HZB := kq (Z ≤ w_.heap.size) (by rw [HZ.o]; exact HG.o.size);go_wp2_with (at_builtin; refine wpl_apps rfl rfl el_u8 HO.o rfl HSL.o rfl HACB.o (by omega) (by omega) HZB.o ?_);intro A5 c5 w3_ ho_ hg_ hA_;have hst := acc_step HG.o HZ.o HO.o ho_ hg_;obtain ⟨L5, hL6_⟩ := xe (L5 + tl2);obtain ⟨ac8, hac_⟩ := xe (ac7 ++ cb);have hb6_ : L5 ≤ 3220 + (j + 1) * 2009 := by omega
    rw [← hL6_, ← hac_] at hst;rw [← hL6_];have Hac8 := kp hac_;have HO_ := kp hst.1; have HG_ := kp hst.2;clear ho_ hg_ hA_ hst hL6_ hac_ HO HG HSL HZB hL5;have hL5 := hb6_;clear hb6_;have HO := HO_; have HG := HG_;clear HO_ HG_;try clear w_
    rename World => w_
    have HFIN := kp (show OwnAt w_ Z A5 L5 c5 ((ac6 ++ (crs.take (j + 1)).flatMap certText).map B) by
     rw [HSN.o, ← HNB.o, ← List.append_assoc, ← HXE.o, ← List.append_assoc, ← Hac7.o, ← Hac8.o]; exact HO.o)
    go_wp2_with fail;go_roundw
    case rel => exact ⟨j + 1, A5, L5, c5, by omega, rfl, by go_num, by omega, HFIN, HG⟩
    case measure => simp [intOf]; omega
   ·obtain rfl : j = n3 := by omega
    have HFIN := kp (show OwnAt w_ Z A5 L5 c5 (b3.map B) from by
     have h := HO.o;rw [List.take_of_length_le (by rw [HCL.o]; exact Nat.le_refl _)] at h
     rw [HQ.o, ← HNB.o, ← Hac6.o]; exact h)
    go_wp2_with fail
    go_meet
    case rel => exact ⟨A5, L5, c5, rfl, by omega, HFIN, HG⟩
 case rest =>
 obtain ⟨A5, L5, c5, rfl, hL5, hO, hG⟩ := hcut;clear HO HG;have HO := kp hO.o; have HG := kp hG.o;clear hO hG;try clear w_
 rename World => w_;have c0 := (HXG.o _ HG.o).blk.at_ X0.o;obtain ⟨e7, he_⟩ : ∃ z : Bool, (k == 7) = z := ⟨_, rfl⟩;have HE_ := kp he_
 go_upto_if 90 with fail
 go_cut [5] from 91 to 95 (fun s5 wr => ∃ A5 L5 c5, s5 = .slice A5 L5 c5 ∧ L5 ≤ 36010 ∧ Hid (OwnAt wr Z A5 L5 c5 (b4.map B)) ∧ Hid (Grow w6 wr))
 case first =>
  clear he_ c0;cases e7 with
  | false =>
   have HQ := kp (N4.o (by have := HE_.o; simpa using this));have HFIN := kq (OwnAt w_ Z A5 L5 c5 (b4.map B)) (by rw [HQ.o]; exact HO.o);go_wp2_with fail
   go_meet
   case rel => exact ⟨A5, L5, c5, rfl, by omega, HFIN, HG⟩
  | true =>
   have HQ := kp (T4.o (by have := HE_.o; simpa using this));have c40 := (HXG.o _ HG.o).blk.at_ X40.o;go_wp2_with fail;refine (rnum24_any ep _ (by omega) (by omega)).mono ?_;rintro e v_ ⟨A7, c7, rfl, ho_, hc_, y_⟩;obtain ⟨nb, hnb⟩ := xe (numB ep.toNat);have HNB := kp hnb;have hm_ : nb.length ≤ 9 := by rw [hnb]; exact numB_le (by omega)
   rw [← hnb] at ho_ ⊢;obtain ⟨m_, hm2_⟩ := xe nb.length;rw [← hm2_] at ho_ hm_ ⊢;have HSL := kp (Sl.of_own ho_); have HON := kp (all_bytes nb);replace HO := kq (OwnAt v_ Z A5 L5 c5 (b3.map B)) (HO.o.grow y_);replace HG := kp (HG.o.grow' y_);clear ho_ hc_ y_ hnb hm2_ c40;try clear w_
   rename World => w_;have HZB := kq (Z ≤ w_.heap.size) (by rw [HZ.o]; exact HG.o.size);go_wp2_with (at_builtin; refine wpl_apps rfl rfl el_u8 HO.o rfl HSL.o rfl HON.o (by omega) (by omega) HZB.o ?_);intro A5 c5 w3_ ho_ hg_ hA_;have hst := acc_step HG.o HZ.o HO.o ho_ hg_;obtain ⟨L5, hL6_⟩ := xe (L5 + m_);obtain ⟨ac9, hac_⟩ := xe (b3 ++ nb);have hb6_ : L5 ≤ 36010 := by omega
   rw [← hL6_, ← hac_] at hst;rw [← hL6_];have Hac9 := kp hac_;have HO_ := kp hst.1; have HG_ := kp hst.2;clear ho_ hg_ hA_ hst hL6_ hac_ HO HG HSL HZB hL5;have hL5 := hb6_;clear hb6_;have HO := HO_; have HG := HG_;clear HO_ HG_;try clear w_
   rename World => w_;have HFIN := kq (OwnAt w_ Z A5 L5 c5 (b4.map B)) (by rw [HQ.o, ← HNB.o, ← Hac9.o]; exact HO.o);go_wp2_with fail
   go_meet
   case rel => exact ⟨A5, L5, c5, rfl, by omega, HFIN, HG⟩
 case rest =>
 obtain ⟨A5, L5, c5, rfl, hL5, hO, hG⟩ := hcut;clear HO HG;have HO := kp hO.o; have HG := kp hG.o;clear hO hG;try clear w_
 rename World => w_;clear he_ c0 HE_;have c0 := (HXG.o _ HG.o).blk.at_ X0.o;obtain ⟨e9, he_⟩ : ∃ z : Bool, (k == 9) = z := ⟨_, rfl⟩;have HE_ := kp he_
 go_upto_if 98 with fail
 go_cut [5] from 99 to 103 (fun s5 wr => ∃ A5 L5 c5, s5 = .slice A5 L5 c5 ∧ L5 ≤ 36100 ∧ Hid (OwnAt wr Z A5 L5 c5 (pc.map B)) ∧ Hid (Grow w6 wr))
 case first =>
  clear he_ c0;cases e9 with
  | false =>
   have HQ := kp (N5.o (by have := HE_.o; simpa using this));have HFIN := kq (OwnAt w_ Z A5 L5 c5 (pc.map B)) (by rw [HQ.o]; exact HO.o);go_wp2_with fail
   go_meet
   case rel => exact ⟨A5, L5, c5, rfl, by omega, HFIN, HG⟩
  | true =>
   have HQ := kp (T5.o (by have := HE_.o; simpa using this));have FI := kq (∀ j u, md[j]? = some u → w_.cell? ⟨g1, 41 + j, none⟩ = some u) (fun j u hu => (HXG.o _ HG.o).blk.at_ (XI.o j u hu));go_wp2_with (with_reducible refine wlm 101 row_aid FI.o HDI.o.len ?_);refine (tbytes_any HDI.o _).mono ?_;rintro e v_ ⟨A7, c7, rfl, hs_, hc_, y_⟩;have HSL := kp hs_;replace HO := kq (OwnAt v_ Z A5 L5 c5 (b4.map B)) (HO.o.grow y_);replace HG := kp (HG.o.grow' y_);clear hs_ hc_ y_ FI;try clear w_
   rename World => w_;have HZB := kq (Z ≤ w_.heap.size) (by rw [HZ.o]; exact HG.o.size);go_wp2_with (at_builtin; refine wpl_apps rfl rfl el_u8 HO.o rfl HSL.o rfl HAI.o (by omega) (by omega) HZB.o ?_);intro A5 c5 w3_ ho_ hg_ hA_;have hst := acc_step HG.o HZ.o HO.o ho_ hg_;obtain ⟨L5, hL6_⟩ := xe (L5 + 32);obtain ⟨ac10, hac_⟩ := xe (b4 ++ mid);have hb6_ : L5 ≤ 36100 := by omega
   rw [← hL6_, ← hac_] at hst;rw [← hL6_];have Hac10 := kp hac_;have HO_ := kp hst.1; have HG_ := kp hst.2;clear ho_ hg_ hA_ hst hL6_ hac_ HO HG HSL HZB hL5;have hL5 := hb6_;clear hb6_;have HO := HO_; have HG := HG_;clear HO_ HG_;try clear w_
   rename World => w_;have HFIN := kq (OwnAt w_ Z A5 L5 c5 (pc.map B)) (by rw [HQ.o, ← Hac10.o]; exact HO.o);go_wp2_with fail
   go_meet
   case rel => exact ⟨A5, L5, c5, rfl, by omega, HFIN, HG⟩
 case rest =>
 obtain ⟨A5, L5, c5, rfl, hL5, hO, hG⟩ := hcut;clear HO HG;have HO := kp hO.o; have HG := kp hG.o;clear hO hG;try clear w_
 rename World => w_;clear he_ c0 HE_;have HLE := kq (L5 = pc.length) (by have := (Sl.of_own HO.o).len; simp at this; omega);have HO5 := kp (own_base HO.o (show w.heap.size ≤ Z by rw [HZ.o]; exact (HBG.o _ (Below.refl _ _)).size));have HC5 := kp (own_cap1 HO.o);have HB6 := kp (HBG.o _ HG.o);clear HO HG;by_cases h8 : 8192 < L5
 ·have HNI := kp (F22.o (by rw [← HLE.o]; exact h8));have y8 : (8192 : Int) < (L5 : Int) := by omega
  go_wp2_with fail
  go_ret2
  exact ⟨none, 0, by rw [HNI.o]; rfl, by rw [HNI.o]; exact World.ownsRow_nil _ _ _ _, by rw [HNI.o]; exact Nat.le_refl _, HB6.o⟩
 ·have HNI := kp (F32.o (by rw [← HLE.o]; exact h8));have y8 := lt_fe (a := 8192) (b := (L5 : Int)) (by omega);go_wp2_with fail
  go_ret2
  exact ⟨A5, c5, by rw [HNI.o, HLE.o]; rfl, by rw [HNI.o]; rw [← HLE.o]; exact HO5.o, by rw [HNI.o]; rw [← HLE.o]; exact HC5.o, HB6.o⟩
end Go.Proofs.YtiijepimkgaccaaGreat

/- The contract of command.Put. Printed by mkcmdg.py. -/
import Derived.Test.YtiijepimkgaccaaGreatCommandLongRe32
import Derived.Test.YtiijepimkgaccaaGreatCommandLongRe34
import Derived.Test.YtiijepimkgaccaaGreatCommandLongRe25
set_option linter.unusedSimpArgs false
set_option linter.unusedVariables false
set_option maxRecDepth 100000
set_option maxHeartbeats 16000000
namespace Go.Proofs.YtiijepimkgaccaaGreat
open Go.RowKit Go.Shelf
theorem own_kr {w w' : World} {gp z n c : Nat} {A : Option Addr} {xs : List Value} (ho : OwnAt w z A n c xs) (hk : Kept (KR gp z w.heap.size) w w') : Sl w' w'.heap.size 1 A n xs := by
 have h := Sl.of_own ho;refine ⟨h.1, fun hn => ?_⟩;obtain ⟨b, off, e, hb, hc⟩ := h.2 hn;have h1 : z ≤ b := own_from ho b (by rw [e]; rfl);exact ⟨b, off, e, Nat.lt_of_lt_of_le hb hk.size, fun j u hu => (World.cell?_of_block (a := ⟨b, off + j, none⟩) (hk.block b (.inr ⟨h1, hb⟩))).trans (hc j u hu)⟩
theorem ptexto_any (gp : Nat) (xs : List UInt8) {A : Option Addr} {n c : Nat} {bs : List UInt8} (w0 w : World) (h : PenAt w0 (KR gp 0 0) gp xs) (hg : Grow w0 w) (hbn : bs.length = n) (ho : OwnAt w w0.heap.size A n c (bs.map B)) (hl : xs.length + n ≤ 900000) :
  Calls Tryz.prog 23 #[.pointer (some ⟨gp, 0, none⟩), .slice A n c] w fun e w' => e = .returned (.tuple #[]) ∧ PenAt w' (KR gp 0 0) gp (xs ++ (numB n ++ bs)) ∧ Kept (KR gp 0 0) w w' :=
 (ptextk_any gp (KR gp w0.heap.size w.heap.size) xs w (h.more hg (fun j hj => by rcases hj with h | h; exact .inl (.inl h); exact .inr h)) hbn (fun w' hk => own_kr ho hk) hl).mono
   fun e w' ⟨h1, h2, h3⟩ => ⟨h1, h2.less (fun j hj => by rcases hj with h | h; exact .inl h; omega), h3.mono (fun j hj => by rcases hj with h | h; exact .inl h; omega)⟩
theorem num_anyI (g : Nat) (N : Int) (K : Nat → Prop) (xs : List UInt8) (w : World) (h : PenAt w K g xs) (hl : xs.length ≤ 1000000) (h0 : 0 ≤ N) (hN : N ≤ 18446744073709551615) :
  Calls Tryz.prog 19 #[.pointer (some ⟨g, 0, none⟩), .int .u64 N] w fun e w' => e = .returned (.tuple #[]) ∧ PenAt w' K g (xs ++ numB N.toNat) ∧ Kept K w w' := by
 have := num_any g N.toNat K xs w h hl (by omega);rw [Int.toNat_of_nonneg h0] at this; exact this
theorem KB.keptR {gp : Nat} {w4 w w2 : World} (h : KB gp w4 w) (k : Kept (KR gp 0 0) w w2) : KB gp w4 w2 := ⟨h.1.trans (k.below (fun j hj => .inl hj)), h.2⟩
theorem convI {k : Int} (h0 : 0 ≤ k) (h : k ≤ 18446744073709551615) : IntKind.u64.wrap k = k := by rw [IntKind.wrap_u64]; omega
theorem putCB_leC {x : Cer} (hx : x.ok) (hp : x.path.length ≤ 32) : (putCB x).length ≤ 2000 := by
 have l1 := eformB_le hx.1; have l2 := hformB_le hx.2.2.1; have l3 := hx.2.2.2;have n1 := numB_le (n := (eformB x.e).length) (by omega); have n2 := numB_le (n := x.path.length) (by omega); have n3 := numB_le (n := (hformB x.h).length) (by omega);have fl := flat_32 x.path hx.2.1;unfold putCB;simp only [List.length_append];omega
theorem checkC_zero {m : Cmd} (h : checkC m = 0) : (1 ≤ m.kind ∧ m.kind ≤ 9) ∧ (0 ≤ m.serial ∧ m.serial ≤ 1099511627776 ∧ m.dest.amount ≤ 4611686018427387904 ∧ 0 ≤ m.epoch ∧ m.epoch ≤ 1099511627776) ∧ m.certs.length ≤ 16 ∧ (hasTxK m.kind = true → checkT m.tx = 0) ∧ (∀ x ∈ m.certs, badCert x = false) ∧ (hasCK m.kind = false → m.certs = []) ∧ (wrong1 m || wrong2 m) = false := by
 unfold checkC at h;split at h
 ·cases h
 rename_i h1;split at h
 ·cases h
 rename_i h2;split at h
 ·cases h
 rename_i h3;split at h
 ·rename_i h4;rw [h] at h4; simp at h4
 rename_i h4;split at h
 ·cases h
 rename_i h5;simp only [Bool.or_eq_true, not_or, Bool.not_eq_true] at h2;obtain ⟨⟨ha, hb⟩, hc⟩ := h2;have hb0 := hb;unfold wrong3 at hc;simp only [Bool.or_eq_false_iff, decide_eq_false_iff_not] at hc;unfold wrong2 at hb;simp only [Bool.or_eq_false_iff, Bool.and_eq_false_iff, Bool.not_eq_false', Bool.not_eq_eq_eq_not, Bool.not_false, List.isEmpty_iff] at hb;refine ⟨by omega, by omega, by omega, fun hk => ?_, fun x hx => ?_, fun hk => ?_, by rw [ha, hb0]; rfl⟩
 ·rw [hk] at h4;simpa using h4
 ·simp only [Bool.not_eq_true] at h5;exact List.any_eq_false.1 h5 x hx |> (by simpa using ·)
 ·rcases hb.2 with h | h
  ·rw [hk] at h; cases h
  ·exact h
theorem certText_le {x : Cer} (hx : x.ok) (hb : badCert x = false) : (certText x).length ≤ 2009 := by
 have hp : x.path.length ≤ 32 := by unfold badCert at hb; simp at hb; omega
 have h := putCB_leC hx hp;have h2 := numB_le (n := (putCB x).length) (by omega);unfold certText; rw [List.length_append]; omega
theorem cmput_any {q : CW} {m : Cmd} (w : World) (h : CmdAt w q m) (hs : SmallC m) :
  Calls Tryz.prog 7 #[.agg (q.vs m).toArray] w fun e w' => ∃ A' c', e = .returned (.tuple #[.slice A' (formC m).1.length c', .int .i64 (formC m).2]) ∧ OwnAt w' w.heap.size A' (formC m).1.length c' ((formC m).1.map B) ∧ (formC m).1.length ≤ c' ∧ Grow w w' := by
 have HXC := kp (vs_cl (q := q) h.ok);have X0 := kp (vs_kind q m); have X5 := kp (vs_certs q m);have X39 := kp (vs_serial (q := q) h.ok.2.2.2.1); have X40 := kp (vs_epoch (q := q) h.ok.2.2.2.1);have XA := kq ((q.vs m)[38]? = some (.int .u64 m.dest.amount)) (vs_to (j := 32) (by unfold outV; rw [List.getElem?_append_right (by simp [h.ok.2.2.2.1.1])]; simp [h.ok.2.2.2.1.1]));have XO := kp (fun j u (hu : (m.dest.owner.map B)[j]? = some u) => vs_to (q := q) (m := m) (j := j) (u := u) (by unfold outV; rw [List.getElem?_append_left (List.getElem?_eq_some_iff.1 hu).1]; exact hu));have XI := kp (fun j u (hu : (m.id.map B)[j]? = some u) => vs_id (q := q) h.ok.2.2.2.1 hu);have XX := kp (fun j u (hu : (q.tv m)[j]? = some u) => vs_tx hu);have LX := kq ((q.tv m).length = 4) rfl;have HDO := kp (dig_map h.ok.2.2.2.1.1); have HDI := kp (dig_map h.ok.2.2.2.2.2.2);have HAM := kq (0 ≤ m.dest.amount ∧ m.dest.amount ≤ 18446744073709551615) (by have := h.ok.2.2.2.1.2; unfold U64 at this; omega);have HLO := kq (m.dest.owner.length = 32) h.ok.2.2.2.1.1; have HLI := kq (m.id.length = 32) h.ok.2.2.2.2.2.2;have hn3 : m.certs.length = q.n3 := h.n3;have HCK := kp (fun w' (hg : Grow w w') => cmcheck_any w' (h.grow hg) hs);have HHT := kp (fun w' => hastx_any m.kind w'); have HHC := kp (fun w' => hasc_any m.kind w')
 have HTP := kp (fun (w' : World) (hg : Grow w w') => show Calls Tryz.prog 22 #[.agg (q.tv m).toArray] w' fun e w'' => ∃ A' c', e = .returned (.tuple #[.slice A' (tformB m.tx).length c', .int .i64 (checkT m.tx)]) ∧ OwnAt w'' w'.heap.size A' (tformB m.tx).length c' ((tformB m.tx).map B) ∧ (tformB m.tx).length ≤ c' ∧ Grow w' w'' from by
  have := tputo_any w' (h.ins.grow hg) (h.outs.grow hg) (by rw [← h.n1]; exact Nat.le_trans hs.1 (by decide)) (by rw [← h.n2]; exact Nat.le_trans hs.2.1 (by decide)) h.ok.2.1.2.2.1 h.ok.2.1.2.2.2
  rw [h.tx] at this; exact this)
 have HCA := kp (fun (w' : World) (hg : Grow w w') => h.certs.grow hg);have HCE := kp h.certsE;have HPL := kq (∀ x ∈ m.certs, x.path.length ≤ 1000) hs.2.2.2.2;have HZ := kq (checkC m = 0 → _) (fun e => checkC_zero (m := m) e)
 have HTL := kp (show hasTxK m.kind = true → checkC m = 0 → tformB m.tx = putTB m.tx ∧ (putTB m.tx).length ≤ 3000 from fun h1 h2 => by
  have h3 := (checkC_zero h2).2.2.2.1 h1
  exact ⟨by unfold tformB; rw [if_pos h3], putTB_le h.ok.2.1 h3⟩)
 have HCT := kq (checkC m = 0 → ∀ x ∈ m.certs, (certText x).length ≤ 2009) (fun h1 x hx => certText_le (h.ok.2.2.1 x hx) ((checkC_zero h1).2.2.2.2.1 x hx));have F1 := kq (checkC m ≠ 0 → formC m = ([], checkC m)) (fun e => by unfold formC; rw [if_pos e]);have F2 := kq (checkC m = 0 → 8192 < (putCm m).length → formC m = ([], 4)) (fun e e2 => by unfold formC; rw [if_neg (by simp [e]), if_pos e2]);have F3 := kq (checkC m = 0 → ¬ 8192 < (putCm m).length → formC m = (putCm m, 0)) (fun e e2 => by unfold formC; rw [if_neg (by simp [e]), if_neg e2]);have P1 := kq (m.kind = 1 → putCm m = numB m.kind.toNat ++ numB m.serial.toNat ++ m.dest.owner ++ numB m.dest.amount.toNat) (fun e => by unfold putCm txPart certPart hasTxK hasCK; rw [e]; simp)
 have PT := kp (show hasTxK m.kind = true → checkC m = 0 → putCm m = numB m.kind.toNat ++ (numB (tformB m.tx).length ++ tformB m.tx) ++ (if hasCK m.kind then numB q.n3 else []) ++ m.certs.flatMap certText from fun e e0 => by
  have h1 := HTL.o e e0;have h2 := (checkC_zero e0).2.2.2.2.2.1;unfold putCm txPart certPart;rw [if_pos e, h1.1];have e2 : 2 ≤ m.kind ∧ m.kind ≤ 6 := by unfold hasTxK at e; simp at e; omega
  rw [if_neg (show ¬ m.kind = 1 by omega), if_neg (show ¬ m.kind = 7 by omega), if_neg (show ¬ m.kind = 9 by omega), hn3];cases hc : hasCK m.kind with
  | true => simp
  | false => rw [h2 hc]; simp)
 have P7 := kq (m.kind = 7 → putCm m = numB m.kind.toNat ++ numB m.epoch.toNat) (fun e => by unfold putCm txPart certPart hasTxK hasCK; rw [e]; simp);have P9 := kq (m.kind = 9 → putCm m = numB m.kind.toNat ++ m.id) (fun e => by unfold putCm txPart certPart hasTxK hasCK; rw [e]; simp)
 have P8 := kp (show m.kind ≠ 1 → hasTxK m.kind = false → m.kind ≠ 7 → m.kind ≠ 9 → putCm m = numB m.kind.toNat from fun e1 e2 e3 e4 => by
  have e5 : hasCK m.kind = false := by unfold hasTxK at e2; unfold hasCK; simp at e2 ⊢; omega
  unfold putCm txPart certPart; rw [e2, e5, if_neg e1, if_neg e3, if_neg e4]; simp)
 obtain ⟨ck, hck⟩ := xe (checkC m);obtain ⟨pc, hpc⟩ := xe (putCm m);obtain ⟨fm, hfm⟩ := xe (formC m);obtain ⟨tb, htb⟩ := xe (tformB m.tx);obtain ⟨tk, htk⟩ := xe (checkT m.tx);rw [← hck] at HCK HZ HTL HCT F1 F2 F3 PT;rw [← hpc] at F2 F3 P1 PT P7 P9 P8;rw [← hfm] at F1 F2 F3 ⊢;rw [← htb] at HTP HTL PT; rw [← htk] at HTP;have HTB := kq (hasTxK m.kind = true → ck = 0 → tb.length ≤ 3000) (fun h1 h2 => by rw [(HTL.o h1 h2).1]; exact (HTL.o h1 h2).2);obtain ⟨xv, hxv⟩ := xe (q.vs m);obtain ⟨tv, htv⟩ := xe (q.tv m);obtain ⟨crs, hcrs⟩ := xe m.certs;rw [← hxv] at HXC X0 X5 X39 X40 XA XO XI XX HCK ⊢;rw [← htv] at XX LX HTP;have HCL := kq (crs.length = q.n3) (by rw [hcrs]; exact hn3);have HC16 := kq (ck = 0 → q.n3 ≤ 16) (fun e => by rw [← hn3]; exact (HZ.o e).2.2.1);rw [← hcrs] at HCE HPL HCT PT;have HRG := kq (ck = 0 → (1 ≤ m.kind ∧ m.kind ≤ 9) ∧ (0 ≤ m.serial ∧ m.serial ≤ 1099511627776 ∧ 0 ≤ m.epoch ∧ m.epoch ≤ 1099511627776)) (fun e => ⟨(HZ.o e).1, by have := (HZ.o e).2.1; omega⟩);clear HZ HTL;obtain ⟨own, hown⟩ := xe m.dest.owner;obtain ⟨mid, hmid⟩ := xe m.id;rw [← hown] at XO HDO HLO P1; rw [← hmid] at XI HDI HLI P9;obtain ⟨k, hk⟩ := xe m.kind;obtain ⟨se, hse⟩ := xe m.serial;obtain ⟨ep, hep⟩ := xe m.epoch;obtain ⟨am, ham⟩ := xe m.dest.amount;rw [← hk] at X0 HHT HHC HTB HRG P1 PT P7 P9 P8; rw [← hse] at X39 HRG P1; rw [← hep] at X40 HRG P7; rw [← ham] at XA HAM P1;obtain ⟨A, n, c, A2, n2, c2, A3, n3, c3, l, cl⟩ := q;simp only at X5 HCA HCE PT HCL HC16;clear h hs hn3 hck hpc hfm htb htk hxv htv hcrs hown hmid hk hse hep ham;refine bq (fun w_ HB => ?_)
 go_enter Tryz.func7, Tryz.ntmps7
 go_wp2_with (with_reducible refine wbx 1 ?_);intro v_ b_ y_ hsz2_;have HX_ := kp (at_mk b_ HXC.o.len);clear b_ hsz2_;have HG_ := kp HB.o.size;replace HB := kp (HB.o.grow' y_);generalize hg_ : w_.heap.size = g1 at HX_ HG_ ⊢;clear hg_;have HX_g := HG_;clear HG_;have HX := HX_;clear y_ HX_;try clear w_
 rename World => w_;go_wp2_with (with_reducible refine wlb 11 row_cmd HX.o.blk HX.o.len ?_);refine (HCK.o _ HB.o).mono ?_;rintro e w_ ⟨rfl, y_⟩;replace HB := kp (HB.o.grow' y_);replace HX := kp (HX.o.grow y_);clear y_;by_cases h0 : ck = 0
 rotate_left
 ·have d0 : (ck != 0) = true := by simpa using h0
  have HNI := kp (F1.o h0);clear h0;go_wp2_with fail
  go_ret2
  exact ⟨none, 0, by rw [HNI.o]; rfl, by rw [HNI.o]; exact World.ownsRow_nil _ _ _ _, by rw [HNI.o]; exact Nat.le_refl _, HB.o⟩
 obtain ⟨⟨hk1, hk9⟩, hse0, hse1, hep0, hep1⟩ := HRG.o h0;have hn16 : n3 ≤ 16 := HC16.o h0;have HCT2 := kp (HCT.o h0);have HTB2 := kp (fun e => HTB.o e h0);have PT2 := kp (fun e => PT.o e h0);have F22 := kp (F2.o h0); have F32 := kp (F3.o h0);have d0 : (ck != 0) = false := by simpa using h0
 clear HCK HRG HC16 HCT HTB PT F1 F2 F3 h0;go_wp2_with (with_reducible refine wal 5 zero_pen ?_);clear d0;intro w4 hb4 hbw4 hsz4;obtain ⟨gp, hgp⟩ := xe w_.heap.size;have HG1 := kq (g1 < gp ∧ w.heap.size ≤ gp) (by have h1 := HX.o.lt; have h2 := HB.o.size; omega);have HX4 := kp (HX.o.grow hbw4);have HB4 := kp (HB.o.grow' hbw4);rw [← hgp] at hb4 hsz4 ⊢;have HP := kq (PenAt w4 (KR gp 0 0) gp []) (PenAt.new hb4 (fun k hk => by rcases hk with h | h; omega; omega));have HKB := kq (KB gp w4 w4) ⟨Below.refl _ _, by omega⟩;have HXB := kq (∀ w', KB gp w4 w' → At w' g1 36 73 xv) (fun w' h => ⟨HX4.o.blk.below h.1 HG1.o.1, HX4.o.len⟩);have HBB := kq (∀ w', KB gp w4 w' → Below w.heap.size w w') (fun w' h => HB4.o.trans (h.1.mono HG1.o.2));clear hb4 hbw4 hsz4 hgp HX HB HX4;have c0 := (HXB.o _ HKB.o).blk.at_ X0.o;have qk := convI (k := k) (by omega) (by omega);go_wp2_with fail;refine (num_anyI gp k (KR gp 0 0) [] _ HP.o (by simp) (by clear qk; omega) (by clear qk; omega)).mono ?_;rintro e v_ ⟨rfl, hp_, hk_⟩;have HP_ := kp hp_;have HKB_ := kp (HKB.o.keptR hk_);clear hp_ hk_ HP HKB;have HP := HP_; have HKB := HKB_;clear HP_ HKB_;try clear w_
 rename World => w_;clear c0 qk;obtain ⟨p0, hp0⟩ := xe (numB k.toNat);have hl0 : p0.length ≤ 9 := by rw [hp0]; exact numB_le (by omega)
 replace HP := kq (PenAt w_ (KR gp 0 0) gp p0) (by rw [hp0]; exact HP.o);rw [← hp0] at P1 PT2 P7 P9 P8;clear hp0;have c0 := (HXB.o _ HKB.o).blk.at_ X0.o
 go_upto_block 0 with fail
 go_cut [] from 6 (fun wr => Hid (PenAt wr (KR gp 0 0) gp pc ∧ pc.length ≤ 100000) ∧ Hid (KB gp w4 wr))
 case first =>
  by_cases h_1 : k = 1
  ·have y_1 := beq_te (a := k) (b := 1) h_1;have PQ := kp (P1.o h_1);clear h_1;clear c0;have c0 := (HXB.o _ HKB.o).blk.at_ X0.o;have c39 := (HXB.o _ HKB.o).blk.at_ X39.o;have qk := convI (k := se) (by omega) (by omega);go_wp2_with fail;refine (num_anyI gp se (KR gp 0 0) p0 _ HP.o (by clear qk; omega) (by clear qk; omega) (by clear qk; omega)).mono ?_;rintro e v_ ⟨rfl, hp_, hk_⟩;have HP_ := kp hp_;have HKB_ := kp (HKB.o.keptR hk_);clear hp_ hk_ HP HKB;have HP := HP_; have HKB := HKB_;clear HP_ HKB_;try clear w_
   rename World => w_;clear c0 c39 qk;have ls := numB_le (n := se.toNat) (by omega);have FO := kq (∀ j u, (own.map B)[j]? = some u → w_.cell? ⟨g1, 6 + j, none⟩ = some u) (fun j u hu => (HXB.o _ HKB.o).blk.at_ (XO.o j u hu));go_wp2_with (with_reducible refine wlm 30 row_aid FO.o HDO.o.len ?_);refine (pid_any gp (KR gp 0 0) (p0 ++ numB se.toNat) HDO.o _ HP.o (by rw [List.length_append]; omega)).mono ?_;rintro e v_ ⟨rfl, hp_, hk_⟩;have HP_ := kp hp_;have HKB_ := kp (HKB.o.keptR hk_);clear hp_ hk_ HP HKB;have HP := HP_; have HKB := HKB_;clear HP_ HKB_;try clear w_
   rename World => w_;clear FO;have lo := HLO.o;have c38 := (HXB.o _ HKB.o).blk.at_ XA.o;go_wp2_with fail;refine (num_anyI gp am (KR gp 0 0) (p0 ++ numB se.toNat ++ own) _ HP.o (by rw [List.length_append, List.length_append]; omega) HAM.o.1 HAM.o.2).mono ?_;rintro e v_ ⟨rfl, hp_, hk_⟩;have HP_ := kp hp_;have HKB_ := kp (HKB.o.keptR hk_);clear hp_ hk_ HP HKB;have HP := HP_; have HKB := HKB_;clear HP_ HKB_;try clear w_
   rename World => w_;clear c38;have la := numB_le (n := am.toNat) (by have := HAM.o.2; omega);have HPN := kq (PenAt w_ (KR gp 0 0) gp pc ∧ pc.length ≤ 100000) ⟨by rw [PQ.o]; exact HP.o, by rw [PQ.o]; simp only [List.length_append]; omega⟩;clear HP la lo ls;go_wp2_with fail
   go_meet
   case rel => exact ⟨HPN, HKB⟩
  have y_1 := beq_fe (a := k) (b := 1) h_1;have H_1 := kp h_1;clear h_1;go_wp2_with fail;refine (HHT.o _).mono ?_;rintro e v_ ⟨rfl, y_⟩;replace HP := kp (HP.o.grow y_);replace HKB := kp (HKB.o.grow y_);clear c0 y_;try clear w_
  rename World => w_;have c0 := (HXB.o _ HKB.o).blk.at_ X0.o;obtain ⟨ht, hht⟩ := xe (hasTxK k);rw [← hht] at HTB2 PT2 P8 ⊢;clear hht;cases ht with
  | false =>
   by_cases h_7 : k = 7
   ·have y_7 := beq_te (a := k) (b := 7) h_7;have PQ := kp (P7.o h_7);clear h_7;have c40 := (HXB.o _ HKB.o).blk.at_ X40.o;have qk := convI (k := ep) (by omega) (by omega);go_wp2_with fail;refine (num_anyI gp ep (KR gp 0 0) p0 _ HP.o (by clear qk; omega) (by clear qk; omega) (by clear qk; omega)).mono ?_;rintro e v_ ⟨rfl, hp_, hk_⟩;have HP_ := kp hp_;have HKB_ := kp (HKB.o.keptR hk_);clear hp_ hk_ HP HKB;have HP := HP_; have HKB := HKB_;clear HP_ HKB_;try clear w_
    rename World => w_;clear c0 c40 qk;have ls := numB_le (n := ep.toNat) (by omega);have HPN := kq (PenAt w_ (KR gp 0 0) gp pc ∧ pc.length ≤ 100000) ⟨by rw [PQ.o]; exact HP.o, by rw [PQ.o]; simp only [List.length_append]; omega⟩;clear HP ls;go_wp2_with fail
    go_meet
    case rel => exact ⟨HPN, HKB⟩
   have y_7 := beq_fe (a := k) (b := 7) h_7;have H_7 := kp h_7;clear h_7;by_cases h_9 : k = 9
   ·have y_9 := beq_te (a := k) (b := 9) h_9;have PQ := kp (P9.o h_9);clear h_9;have FI := kq (∀ j u, (mid.map B)[j]? = some u → w_.cell? ⟨g1, 41 + j, none⟩ = some u) (fun j u hu => (HXB.o _ HKB.o).blk.at_ (XI.o j u hu));go_wp2_with (with_reducible refine wlm 80 row_aid FI.o HDI.o.len ?_);refine (pid_any gp (KR gp 0 0) p0 HDI.o _ HP.o (by omega)).mono ?_;rintro e v_ ⟨rfl, hp_, hk_⟩;have HP_ := kp hp_;have HKB_ := kp (HKB.o.keptR hk_);clear hp_ hk_ HP HKB;have HP := HP_; have HKB := HKB_;clear HP_ HKB_;try clear w_
    rename World => w_;clear c0 FI;have lo := HLI.o;have HPN := kq (PenAt w_ (KR gp 0 0) gp pc ∧ pc.length ≤ 100000) ⟨by rw [PQ.o]; exact HP.o, by rw [PQ.o]; simp only [List.length_append]; omega⟩;clear HP lo;go_wp2_with fail
    go_meet
    case rel => exact ⟨HPN, HKB⟩
   have y_9 := beq_fe (a := k) (b := 9) h_9;have HPN := kq (PenAt w_ (KR gp 0 0) gp pc ∧ pc.length ≤ 100000) (by rw [P8.o H_1.o rfl H_7.o h_9]; exact ⟨HP.o, by omega⟩);clear h_9 HP;go_wp2_with fail
   go_meet
   case rel => exact ⟨HPN, HKB⟩
  | true =>
   have htl : tb.length ≤ 3000 := HTB2.o rfl;have PQ := kp (PT2.o rfl);have FX := kq (∀ j u, tv[j]? = some u → w_.cell? ⟨g1, 1 + j, none⟩ = some u) (fun j u hu => (HXB.o _ HKB.o).blk.at_ (XX.o j u hu));go_wp2_with (with_reducible refine wlm 42 row_tx FX.o LX.o ?_);refine (HTP.o _ (HBB.o _ HKB.o)).mono ?_;rintro e w3_ ⟨TA, TC, rfl, ho_, hc_, y_⟩;have HO_ := kp ho_;have HGW := kp y_;have HKB_ := kp (HKB.o.grow y_);obtain ⟨tl, htl2⟩ := xe tb.length;have HTE := kp htl2;rw [← htl2] at HO_ PQ htl ⊢;clear c0 FX HKB ho_ hc_ y_ htl2;have HKB := HKB_;clear HKB_;go_wp2_with fail;refine (ptexto_any gp p0 _ _ HP.o HGW.o HTE.o.symm HO_.o (by omega)).mono ?_;rintro e v_ ⟨rfl, hp_, hk_⟩;have HP_ := kp hp_;have HKB_ := kp (HKB.o.keptR hk_);clear hp_ hk_ HP HKB HO_ HGW;have HP := HP_; have HKB := HKB_;clear HP_ HKB_;try clear w_
   try clear w3_
   rename World => w_;obtain ⟨p1, hp1⟩ := xe (p0 ++ (numB tl ++ tb));have hl1 : p1.length ≤ 3018 := by rw [hp1]; have := numB_le (n := tl) (by omega); have := HTE.o; simp only [List.length_append]; omega
   rw [← hp1] at HP PQ;clear hp1 hl0 HTE htl;have c0 := (HXB.o _ HKB.o).blk.at_ X0.o;go_wp2_with fail;refine (HHC.o _).mono ?_;rintro e v_ ⟨rfl, y_⟩;replace HP := kp (HP.o.grow y_);replace HKB := kp (HKB.o.grow y_);clear c0 y_;try clear w_
   rename World => w_;obtain ⟨hc, hhc⟩ := xe (hasCK k);rw [← hhc] at PQ ⊢;clear hhc;obtain ⟨p2, hp2⟩ := xe (p1 ++ (if hc then numB n3 else []));have HPE := kp hp2;have hl2 : p2.length ≤ 3030 := by rw [hp2]; have := numB_le (n := n3) (by omega); rw [List.length_append]; split; omega; simp; omega
   rw [← hp2] at PQ;clear hp2
   go_upto_if 50 with fail
   go_cut [] from 51 to 55 (fun wr => Hid (PenAt wr (KR gp 0 0) gp p2) ∧ Hid (KB gp w4 wr))
   case first =>
    cases hc with
    | false =>
     have HPN := kq (PenAt w_ (KR gp 0 0) gp p2) (by rw [HPE.o]; simpa using HP.o);go_wp2_with fail
     go_meet
     case rel => exact ⟨HPN, HKB⟩
    | true =>
     have c5 := (HXB.o _ HKB.o).blk.at_ X5.o;have qk := convI (k := (n3 : Int)) (by omega) (by omega);go_wp2_with fail;refine (num_any gp n3 (KR gp 0 0) p1 _ HP.o (by clear qk; omega) (by clear qk; omega)).mono ?_;rintro e v_ ⟨rfl, hp_, hk_⟩;have HPN := kq (PenAt v_ (KR gp 0 0) gp p2) (by rw [HPE.o]; simpa using hp_);have HKB_ := kp (HKB.o.keptR hk_);clear hp_ hk_ HP HKB c5 qk;go_wp2_with fail
     go_meet
     case rel => exact ⟨HPN, HKB_⟩
   case rest =>
    obtain ⟨hp_, hk_⟩ := hcut;clear HP HKB HPE;have HP := hp_; have HKB := hk_;clear hp_ hk_;try clear w_
    rename World => w_;have c5 := (HXB.o _ HKB.o).blk.at_ X5.o;go_wp2_with fail;go_loopw [59] (fun iv wr => ∃ j : Nat, j ≤ n3 ∧ iv = .int .i64 j ∧ Hid (PenAt wr (KR gp 0 0) gp (p2 ++ (crs.take j).flatMap certText)) ∧ Hid (KB gp w4 wr)) (fun iv _ => n3 - (intOf iv).toNat)
    case atStart => exact ⟨0, by omega, rfl, kp (by simpa using HP.o), HKB⟩
    case round =>
     obtain ⟨j, hj, rfl, hp_, hk_⟩ := hrel;clear HP HKB c5;have HP := hp_; have HKB := hk_;clear hp_ hk_;rename World => w_;by_cases hlt : j < n3
     ·obtain ⟨b, off, p, P1_, pn, pcp, rfl, hp, hp1, hok, hid, hbl, hcc⟩ := (HCA.o w (Below.refl _ _)).at_ hlt;have HPX := kq (crs[j]? = some p.2) (by rw [HCE.o, List.getElem?_map, hp]; rfl);have HSN := kp (fm_snoc certText HPX.o);have HPC := kp (cerV_cl (v := .slice P1_ pn pcp) rfl hok);have HB := kp (HBB.o _ HKB.o);have HC := kq (∀ i u, (certV (.slice P1_ pn pcp) p.2)[i]? = some u → w_.cell? ⟨b, off + j * 137 + i, none⟩ = some u) (fun i u hu => bcell HB.o (hcc i u hu));have HFL := kp (fm_le certText 2009 j HCT2.o);have HL1 := kp (HCT2.o _ (List.mem_of_getElem? HPX.o));have HPT := kq (pn ≤ 1000) (by rw [← hid.2.1]; exact HPL.o _ (List.mem_of_getElem? HPX.o));have HPUT := kp (fun (w' : World) (hg : Grow w w') => cputo_any (A2 := P1_) (n2 := pn) (c2 := pcp) w' hok HPT.o (hid.grow hg));obtain ⟨cb, hcb⟩ := xe (putCB p.2);have HCB := kq (certText p.2 = numB cb.length ++ cb) (by rw [hcb]; rfl);rw [HCB.o] at HSN HL1;rw [← hcb] at HPUT;obtain ⟨pv, hpv⟩ := xe (certV (.slice P1_ pn pcp) p.2);rw [← hpv] at HPC HC HPUT;have hlc : cb.length ≤ 2009 := by have := HL1.o; rw [List.length_append] at this; omega
      obtain ⟨xs, hxs⟩ := xe (p2 ++ (crs.take j).flatMap certText);have HXE := kp hxs;have hxl : xs.length ≤ 3030 + 16 * 2009 := by rw [hxs, List.length_append]; have := HFL.o; omega
      rw [← hxs] at HP;clear hp hp1 hok hid hbl hcc hcb hpv hxs HFL HPT HL1;go_wp2_with (with_reducible first | refine wlm 62 row_cert HC.o HPC.o.len ?_ | refine wal 9 zero_cert ?_);intro w1_ hb1_ hbw1_ hsz1_;have HB1_ := kp (at_mk hb1_ len_cert);have HBW1_ := kp hbw1_;have HZ1_ := kp hsz1_;clear hb1_ hbw1_ hsz1_;go_wp2_with (with_reducible refine wsb row_cert HB1_.o.blk HB1_.o.len HPC.o.len HPC.o.one ?_);intro v_ b_ g_ hsz2_;have y_ := var_grow HBW1_.o HZ1_.o g_;have HX_ := kp (at_mk b_ HPC.o.len);clear b_ g_ hsz2_ HB1_ HBW1_ HZ1_;replace HB := kp (HB.o.grow' y_);replace HP := kp (HP.o.grow y_);replace HKB := kp (HKB.o.grow y_);generalize hg_ : w_.heap.size = g9 at HX_ ⊢;clear hg_;have HE := HX_;clear y_ HX_;clear w1_;try clear w_
      rename World => w_;clear HC HB;go_wp2_with (with_reducible refine wlb 63 row_cert HE.o.blk HE.o.len ?_);refine (HPUT.o _ (HBB.o _ HKB.o)).mono ?_;rintro e w3_ ⟨TA, TC, rfl, ho_, hc_, y_⟩;have HO_ := kp ho_;have HGW := kp y_;have HKB_ := kp (HKB.o.grow y_);obtain ⟨tl2, htl2⟩ := xe cb.length;have HTE := kp htl2;rw [← htl2] at HO_ hlc HSN ⊢;clear HKB ho_ hc_ y_ htl2 HE HPUT;have HKB := HKB_;clear HKB_;go_wp2_with fail;refine (ptexto_any gp xs _ _ HP.o HGW.o HTE.o.symm HO_.o (by omega)).mono ?_;rintro e v_ ⟨rfl, hp_, hk_⟩;replace HP := kq (PenAt v_ (KR gp 0 0) gp (p2 ++ (crs.take (j + 1)).flatMap certText)) (by rw [HSN.o, ← List.append_assoc, ← HXE.o]; exact hp_);replace HKB := kp (HKB.o.keptR hk_);clear hp_ hk_ HO_ HGW;try clear w_
      try clear w3_
      rename World => w_;clear hlc hxl;go_wp2_with fail;go_roundw
      case rel => exact ⟨j + 1, by omega, by go_num, HP, HKB⟩
      case measure => simp [intOf]; omega
     ·obtain rfl : j = n3 := by omega
      have HPN := kp (show PenAt w_ (KR gp 0 0) gp pc ∧ pc.length ≤ 100000 from by
       have h := HP.o;rw [List.take_of_length_le (by rw [HCL.o]; exact Nat.le_refl _), ← PQ.o] at h;refine ⟨h, ?_⟩;have h2 := fm_len certText 2009 crs HCT2.o;rw [HCL.o] at h2
       rw [PQ.o, List.length_append]; omega)
      go_wp2_with fail
      go_meet
      case rel => exact ⟨HPN, HKB⟩
 case rest =>
  obtain ⟨hp_, hk_⟩ := hcut;clear HP HKB c0;have HP := kp hp_.o.1; have hpl := hp_.o.2;have HKB := hk_;clear hp_ hk_;try clear w_
  rename World => w_;go_wp2_with fail;refine (pbytes_any gp (KR gp 0 0) pc _ HP.o (by omega)).mono ?_;rintro e w6 ⟨A', c', rfl, ho, hc, hg5⟩;have HO5 := kp (own_base ho (HBB.o _ HKB.o).size);have HC5 := kp hc;have HB6 := kq (Grow w w6) ((HBB.o _ HKB.o).grow' hg5);clear ho hc hg5 HP HKB;by_cases h8 : 8192 < pc.length
  ·have HNI := kp (F22.o h8);have y8 : (8192 : Int) < (pc.length : Int) := by omega
   go_wp2_with fail
   go_ret2
   exact ⟨none, 0, by rw [HNI.o]; rfl, by rw [HNI.o]; exact World.ownsRow_nil _ _ _ _, by rw [HNI.o]; exact Nat.le_refl _, HB6.o⟩
  ·have HNI := kp (F32.o h8);have y8 := lt_fe (a := 8192) (b := (pc.length : Int)) (by omega);go_wp2_with fail
   go_ret2
   exact ⟨A', c', by rw [HNI.o]; rfl, by rw [HNI.o]; exact HO5.o, by rw [HNI.o]; exact HC5.o, HB6.o⟩
open Go.RowKit
theorem readC_put {c : Cer} (hk : c.ok) (hb : badCert c = false) : readC (putCB c) = .ok c := by
 unfold badCert at hb;simp only [Bool.or_eq_false_iff, Bool.not_eq_false', decide_eq_false_iff_not] at hb;obtain ⟨⟨h1, h2⟩, h3⟩ := hb;have hp : c.path.length ≤ 32 := by omega
 have l1 := eformB_le hk.1; have l2 := hformB_le hk.2.2.1;have e : putCB c = numB (eformB c.e).length ++ (eformB c.e ++ (numB c.path.length ++ (c.path.flatten ++ (numB (hformB c.h).length ++ (hformB c.h ++ c.tag))))) := by unfold putCB; simp only [List.append_assoc]
 have h5 := takeR_len (t := ([] : List UInt8)) hk.2.2.2;rw [List.append_nil] at h5;have e1 : eformB c.e = putEB c.e := by unfold eformB; rw [if_pos h1]
 have e2 : hformB c.h = putHB c.h := by unfold hformB; rw [if_pos h2]
 unfold readC lookCe;rw [e, textR_put (by omega) (by omega)];simp only;rw [numR_put (n := c.path.length) hp (by omega)];simp only;rw [idsR_put _ _ hk.2.1];simp only;rw [textR_put (by omega) (by omega)];simp only;rw [h5];simp only [ne_eq, not_true_eq_false, if_false];unfold readW;simp only;rw [e1, readE_put hk.1 h1, e2, readH_put hk.2.2.1 h2]
theorem readCs_put : ∀ (cs : List Cer), (∀ c ∈ cs, c.ok ∧ badCert c = false) → readCs (cs.map putCB) = .ok cs
 | [], _ => rfl
 | c :: cs, h => by
  rw [List.map_cons];unfold readCs;rw [readC_put (h c (by simp)).1 (h c (by simp)).2, readCs_put cs (fun x hx => h x (by simp [hx]))]
theorem lookTexts (cs : List Cer) (h : ∀ c ∈ cs, c.ok ∧ badCert c = false) (t : List UInt8) : lookN (textR 2048) cs.length (cs.flatMap certText ++ t) = .ok (cs.map putCB, t) := by
 induction cs generalizing t with
 | nil => rfl
 | cons c cs ih =>
  have hc := h c (by simp);have hl : (putCB c).length ≤ 2000 := putCB_leC hc.1 (by have := hc.2; unfold badCert at this; simp at this; omega);rw [List.length_cons, List.flatMap_cons];unfold lookN;have e : certText c ++ cs.flatMap certText ++ t = numB (putCB c).length ++ (putCB c ++ (cs.flatMap certText ++ t)) := by unfold certText; simp only [List.append_assoc]
  rw [e, textR_put (by omega) (by omega)];simp only;rw [ih (fun x hx => h x (by simp [hx]))]
  rfl
theorem lookCm_put {m : Cmd} (hk : m.ok) (h : checkC m = 0) : lookCm (putCm m) = .ok (⟨{ m with tx := noTxn, certs := [] }, if hasTxK m.kind then putTB m.tx else [], if hasCK m.kind then m.certs.map putCB else []⟩, []) := by
 obtain ⟨⟨hk1, hk9⟩, ⟨hs0, hs1, ha, he0, he1⟩, hn, hct, hb, hcs, hw⟩ := checkC_zero h;obtain ⟨_, u2, u3, u4, u5, u6, u7⟩ := cmd_ext.1 ((used_iff m).2 hw);obtain ⟨o1, o2, o3, o4, o5, o6, o7⟩ := hk;obtain ⟨k, tx, certs, dest, se, ep, id⟩ := m;simp only [usedC] at *;obtain ⟨kn, rfl⟩ : ∃ n : Nat, k = (n : Int) := ⟨k.toNat, by omega⟩;have hkn : kn ≤ 9 := by omega
 by_cases k1 : kn = 1
 ·subst k1;simp only [show ((1 : Nat) : Int) = 1 from rfl, if_true] at *;have e7 : ¬ ((1 : Int) = 7) := by omega
  have e9 : ¬ ((1 : Int) = 9) := by omega
  rw [if_neg e7] at u6; rw [if_neg e9] at u7;rw [show hasTxK 1 = false from rfl] at u2 ⊢; rw [show hasCK 1 = false from rfl] at u3 ⊢;simp only [Bool.false_eq_true, if_false] at u2 u3 ⊢;have ho : dest.owner.length = 32 := o4.1;have ha0 : 0 ≤ dest.amount := o4.2.1
  have e : putCm ⟨1, tx, certs, dest, se, ep, id⟩ = numB 1 ++ (numB se.toNat ++ (dest.owner ++ (numB dest.amount.toNat ++ []))) := by
   unfold putCm txPart certPart hasTxK hasCK; simp
  rw [e];unfold lookCm;rw [numR_put (by omega) (by omega)];simp only;rw [if_neg (by omega)];simp only [if_true];rw [numR_put (by omega) (by omega)];simp only;rw [takeR_len ho];simp only;rw [numR_put (by omega) (by omega)];simp only [Int.toNat_of_nonneg hs0, Int.toNat_of_nonneg ha0];rw [u6, u7]
  rfl
 by_cases k23 : kn = 2 ∨ kn = 3
 ·have h1 : hasTxK (kn : Int) = true := by unfold hasTxK; simp; omega
  have h2 : hasCK (kn : Int) = false := by unfold hasCK; simp; omega
  have i1 : ¬ ((kn : Int) = 1) := by omega
  have i7 : ¬ ((kn : Int) = 7) := by omega
  have i9 : ¬ ((kn : Int) = 9) := by omega
  rw [if_neg i1] at u4 u5; rw [if_neg i7] at u6; rw [if_neg i9] at u7;rw [h2] at u3;simp only [Bool.false_eq_true, if_false] at u3;have hl := putTB_le o2 (hct h1)
  have e : putCm ⟨kn, tx, certs, dest, se, ep, id⟩ = numB kn ++ (numB (putTB tx).length ++ (putTB tx ++ [])) := by
   unfold putCm txPart certPart; simp [h1, h2, i1, i7, i9]
  rw [e];unfold lookCm;rw [numR_put (by omega) (by omega)];simp only;rw [if_neg (by omega), if_neg k1, if_pos k23, textR_put (by omega) (by omega)];simp only [h1, h2, if_true, Bool.false_eq_true, if_false];rw [u4, u5, u6, u7]
  rfl
 by_cases k46 : kn = 4 ∨ kn = 5 ∨ kn = 6
 ·have h1 : hasTxK (kn : Int) = true := by unfold hasTxK; simp; omega
  have h2 : hasCK (kn : Int) = true := by unfold hasCK; simp; omega
  have i1 : ¬ ((kn : Int) = 1) := by omega
  have i7 : ¬ ((kn : Int) = 7) := by omega
  have i9 : ¬ ((kn : Int) = 9) := by omega
  rw [if_neg i1] at u4 u5; rw [if_neg i7] at u6; rw [if_neg i9] at u7;have hl := putTB_le o2 (hct h1)
  have e : putCm ⟨kn, tx, certs, dest, se, ep, id⟩ = numB kn ++ (numB (putTB tx).length ++ (putTB tx ++ (numB certs.length ++ (certs.flatMap certText ++ [])))) := by
   unfold putCm txPart certPart; simp [h1, h2, i1, i7, i9]
  rw [e];unfold lookCm;rw [numR_put (by omega) (by omega)];simp only;rw [if_neg (by omega), if_neg k1, if_neg k23, if_pos k46, textR_put (by omega) (by omega)];simp only;rw [numR_put (by omega) (by omega)];simp only;rw [lookTexts certs (fun c hc => ⟨o3 c hc, hb c hc⟩)];simp only [h1, h2, if_true];rw [u4, u5, u6, u7]
  rfl
 have h1 : hasTxK (kn : Int) = false := by unfold hasTxK; simp; omega
 have h2 : hasCK (kn : Int) = false := by unfold hasCK; simp; omega
 have i1 : ¬ ((kn : Int) = 1) := by omega
 rw [if_neg i1] at u4 u5;by_cases k7 : kn = 7
 ·subst k7;have i9 : ¬ (((7 : Nat) : Int) = 9) := by omega
  rw [if_neg i9] at u7
  have e : putCm ⟨((7 : Nat) : Int), tx, certs, dest, se, ep, id⟩ = numB 7 ++ (numB ep.toNat ++ []) := by
   unfold putCm txPart certPart hasTxK hasCK; simp
  rw [e];unfold lookCm;rw [numR_put (by omega) (by omega)];simp only;rw [if_neg (by omega), if_neg k1, if_neg k23, if_neg k46];simp only [if_true];rw [numR_put (by omega) (by omega)];simp only [h1, h2, Bool.false_eq_true, if_false, Int.toNat_of_nonneg he0];rw [u4, u5, u7]
  rfl
 have i7 : ¬ ((kn : Int) = 7) := by omega
 rw [if_neg i7] at u6;by_cases k9 : kn = 9
 ·subst k9
  have e : putCm ⟨((9 : Nat) : Int), tx, certs, dest, se, ep, id⟩ = numB 9 ++ (id ++ []) := by
   unfold putCm txPart certPart hasTxK hasCK; simp
  rw [e];unfold lookCm;rw [numR_put (by omega) (by omega)];simp only;rw [if_neg (by omega), if_neg k1, if_neg k23, if_neg k46, if_neg k7];simp only [if_true];rw [takeR_len o7];simp only [h1, h2, Bool.false_eq_true, if_false];rw [u4, u5, u6]
  rfl
 have i9 : ¬ ((kn : Int) = 9) := by omega
 rw [if_neg i9] at u7
 have e : putCm ⟨kn, tx, certs, dest, se, ep, id⟩ = numB kn ++ [] := by
  unfold putCm txPart certPart; simp [h1, h2, i1, i7, i9]
 rw [e];unfold lookCm;rw [numR_put (by omega) (by omega)];simp only;rw [if_neg (by omega), if_neg k1, if_neg k23, if_neg k46, if_neg k7, if_neg k9];simp only [h1, h2, Bool.false_eq_true, if_false];rw [u4, u5, u6, u7]
 rfl
theorem readCm_put {m : Cmd} (hk : m.ok) (h : checkC m = 0) (hl : (putCm m).length ≤ 8192) : readCm (putCm m) = .ok m := by
 obtain ⟨⟨hk1, hk9⟩, hs, hn, hct, hb, hcs, hw⟩ := checkC_zero h;obtain ⟨_, u2, u3, _, _, _, _⟩ := cmd_ext.1 ((used_iff m).2 hw);unfold readCm;rw [if_neg (by omega), lookCm_put hk h];simp only [ne_eq, not_true_eq_false, if_false];unfold fillC;simp only
 have e1 : (if hasTxK m.kind = true then readT (if hasTxK m.kind = true then putTB m.tx else []) else Except.ok noTxn) = Except.ok m.tx := by
  cases ht : hasTxK m.kind with
  | true => simp only [if_true]; exact readT_put hk.2.1 (hct ht)
  | false =>
   simp only [usedC, ht, Bool.false_eq_true, if_false] at u2;simp [u2]
 have e2 : readCs (if hasCK m.kind = true then m.certs.map putCB else []) = .ok m.certs := by
  cases hc : hasCK m.kind with
  | true => simp only [if_true]; exact readCs_put _ (fun c h => ⟨hk.2.2.1 c h, hb c h⟩)
  | false =>
   rw [hcs hc]; rfl
 rw [e1];simp only;rw [e2]
theorem bytesq_any {res : Bool} {A A2 : Option Addr} {n c n2 c2 : Nat} {xs ys : List UInt8} (hres : decide (xs = ys) = res) (w : World) (h1 : Sl w w.heap.size 1 A n (xs.map B)) (h2 : Sl w w.heap.size 1 A2 n2 (ys.map B)) (hn : n ≤ 1000000) :
  Calls Tryz.prog 11 #[.slice A n c, .slice A2 n2 c2] w fun e w' => e = .returned (.bool res) ∧ Below w.heap.size w w' := by
 have H1 := kp h1; have H2 := kp h2;have HL1 := kq (xs.length = n) (by have := h1.len; simpa using this);have HL2 := kq (ys.length = n2) (by have := h2.len; simpa using this);have HRES := kp hres;clear h1 h2 hres;by_cases hnn : n = n2
 ·subst hnn;have z1 : ((n : Int) != (n : Int)) = false := by simp
  go_enter Tryz.func11, Tryz.ntmps11
  go_wp2_with fail;go_loopw [5] (fun i wr => ∃ k : Nat, k ≤ n ∧ i = .int .i64 k ∧ Hid (xs.take k = ys.take k) ∧ Hid (Below w.heap.size w wr)) (fun i _ => n - (intOf i).toNat)
  case atStart => exact ⟨0, by omega, rfl, kp (by simp), kp (Below.refl _ _)⟩
  case round =>
   obtain ⟨k, hk, rfl, heq, hbw⟩ := hrel;by_cases hlt : k < n
   ·have HB := hbw;have H1A := kp ((H1.o.below HB.o).more HB.o.size);have H2A := kp ((H2.o.below HB.o).more HB.o.size);obtain ⟨x, hx⟩ : ∃ x, xs[k]? = some x := ⟨_, List.getElem?_eq_getElem (by rw [HL1.o]; exact hlt)⟩;obtain ⟨y, hy⟩ : ∃ y, ys[k]? = some y := ⟨_, List.getElem?_eq_getElem (by rw [HL2.o]; exact hlt)⟩;have HX := kp hx; have HY := kp hy;clear hx hy;by_cases hxy : x = y
    ·subst hxy;try go_wp2_with fail
     repeat' (first | (with_reducible refine wpp (id := 6) Grow [0,0,0,2,0,0,0,2,0] (.get 0 (.get 1 (.get 2 (.get 3 (.get 4 (.get 5 (.get 6 (.get 7 (.get 8 .done))))))))) Grow.refl Grow.trans ?_) | go_values | go_skip | go_guarded | go_step | go_upon | go_back)
     intro w_ hd_;have y_ := hd_.grow;replace HB := kp (HB.o.grow' y_);replace H1A := kp (H1A.o.grow y_);replace H2A := kp (H2A.o.grow y_);clear y_ hd_;obtain ⟨b1, o1, u1, rfl, hb1, hu1, hc1⟩ := H1A.o.at_ hlt;obtain ⟨b2, o2, u2, rfl, hb2, hu2, hc2⟩ := H2A.o.at_ hlt;obtain rfl : u1 = .int .u8 (b8 x) := by rw [List.getElem?_map, HX.o] at hu1; exact (Option.some.inj hu1).symm
     obtain rfl : u2 = .int .u8 (b8 x) := by rw [List.getElem?_map, HY.o] at hu2; exact (Option.some.inj hu2).symm
     clear hb1 hb2 hu1 hu2;repeat (first | (refine plc (fun K hK => ?_); go_simp; refine hK _ _ ?_; clear hK K) | (refine pls (fun K hK => ?_); go_simp; refine hK _ _ ?_; clear hK K) | (refine psa (fun K hK => ?_); go_simp; refine hK _ _ ?_; clear hK K) | (refine pl_load rfl rfl (by first | exact wanted_none rfl | (go_simp; done) | rfl) rfl (by first | rfl | (go_simp; rfl)) (by kernel_rfl) (by first | exact hc1 | exact hc2) (fun K hK => ?_); go_simp; refine hK _ _ ?_; clear hK K) | (refine pl_loadnow rfl rfl (by first | exact wanted_none rfl | (go_simp; done) | rfl) rfl (by first | rfl | (go_simp; rfl)) (by kernel_rfl) (by first | exact hc1 | exact hc2) (fun K hK => ?_); go_simp; refine hK _ _ ?_; clear hK K))
     refine pl_done ?_;clear hc1 hc2;have HE := kq (xs.take (k + 1) = ys.take (k + 1)) (by rw [List.take_add_one, List.take_add_one, heq.o, HX.o, HY.o]);go_wp2_with fail;go_roundw
     case rel => exact ⟨k + 1, by omega, by go_num, HE, HB⟩
     case measure => simp [intOf]; omega
    ·have hbb : ((b8 x) != (b8 y)) = true := by
      have : b8 x ≠ b8 y := fun h => hxy (b8_inj h)
      simpa using this
     have HF := kp (show res = false by
      rw [← HRES.o]
      have : xs ≠ ys := fun h => by
       subst h;have h1 := HX.o;rw [HY.o] at h1;exact hxy (Option.some.inj h1).symm
      simpa using this)
     have hne : b8 x ≠ b8 y := fun h => hxy (b8_inj h)
     have hq := eq_false hne;clear hxy;try go_wp2_with fail
     repeat' (first | (with_reducible refine wpp (id := 6) Grow [0,0,0,2,0,0,0,2,0] (.get 0 (.get 1 (.get 2 (.get 3 (.get 4 (.get 5 (.get 6 (.get 7 (.get 8 .done))))))))) Grow.refl Grow.trans ?_) | go_values | go_skip | go_guarded | go_step | go_upon | go_back)
     intro w_ hd_;have y_ := hd_.grow;replace HB := kp (HB.o.grow' y_);replace H1A := kp (H1A.o.grow y_);replace H2A := kp (H2A.o.grow y_);clear y_ hd_;obtain ⟨b1, o1, u1, rfl, hb1, hu1, hc1⟩ := H1A.o.at_ hlt;obtain ⟨b2, o2, u2, rfl, hb2, hu2, hc2⟩ := H2A.o.at_ hlt;obtain rfl : u1 = .int .u8 (b8 x) := by rw [List.getElem?_map, HX.o] at hu1; exact (Option.some.inj hu1).symm
     obtain rfl : u2 = .int .u8 (b8 y) := by rw [List.getElem?_map, HY.o] at hu2; exact (Option.some.inj hu2).symm
     clear hb1 hb2 hu1 hu2;repeat (first | (refine plc (fun K hK => ?_); go_simp; refine hK _ _ ?_; clear hK K) | (refine pls (fun K hK => ?_); go_simp; refine hK _ _ ?_; clear hK K) | (refine psa (fun K hK => ?_); go_simp; refine hK _ _ ?_; clear hK K) | (refine pl_load rfl rfl (by first | exact wanted_none rfl | (go_simp; done) | rfl) rfl (by first | rfl | (go_simp; rfl)) (by kernel_rfl) (by first | exact hc1 | exact hc2) (fun K hK => ?_); go_simp; refine hK _ _ ?_; clear hK K) | (refine pl_loadnow rfl rfl (by first | exact wanted_none rfl | (go_simp; done) | rfl) rfl (by first | rfl | (go_simp; rfl)) (by kernel_rfl) (by first | exact hc1 | exact hc2) (fun K hK => ?_); go_simp; refine hK _ _ ?_; clear hK K))
     refine pl_done ?_;clear hc1 hc2;go_wp2_with fail;go_ret
     exact ⟨by rw [HF.o]; rfl, HB.o⟩
   ·obtain rfl : k = n := by omega
    have HT := kp (show res = true by
     rw [← HRES.o];have h := heq.o;rw [List.take_of_length_le (by rw [HL1.o]; exact Nat.le_refl _), List.take_of_length_le (by rw [HL2.o]; exact Nat.le_refl _)] at h
     simpa using h)
    go_wp2_with fail;go_ret
    exact ⟨by rw [HT.o]; rfl, hbw.o⟩
 ·have z1 : ((n : Int) != (n2 : Int)) = true := by simp; omega
  have HF := kp (show res = false by
   rw [← HRES.o];have : xs ≠ ys := fun h => by subst h; exact hnn (by rw [← HL1.o, ← HL2.o])
   simpa using this)
  have hz : ¬ ((n : Int) = (n2 : Int)) := by omega
  have hzq := eq_false hz
  go_enter Tryz.func11, Tryz.ntmps11
  go_wp2_with fail;go_ret
  exact ⟨by rw [HF.o]; rfl, Below.refl _ _⟩
end Go.Proofs.YtiijepimkgaccaaGreat

/- The document's Great, and the example of seisinlaw24. -/
import Derived.Test.YtiijepimkgaccaaGreatCommandLongRe33
import Derived.Test.YtiijepimkgaccaaGreatCommandLongRe35
set_option linter.unusedSimpArgs false
set_option linter.unusedVariables false
set_option maxRecDepth 100000
set_option maxHeartbeats 16000000
namespace Go.Proofs.YtiijepimkgaccaaGreat
open Go.RowKit Go.Shelf
theorem chk8 : checkC (kindC 8) = 0 := by decide +kernel
theorem put8 : putCm (kindC 8) = [1, 8] := by
 unfold putCm txPart certPart;rw [show (kindC 8).kind = 8 from rfl, show hasTxK 8 = false from rfl, show hasCK 8 = false from rfl];rw [if_neg (by decide), if_neg (by decide), if_neg (by decide), if_neg (by decide), if_neg (by decide), show (8 : Int).toNat = 8 from rfl, numB_eq, leB_pos (by omega), show 8 / 256 = 0 from rfl, leB_zero, lenB_pos (by omega), show 8 / 256 = 0 from rfl, lenB_zero]
 rfl
theorem form8 : formC (kindC 8) = ([1, 8], 0) := by
 unfold formC;rw [if_neg (by rw [chk8]; simp), put8, if_neg (by decide)]
theorem kind8_ok : (kindC 8).ok := kindC_ok (by unfold I64; omega)
theorem read8 : readCm [1, 8] = .ok (kindC 8) := by
 have h := readCm_put kind8_ok chk8 (by rw [put8]; decide)
 rwa [put8] at h
theorem read0 : readCm [0] = .error 25 := by
 have h0 : numB 0 = [0] := by rw [numB_eq, leB_zero, lenB_zero]; rfl
 have h1 : numR 9 [0] = .ok (0, []) := by
  have h := numR_put (n := 0) (most := 9) (t := []) (by omega) (by omega)
  rwa [h0] at h
 unfold readCm;rw [if_neg (by decide), lookCm_kind h1, if_pos rfl]
theorem cmdAt_8 (w : World) : CmdAt w noCW (kindC 8) := ⟨insAt_nil, outsAt_nil, CertsAt.nil w, rfl, rfl, kind8_ok⟩
theorem small8 : SmallC (kindC 8) := ⟨by simp [kindC, noCmd, noTxn], by simp [kindC, noCmd, noTxn], by simp [kindC, noCmd, noTxn], by simp [kindC, noCmd], by simp [kindC, noCmd]⟩
theorem awake24_any (w : World) : Calls Tryz.prog 5 #[] w fun e w' => e = .returned (.bool true) ∧ Grow w w' := by
 have BC := kp (built_cmd1 8);have HP := kp (fun w => cmput_any w (cmdAt_8 w) small8);have HR8 := kp (fun (w : World) (A : Option Addr) (h : Sl w w.heap.size 1 A 2 (([1, 8] : List UInt8).map B)) => cmread_any (c := 2) w h (by omega));have HR0 := kp (fun (w : World) (A : Option Addr) (h : Sl w w.heap.size 1 A 1 (([0] : List UInt8).map B)) => cmread_any (c := 1) w h (by omega));have HSM := kp (fun (w : World) (q : CW) (h : CmdAt w q (kindC 8)) => cmsame_any (res := true) (by simp) w h h small8);have HBY := kp (fun (w : World) (A : Option Addr) (c : Nat) (A2 : Option Addr) (h1 : Sl w w.heap.size 1 A 2 (([1, 8] : List UInt8).map B)) (h2 : Sl w w.heap.size 1 A2 2 (([1, 8] : List UInt8).map B)) => bytesq_any (c := c) (c2 := 2) (res := true) (by decide) w h1 h2 (by omega));simp only [form8] at HP;unfold CmRead at HR8 HR0;rw [read8] at HR8;rw [read0] at HR0;simp only [cmdOf, errOf] at HR8 HR0;have ZC := kp zero_cmd;have HCZ := kp (vs_cl (q := noCW) noCmd_ok);obtain ⟨zc, hzc⟩ := xe (noCW.vs noCmd);rw [← hzc] at ZC HCZ;rw [show ({ noCmd with kind := 8 } : Cmd) = kindC 8 from rfl] at BC;obtain ⟨m8, hm8⟩ := xe (kindC 8);have HK8 := kq (m8.kind = 8) (by rw [hm8]; rfl);have HO8 := kq m8.ok (by rw [hm8]; exact kind8_ok);rw [← hm8] at HP HR8 HSM BC;obtain ⟨pv, hpv⟩ := xe (noCW.vs m8);rw [← hpv] at BC HP;clear hzc hm8 hpv;have HB := kp (Below.refl w.heap.size w)
 go_enter Tryz.func5, Tryz.ntmps5
 go_wp2_with (with_reducible refine wst 8 ?_);refine stop_go ?_;refine wpl_build rfl rfl BC.o ?_;go_wp2_with fail;refine (HP.o _).mono ?_;rintro e w_ ⟨A1, c1, rfl, ho1, hc1, y_⟩;have HS1 := kq (Sl w_ w_.heap.size 1 A1 2 (([1, 8] : List UInt8).map B)) (Sl.of_own ho1);replace HB := kp (HB.o.grow' y_);clear ho1 hc1 y_ HP BC;go_wp2_with fail;generalize hw1 : World.alloc w_ _ = w1;obtain ⟨hX1, hb1, hs1⟩ := alloc_eq hw1;have HT1 := kq (Sl w1 w1.heap.size 1 (some ⟨w_.heap.size, 0, none⟩) 2 (([1, 8] : List UInt8).map B)) (Blk.sl (sz := 1) (n := 2) hX1 rfl);generalize w_.heap.size = gx at HT1 ⊢;clear hw1 hX1 hs1;have y_ := hb1;clear hb1;replace HB := kp (HB.o.grow' y_);replace HS1 := kp (HS1.o.grow y_);clear y_;try clear w_
 rename World => w_;refine (HR8.o _ _ HT1.o).mono ?_;rintro e v_ ⟨q, rfl, hc, y_⟩;have HQ := kp hc;clear hc HT1;have y_ := y_;clear y_;replace HB := kp (HB.o.grow' y_);replace HS1 := kp (HS1.o.grow y_);clear y_;try clear w_
 rename World => w_;have HQC := kp (vs_cl (q := q) HO8.o);have HQK := kp (vs_kind q m8);rw [HK8.o] at HQK;have HSQ := kp (fun w h => HSM.o w q h);obtain ⟨qv, hqv⟩ := xe (q.vs m8);rw [← hqv] at HQC HQK HSQ ⊢;clear hqv HSM HR8;go_wp2_with (with_reducible refine wal 3 zero_cmd ?_);intro w1_ hb1_ hbw1_ hsz1_;have HB1_ := kp (at_mk hb1_ len_cmd);have HBW1_ := kp hbw1_;have HZ1_ := kp hsz1_;clear hb1_ hbw1_ hsz1_;go_wp2_with (with_reducible refine wsb row_cmd HB1_.o.blk HB1_.o.len HQC.o.len HQC.o.one ?_);intro v_ b_ g_ hsz2_;have y_ := var_grow HBW1_.o HZ1_.o g_;have HX_ := kp (at_mk b_ HQC.o.len);clear b_ g_ hsz2_ HB1_ HBW1_ HZ1_;replace HB := kp (HB.o.grow' y_);replace HS1 := kp (HS1.o.grow y_);replace HQ := kp (HQ.o.grow y_);generalize hg_ : w_.heap.size = g3 at HX_ ⊢;clear hg_;have HX := HX_;clear y_ HX_;clear w1_;try clear w_
 rename World => w_;go_wp2_with fail;generalize hw1 : World.alloc w_ _ = w1;obtain ⟨hX1, hb1, hs1⟩ := alloc_eq hw1;have HT1 := kq (Sl w1 w1.heap.size 1 (some ⟨w_.heap.size, 0, none⟩) 1 (([0] : List UInt8).map B)) (Blk.sl (sz := 1) (n := 1) hX1 rfl);generalize w_.heap.size = gx at HT1 ⊢;clear hw1 hX1 hs1;have y_ := hb1;clear hb1;replace HB := kp (HB.o.grow' y_);replace HS1 := kp (HS1.o.grow y_);replace HQ := kp (HQ.o.grow y_);replace HX := kp (HX.o.grow y_);clear y_;try clear w_
 rename World => w_;refine (HR0.o _ _ HT1.o).mono ?_;rintro e v_ ⟨q5, rfl, hc, y_⟩;clear hc HT1;have y_ := y_;clear y_;replace HB := kp (HB.o.grow' y_);replace HS1 := kp (HS1.o.grow y_);replace HQ := kp (HQ.o.grow y_);replace HX := kp (HX.o.grow y_);clear y_;try clear w_
 rename World => w_;have HQ5 := kp (vs_cl (q := q5) noCmd_ok);obtain ⟨q5v, hq5v⟩ := xe (q5.vs noCmd);rw [← hq5v] at HQ5 ⊢;clear hq5v;go_wp2_with (with_reducible refine wal 5 zero_cmd ?_);intro w1_ hb1_ hbw1_ hsz1_;have HB1_ := kp (at_mk hb1_ len_cmd);have HBW1_ := kp hbw1_;have HZ1_ := kp hsz1_;clear hb1_ hbw1_ hsz1_;go_wp2_with (with_reducible refine wsb row_cmd HB1_.o.blk HB1_.o.len HQ5.o.len HQ5.o.one ?_);intro v_ b_ g_ hsz2_;have y_ := var_grow HBW1_.o HZ1_.o g_;have HX_ := kp (at_mk b_ HQ5.o.len);clear b_ g_ hsz2_ HB1_ HBW1_ HZ1_;replace HB := kp (HB.o.grow' y_);replace HS1 := kp (HS1.o.grow y_);replace HQ := kp (HQ.o.grow y_);replace HX := kp (HX.o.grow y_);generalize hg_ : w_.heap.size = g5 at HX_ ⊢;clear hg_;have HY := HX_;clear y_ HX_;clear w1_;try clear w_
 rename World => w_;clear HY;go_wp2_with fail;generalize hw1 : World.alloc w_ _ = w1;obtain ⟨hX1, hb1, hs1⟩ := alloc_eq hw1;have HT1 := kq (Sl w1 w1.heap.size 1 (some ⟨w_.heap.size, 0, none⟩) 2 (([1, 8] : List UInt8).map B)) (Blk.sl (sz := 1) (n := 2) hX1 rfl);generalize w_.heap.size = gx at HT1 ⊢;clear hw1 hX1 hs1;have y_ := hb1;clear hb1;replace HB := kp (HB.o.grow' y_);replace HS1 := kp (HS1.o.grow y_);replace HQ := kp (HQ.o.grow y_);replace HX := kp (HX.o.grow y_);clear y_;try clear w_
 rename World => w_;refine (HBY.o _ _ _ _ HS1.o HT1.o).mono ?_;rintro e v_ ⟨rfl, y_⟩;clear HT1 HS1;have y_ := y_;clear y_;replace HB := kp (HB.o.grow' y_);replace HQ := kp (HQ.o.grow y_);replace HX := kp (HX.o.grow y_);clear y_;try clear w_
 rename World => w_;have c0 := HX.o.blk.at_ HQK.o;go_wp2_with (first | (with_reducible refine wpl_loadw (o := ⟨some 43, _, _, _, _, _⟩) (by first | rfl | (go_simp; done) | fail) rfl row_cmd HX.o.blk rfl HX.o.len ?_) | (with_reducible refine wpl_loadw (o := ⟨some 44, _, _, _, _, _⟩) (by first | rfl | (go_simp; done) | fail) rfl row_cmd HX.o.blk rfl HX.o.len ?_));refine (HSQ.o _ HQ.o).mono ?_;rintro e v_ ⟨rfl, y_⟩;clear c0;have y_ := y_;clear y_;replace HB := kp (HB.o.grow' y_);clear y_;try clear w_
 rename World => w_;go_wp2_with fail;go_ret
 exact ⟨rfl, HB.o⟩
theorem built_outQ : Tryz.prog.built 34 [] = some (outV noOutC).toArray := by kernel_rfl
theorem built_idQ : Tryz.prog.built 32 [] = some (zId.map B).toArray := by kernel_rfl
theorem noOutC_ok : noOutC.ok := ⟨by simp [noOutC, zId], by simp [noOutC, U64]⟩
theorem zId_len : zId.length = 32 := by simp [zId]
theorem beq_t {a b : Int} (h : a = b) : (a == b) = true := by simpa using h
theorem beq_f {a b : Int} (h : a ≠ b) : (a == b) = false := by simpa using h
theorem bne_t {a b : Int} (h : a ≠ b) : (a != b) = true := by simpa using h
theorem bne_f {a b : Int} (h : a = b) : (a != b) = false := by simpa using h
theorem lt_f {a b : Int} (h : ¬ a < b) : (a < b) = False := eq_false h
theorem lt_t {a b : Int} (h : a < b) : (a < b) = True := eq_true h
theorem rnotx_any {A : Option Addr} {n c : Nat} {A2 : Option Addr} {n2 c2 : Nat} (t : Txn) (w : World) (h1 : t.ins.length = n) (h2 : t.outs.length = n2) :
  Calls Tryz.prog 58 #[.agg (txV A n c A2 n2 c2 t.fee t.expiry).toArray] w fun e w' => e = .returned (.bool (noTxB t)) ∧ Grow w w' := by
 have HTC := kp (txV_cl (A := A) (n := n) (c := c) (A2 := A2) (n2 := n2) (c2 := c2) (fee := t.fee) (ex := t.expiry));have HT0 := kq ((txV A n c A2 n2 c2 t.fee t.expiry)[0]? = some (.slice A n c)) rfl;have HT1 := kq ((txV A n c A2 n2 c2 t.fee t.expiry)[1]? = some (.slice A2 n2 c2)) rfl;have HT2 := kq ((txV A n c A2 n2 c2 t.fee t.expiry)[2]? = some (.int .u64 t.fee)) rfl;have HT3 := kq ((txV A n c A2 n2 c2 t.fee t.expiry)[3]? = some (.int .i64 t.expiry)) rfl;obtain ⟨res, hres⟩ := xe (noTxB t);rw [← hres]
 have HRES := kp (show res = (decide (n = 0) && decide (n2 = 0) && decide (t.fee = 0) && decide (t.expiry = 0)) by
  rw [hres]; unfold noTxB;rw [← h1, ← h2]
  cases t.ins <;> cases t.outs <;> simp)
 obtain ⟨fee, hfee⟩ := xe t.fee;obtain ⟨ex, hex⟩ := xe t.expiry;rw [← hfee, ← hex] at HTC HT0 HT1 HT2 HT3 HRES ⊢;obtain ⟨tv, htv⟩ := xe (txV A n c A2 n2 c2 fee ex);rw [← htv] at HTC HT0 HT1 HT2 HT3 ⊢;obtain ⟨w_, hw⟩ := xe w;have HB := kq (Below w.heap.size w w_) (by rw [hw]; exact Below.refl _ _)
 suffices H : Calls Tryz.prog 58 #[.agg tv.toArray] w_ fun e w' => e = .returned (.bool res) ∧ Grow w w' by rw [hw] at H; exact H
 clear hw h1 h2 hres hfee hex htv
 go_enter Tryz.func58, Tryz.ntmps58
 go_wp2_with (with_reducible refine wbx 1 ?_);intro v_ b_ y_ hsz2_;have HX_ := kp (at_mk b_ HTC.o.len);clear b_ hsz2_;have HG_ := kp HB.o.size;replace HB := kp (HB.o.grow' y_);generalize hg_ : w_.heap.size = g1 at HX_ HG_ ⊢;clear hg_;have HX_g := HG_;clear HG_;have HX := HX_;clear y_ HX_;try clear w_
 rename World => w_;have c0 := HX.o.blk.at_ HT0.o; have c1 := HX.o.blk.at_ HT1.o; have c2_ := HX.o.blk.at_ HT2.o; have c3_ := HX.o.blk.at_ HT3.o;by_cases h_n : n = 0
 rotate_left
 ·have z1 := beq_f (a := (n : Int)) (b := 0) (by omega);have HN := kq (res = false) (by rw [HRES.o]; simp [h_n]);go_wp2_with fail;go_ret
  exact ⟨by rw [HN.o]; rfl, HB.o⟩
 have z1 := beq_t (a := (n : Int)) (b := 0) (by omega);by_cases h_n2 : n2 = 0
 rotate_left
 ·have z2 := beq_f (a := (n2 : Int)) (b := 0) (by omega);have HN := kq (res = false) (by rw [HRES.o]; simp [h_n2]);go_wp2_with fail;go_ret
  exact ⟨by rw [HN.o]; rfl, HB.o⟩
 have z2 := beq_t (a := (n2 : Int)) (b := 0) (by omega);by_cases h_fee : fee = 0
 rotate_left
 ·have z3 := beq_f (a := fee) (b := 0) (by omega);have HN := kq (res = false) (by rw [HRES.o]; simp [h_fee]);go_wp2_with fail;go_ret
  exact ⟨by rw [HN.o]; rfl, HB.o⟩
 have z3 := beq_t (a := fee) (b := 0) (by omega);by_cases h_ex : ex = 0
 rotate_left
 ·have z4 := beq_f (a := ex) (b := 0) (by omega);have HN := kq (res = false) (by rw [HRES.o]; simp [h_ex]);go_wp2_with fail;go_ret
  exact ⟨by rw [HN.o]; rfl, HB.o⟩
 have z4 := beq_t (a := ex) (b := 0) (by omega);have HN := kq (res = true) (by rw [HRES.o]; simp [h_n, h_n2, h_fee, h_ex]);clear h_n h_n2 h_fee h_ex;go_wp2_with fail;go_ret
 exact ⟨by rw [HN.o]; rfl, HB.o⟩
theorem rcmcheck_any {q : CW} {m : Cmd} (w : World) (h : CmdAt w q m) (hs : SmallC m) :
  Calls Tryz.prog 27 #[.agg (q.vs m).toArray] w fun e w' => e = .returned (.int .i64 (checkC m)) ∧ Grow w w' := by
 obtain ⟨ro, hro, hqo⟩ := out_eq h.ok.2.2.2.1 noOutC_ok;obtain ⟨rd, hrd, hqd⟩ := aid_eqQ m.id zId h.ok.2.2.2.2.2.2 zId_len;have HQO := kp hqo; have HQD := kp hqd;have HBO := kp built_outQ; have HBI := kp built_idQ;have HNT := kp (fun (w' : World) => show Calls Tryz.prog 58 #[.agg (q.tv m).toArray] w' fun e w'' => e = .returned (.bool (noTxB m.tx)) ∧ Grow w' w'' from rnotx_any m.tx w' h.n1 h.n2)
 have HTK := kp (fun (w' : World) (hg : Grow w w') => show Calls Tryz.prog 4 #[.agg (q.tv m).toArray] w' fun e w'' => e = .returned (.int .i64 (checkT m.tx)) ∧ Grow w' w'' from by
  have := rtcheck_any w' (h.ins.grow hg) (h.outs.grow hg) (by rw [← h.n1]; exact hs.1) (by rw [← h.n2]; exact hs.2.1) h.ok.2.1.2.2.1 h.ok.2.1.2.2.2
  rw [h.tx] at this; exact this)
 have HCA := kp (fun (w' : World) (hg : Grow w w') => h.certs.grow hg);have HCE := kp h.certsE;have hn3 : m.certs.length = q.n3 := h.n3;have hn5 : q.n3 ≤ 100000 := by rw [← hn3]; exact hs.2.2.2.1
 have HXC := kp (vs_cl (q := q) h.ok);have X0 := kp (vs_kind q m); have X5 := kp (vs_certs q m);have X39 := kp (vs_serial (q := q) h.ok.2.2.2.1); have X40 := kp (vs_epoch (q := q) h.ok.2.2.2.1);have XA := kq ((q.vs m)[38]? = some (.int .u64 m.dest.amount)) (vs_to (j := 32) (by unfold outV; rw [List.getElem?_append_right (by simp [h.ok.2.2.2.1.1])]; simp [h.ok.2.2.2.1.1]));have XT := kp (fun j u (hu : (outV m.dest)[j]? = some u) => vs_to (q := q) hu);have XI := kp (fun j u (hu : (m.id.map B)[j]? = some u) => vs_id (q := q) h.ok.2.2.2.1 hu);have XX := kp (fun j u (hu : (q.tv m)[j]? = some u) => vs_tx hu);have LT := kp (outV_length h.ok.2.2.2.1);have LI := kq ((m.id.map B).length = 32) (by rw [List.length_map]; exact h.ok.2.2.2.2.2.2);have LX := kq ((q.tv m).length = 4) rfl
 have HW1 := kp (show wrong1 m = ((!decide (m.kind = 1) && (!decide (m.serial = 0) || !ro)) || (!decide (m.kind = 7) && !decide (m.epoch = 0)) || (!decide (m.kind = 9) && !rd)) by
  unfold wrong1
  rw [show noOutB m.dest = ro by rw [Bool.eq_iff_iff, noOutB_iff, hro], show decide (m.id = zId) = rd by rw [Bool.eq_iff_iff, decide_eq_true_eq, hrd]])
 have HW2 := kp (show wrong2 m = ((!hasTxK m.kind && !noTxB m.tx) || (!hasCK m.kind && !decide (q.n3 = 0))) by
  unfold wrong2
  rw [show m.certs.isEmpty = decide (q.n3 = 0) by rw [← hn3]; cases m.certs <;> simp])
 obtain ⟨ck, hck⟩ := xe (checkC m);rw [← hck];unfold checkC at hck;rw [hn3] at hck;have HCK := kp hck;obtain ⟨w1b, hw1b⟩ := xe (wrong1 m);obtain ⟨w2b, hw2b⟩ := xe (wrong2 m);obtain ⟨w3b, hw3b⟩ := xe (wrong3 m);have HW3 := kp hw3b;unfold wrong3 at HW3;rw [← hw1b] at HW1; rw [← hw2b] at HW2;rw [← hw1b, ← hw2b, ← hw3b] at HCK;obtain ⟨nt, hnt⟩ := xe (noTxB m.tx);rw [← hnt] at HNT HW2;obtain ⟨tk, htk⟩ := xe (checkT m.tx);rw [← htk] at HTK HCK;obtain ⟨bc, hbc⟩ := xe (m.certs.any badCert);have HBC := kp hbc;rw [← hbc] at HCK;obtain ⟨xv, hxv⟩ := xe (q.vs m);obtain ⟨ts, hts⟩ := xe (outV m.dest);obtain ⟨is, his⟩ := xe (m.id.map B);obtain ⟨tv, htv⟩ := xe (q.tv m);obtain ⟨zo, hzo⟩ := xe (outV noOutC);obtain ⟨zi, hzi⟩ := xe (zId.map B);rw [← hxv] at HXC X0 X5 X39 X40 XA XT XI XX ⊢;rw [← hts] at XT LT HQO; rw [← his] at XI LI HQD; rw [← htv] at XX LX HNT HTK; rw [← hzo] at HQO HBO; rw [← hzi] at HQD HBI;obtain ⟨k, hk⟩ := xe m.kind;obtain ⟨se, hse⟩ := xe m.serial;obtain ⟨ep, hep⟩ := xe m.epoch;obtain ⟨am, ham⟩ := xe m.dest.amount;rw [← hk] at X0 HW1 HW2 HCK; rw [← hse] at X39 HW1 HW3; rw [← hep] at X40 HW1 HW3; rw [← ham] at XA HW3;obtain ⟨A, n, c, A2, n2, c2, A3, n3, c3, l, cl⟩ := q;simp only at HCA HCE hn3 hn5 X5 HW2 HCK;have HN3 := kp hn3;obtain ⟨crs, hcrs⟩ := xe m.certs;rw [← hcrs] at HCE HBC HN3;have hn30 : (0 : Int) ≤ (n3 : Int) := by omega
 clear h hs hro hqo hrd hqd hck hw1b hw2b hw3b hnt htk hbc hxv hts his htv hzo hzi hk hse hep ham hn3 hcrs;refine bq (fun w_ HB => ?_)
 go_enter Tryz.func27, Tryz.ntmps27
 go_wp2_with (with_reducible refine wbx 1 ?_);intro v_ b_ y_ hsz2_;have HX_ := kp (at_mk b_ HXC.o.len);clear b_ hsz2_;have HG_ := kp HB.o.size;replace HB := kp (HB.o.grow' y_);generalize hg_ : w_.heap.size = g1 at HX_ HG_ ⊢;clear hg_;have HX_g := HG_;clear HG_;have HX := HX_;clear y_ HX_;try clear w_
 rename World => w_;have c0 := HX.o.blk.at_ X0.o; have c39 := HX.o.blk.at_ X39.o; have c40 := HX.o.blk.at_ X40.o; have c38 := HX.o.blk.at_ XA.o; have c5 := HX.o.blk.at_ X5.o;rcases Int.lt_or_le k 1 with hk1 | hk1
 ·have HN := kq (ck = 25) (by rw [HCK.o, if_pos (.inl hk1)]);go_wp2_with fail;go_ret
  exact ⟨by rw [HN.o]; rfl, HB.o⟩
 rcases Int.lt_or_le 9 k with hk9 | hk9
 ·have HN := kq (ck = 25) (by rw [HCK.o, if_pos (.inr hk9)]);have z1 := lt_f (a := k) (b := 1) (by omega);go_wp2_with fail;go_ret
  exact ⟨by rw [HN.o]; rfl, HB.o⟩
 have HCK2 := kq (ck = if w1b || w2b || w3b then 1 else if 16 < n3 then 27 else if hasTxK k && !decide (tk = 0) then tk else if bc then 16 else 0) (by rw [HCK.o, if_neg (by omega)]);have z1 := lt_f (a := k) (b := 1) (by omega);have z2 := lt_f (a := 9) (b := k) (by omega);clear HCK
 go_upto_region 4 with fail
 clear z1 z2
 go_cut [46] from 15 to 45 (fun s46 wr => s46 = .bool w1b ∧ Hid (At wr g1 36 73 xv ∧ Below w.heap.size w wr))
 case first =>
  have heqo := HQO.o; have heqd := HQD.o;have FT := kq (∀ j u, ts[j]? = some u → w_.cell? ⟨g1, 6 + j, none⟩ = some u) (fun j u hu => HX.o.blk.at_ (XT.o j u hu));have FI := kq (∀ j u, is[j]? = some u → w_.cell? ⟨g1, 41 + j, none⟩ = some u) (fun j u hu => HX.o.blk.at_ (XI.o j u hu));by_cases h_k1 : k = 1
  ·have y_k1 := bne_f (a := k) (b := 1) h_k1;have y_k7 := bne_t (a := k) (b := 7) (by omega);have y_k9 := bne_t (a := k) (b := 9) (by omega);have H_k1 := kp h_k1; clear h_k1;by_cases h_e0 : ep = 0
   ·have y_e0 := bne_f (a := ep) (b := 0) h_e0;have H_e0 := kp h_e0; clear h_e0;cases rd with
    | true =>
     have HN1 := kq (w1b = false) (by rw [HW1.o]; simp [H_k1.o, H_e0.o]);go_wp2_with (with_reducible first | refine wlw 23 row_tout FT.o LT.o ?_ | refine wlw 42 row_aid FI.o LI.o ?_ | refine wst 43 ?_);refine stop_go ?_;refine wpl_buildw (by first | rfl | (go_simp; done) | fail) rfl HBI.o ?_;go_wp2_with (with_reducible first | refine wlw 23 row_tout FT.o LT.o ?_ | refine wlw 42 row_aid FI.o LI.o ?_)
     go_meet
     case rel => exact ⟨by rw [HN1.o], kp ⟨HX.o, HB.o⟩⟩
    | false =>
     have HN1 := kq (w1b = true) (by rw [HW1.o]; simp [H_k1.o, H_e0.o]);go_wp2_with (with_reducible first | refine wlw 23 row_tout FT.o LT.o ?_ | refine wlw 42 row_aid FI.o LI.o ?_ | refine wst 43 ?_);refine stop_go ?_;refine wpl_buildw (by first | rfl | (go_simp; done) | fail) rfl HBI.o ?_;go_wp2_with (with_reducible first | refine wlw 23 row_tout FT.o LT.o ?_ | refine wlw 42 row_aid FI.o LI.o ?_)
     go_meet
     case rel => exact ⟨by rw [HN1.o], kp ⟨HX.o, HB.o⟩⟩
   ·have y_e0 := bne_t (a := ep) (b := 0) h_e0;have H_e0 := kp h_e0; clear h_e0;have HN1 := kq (w1b = true) (by rw [HW1.o]; simp [H_k1.o, H_e0.o]);go_wp2_with (with_reducible first | refine wlw 23 row_tout FT.o LT.o ?_ | refine wlw 42 row_aid FI.o LI.o ?_)
    go_meet
    case rel => exact ⟨by rw [HN1.o], kp ⟨HX.o, HB.o⟩⟩
  ·have y_k1 := bne_t (a := k) (b := 1) h_k1;have H_k1 := kp h_k1; clear h_k1;by_cases h_s0 : se = 0
   ·have y_s0 := bne_f (a := se) (b := 0) h_s0;have H_s0 := kp h_s0; clear h_s0;cases ro with
    | true =>
     by_cases h_k7 : k = 7
     ·have y_k7 := bne_f (a := k) (b := 7) h_k7; have y_k9 := bne_t (a := k) (b := 9) (by omega);have H_k7 := kp h_k7; clear h_k7;cases rd with
      | true =>
       have HN1 := kq (w1b = false) (by rw [HW1.o]; simp [H_k1.o, H_s0.o, H_k7.o]);go_wp2_with (with_reducible first | refine wlw 23 row_tout FT.o LT.o ?_ | refine wlw 42 row_aid FI.o LI.o ?_ | refine wst 24 ?_);refine stop_go ?_;refine wpl_buildw (by first | rfl | (go_simp; done) | fail) rfl HBO.o ?_;go_wp2_with (with_reducible first | refine wlw 23 row_tout FT.o LT.o ?_ | refine wlw 42 row_aid FI.o LI.o ?_ | refine wst 43 ?_);refine stop_go ?_;refine wpl_buildw (by first | rfl | (go_simp; done) | fail) rfl HBI.o ?_;go_wp2_with (with_reducible first | refine wlw 23 row_tout FT.o LT.o ?_ | refine wlw 42 row_aid FI.o LI.o ?_)
       go_meet
       case rel => exact ⟨by rw [HN1.o], kp ⟨HX.o, HB.o⟩⟩
      | false =>
       have HN1 := kq (w1b = true) (by rw [HW1.o]; simp [H_k1.o, H_s0.o, H_k7.o]);go_wp2_with (with_reducible first | refine wlw 23 row_tout FT.o LT.o ?_ | refine wlw 42 row_aid FI.o LI.o ?_ | refine wst 24 ?_);refine stop_go ?_;refine wpl_buildw (by first | rfl | (go_simp; done) | fail) rfl HBO.o ?_;go_wp2_with (with_reducible first | refine wlw 23 row_tout FT.o LT.o ?_ | refine wlw 42 row_aid FI.o LI.o ?_ | refine wst 43 ?_);refine stop_go ?_;refine wpl_buildw (by first | rfl | (go_simp; done) | fail) rfl HBI.o ?_;go_wp2_with (with_reducible first | refine wlw 23 row_tout FT.o LT.o ?_ | refine wlw 42 row_aid FI.o LI.o ?_)
       go_meet
       case rel => exact ⟨by rw [HN1.o], kp ⟨HX.o, HB.o⟩⟩
     ·have y_k7 := bne_t (a := k) (b := 7) h_k7;have H_k7 := kp h_k7; clear h_k7;by_cases h_e0 : ep = 0
      ·have y_e0 := bne_f (a := ep) (b := 0) h_e0;have H_e0 := kp h_e0; clear h_e0;by_cases h_k9 : k = 9
       ·have y_k9 := bne_f (a := k) (b := 9) h_k9;have H_k9 := kp h_k9; clear h_k9;have HN1 := kq (w1b = false) (by rw [HW1.o]; simp [H_k1.o, H_s0.o, H_k7.o, H_e0.o, H_k9.o]);go_wp2_with (with_reducible first | refine wlw 23 row_tout FT.o LT.o ?_ | refine wlw 42 row_aid FI.o LI.o ?_ | refine wst 24 ?_);refine stop_go ?_;refine wpl_buildw (by first | rfl | (go_simp; done) | fail) rfl HBO.o ?_;go_wp2_with (with_reducible first | refine wlw 23 row_tout FT.o LT.o ?_ | refine wlw 42 row_aid FI.o LI.o ?_)
        go_meet
        case rel => exact ⟨by rw [HN1.o], kp ⟨HX.o, HB.o⟩⟩
       ·have y_k9 := bne_t (a := k) (b := 9) h_k9;have H_k9 := kp h_k9; clear h_k9;cases rd with
        | true =>
         have HN1 := kq (w1b = false) (by rw [HW1.o]; simp [H_k1.o, H_s0.o, H_k7.o, H_e0.o, H_k9.o]);go_wp2_with (with_reducible first | refine wlw 23 row_tout FT.o LT.o ?_ | refine wlw 42 row_aid FI.o LI.o ?_ | refine wst 24 ?_);refine stop_go ?_;refine wpl_buildw (by first | rfl | (go_simp; done) | fail) rfl HBO.o ?_;go_wp2_with (with_reducible first | refine wlw 23 row_tout FT.o LT.o ?_ | refine wlw 42 row_aid FI.o LI.o ?_ | refine wst 43 ?_);refine stop_go ?_;refine wpl_buildw (by first | rfl | (go_simp; done) | fail) rfl HBI.o ?_;go_wp2_with (with_reducible first | refine wlw 23 row_tout FT.o LT.o ?_ | refine wlw 42 row_aid FI.o LI.o ?_)
         go_meet
         case rel => exact ⟨by rw [HN1.o], kp ⟨HX.o, HB.o⟩⟩
        | false =>
         have HN1 := kq (w1b = true) (by rw [HW1.o]; simp [H_k1.o, H_s0.o, H_k7.o, H_e0.o, H_k9.o]);go_wp2_with (with_reducible first | refine wlw 23 row_tout FT.o LT.o ?_ | refine wlw 42 row_aid FI.o LI.o ?_ | refine wst 24 ?_);refine stop_go ?_;refine wpl_buildw (by first | rfl | (go_simp; done) | fail) rfl HBO.o ?_;go_wp2_with (with_reducible first | refine wlw 23 row_tout FT.o LT.o ?_ | refine wlw 42 row_aid FI.o LI.o ?_ | refine wst 43 ?_);refine stop_go ?_;refine wpl_buildw (by first | rfl | (go_simp; done) | fail) rfl HBI.o ?_;go_wp2_with (with_reducible first | refine wlw 23 row_tout FT.o LT.o ?_ | refine wlw 42 row_aid FI.o LI.o ?_)
         go_meet
         case rel => exact ⟨by rw [HN1.o], kp ⟨HX.o, HB.o⟩⟩
      ·have y_e0 := bne_t (a := ep) (b := 0) h_e0;have H_e0 := kp h_e0; clear h_e0;have HN1 := kq (w1b = true) (by rw [HW1.o]; simp [H_k1.o, H_s0.o, H_k7.o, H_e0.o]);go_wp2_with (with_reducible first | refine wlw 23 row_tout FT.o LT.o ?_ | refine wlw 42 row_aid FI.o LI.o ?_ | refine wst 24 ?_);refine stop_go ?_;refine wpl_buildw (by first | rfl | (go_simp; done) | fail) rfl HBO.o ?_;go_wp2_with (with_reducible first | refine wlw 23 row_tout FT.o LT.o ?_ | refine wlw 42 row_aid FI.o LI.o ?_)
       go_meet
       case rel => exact ⟨by rw [HN1.o], kp ⟨HX.o, HB.o⟩⟩
    | false =>
     have HN1 := kq (w1b = true) (by rw [HW1.o]; simp [H_k1.o, H_s0.o]);go_wp2_with (with_reducible first | refine wlw 23 row_tout FT.o LT.o ?_ | refine wlw 42 row_aid FI.o LI.o ?_ | refine wst 24 ?_);refine stop_go ?_;refine wpl_buildw (by first | rfl | (go_simp; done) | fail) rfl HBO.o ?_;go_wp2_with (with_reducible first | refine wlw 23 row_tout FT.o LT.o ?_ | refine wlw 42 row_aid FI.o LI.o ?_)
     go_meet
     case rel => exact ⟨by rw [HN1.o], kp ⟨HX.o, HB.o⟩⟩
   ·have y_s0 := bne_t (a := se) (b := 0) h_s0;have H_s0 := kp h_s0; clear h_s0;have HN1 := kq (w1b = true) (by rw [HW1.o]; simp [H_k1.o, H_s0.o]);go_wp2_with (with_reducible first | refine wlw 23 row_tout FT.o LT.o ?_ | refine wlw 42 row_aid FI.o LI.o ?_)
    go_meet
    case rel => exact ⟨by rw [HN1.o], kp ⟨HX.o, HB.o⟩⟩
 case rest =>
  obtain ⟨rfl, hI⟩ := hcut;clear HX HB c0 c39 c40 c38 c5;have HX := kp hI.o.1; have HB := kp hI.o.2;clear hI HW1;try clear w_
  rename World => w_;have c0 := HX.o.blk.at_ X0.o; have c5 := HX.o.blk.at_ X5.o;cases w1b with
  | true =>
   have HN := kq (ck = 1) (by rw [HCK2.o]; simp);go_wp2_with fail;go_ret
   exact ⟨by rw [HN.o]; first | rfl | simp, HB.o⟩
  | false =>
  go_upto_region 6 with fail
  go_cut [72] from 47 to 71 (fun s72 wr => s72 = .bool w2b ∧ Hid (At wr g1 36 73 xv ∧ Below w.heap.size w wr))
  case first =>
   have FX := kq (∀ j u, tv[j]? = some u → w_.cell? ⟨g1, 1 + j, none⟩ = some u) (fun j u hu => HX.o.blk.at_ (XX.o j u hu));rcases Int.lt_or_le k 2 with hk2 | hk2
   ·have HH := kq (hasTxK k = false) (by unfold hasTxK; simp; omega);have HH2 := kq (hasCK k = false) (by unfold hasCK; simp; omega);have hk4 : k < 4 := by omega
    go_wp2_with (with_reducible refine wlw 55 row_tx FX.o LX.o ?_);refine (HNT.o _).mono ?_;rintro e v_ ⟨rfl, y_⟩;clear c0 c5 FX;have y_ := y_;clear y_;replace HB := kp (HB.o.grow' y_);replace HX := kp (HX.o.grow y_);clear y_;try clear w_
    rename World => w_;have c0 := HX.o.blk.at_ X0.o; have c5 := HX.o.blk.at_ X5.o;cases nt with
    | false =>
     have HN2 := kq (w2b = true) (by rw [HW2.o, HH.o]; simp);go_wp2_with fail
     go_meet
     case rel => exact ⟨by rw [HN2.o], kp ⟨HX.o, HB.o⟩⟩
    | true =>
     rcases Nat.eq_zero_or_pos n3 with h30 | h30
     ·have HN2 := kq (w2b = false) (by rw [HW2.o]; simp [h30, HH.o]);have y5 := lt_f (a := 0) (b := (n3 : Int)) (by omega);have H30 := kp h30; clear h30;go_wp2_with fail
      go_meet
      case rel => exact ⟨by rw [HN2.o]; try first | rfl | (simp [H30.o]; done) | (simp; exact H30.o), kp ⟨HX.o, HB.o⟩⟩
     ·have H30 := kp h30;have HN2 := kq (w2b = true) (by rw [HW2.o, HH2.o]; simp; omega);have y5 := lt_t (a := 0) (b := (n3 : Int)) (by omega);go_wp2_with fail
      go_meet
      case rel => exact ⟨by rw [HN2.o]; try first | rfl | (simp [H30.o]; done) | (simp; exact H30.o), kp ⟨HX.o, HB.o⟩⟩
   rcases Int.lt_or_le 6 k with hk6 | hk6
   ·have HH := kq (hasTxK k = false) (by unfold hasTxK; simp; omega);have HH2 := kq (hasCK k = false) (by unfold hasCK; simp; omega);have y2 := lt_f (a := k) (b := 2) (by omega);have y4 := lt_f (a := k) (b := 4) (by omega);go_wp2_with (with_reducible refine wlw 55 row_tx FX.o LX.o ?_);refine (HNT.o _).mono ?_;rintro e v_ ⟨rfl, y_⟩;clear c0 c5 FX;have y_ := y_;clear y_;replace HB := kp (HB.o.grow' y_);replace HX := kp (HX.o.grow y_);clear y_;try clear w_
    rename World => w_;have c0 := HX.o.blk.at_ X0.o; have c5 := HX.o.blk.at_ X5.o;cases nt with
    | false =>
     have HN2 := kq (w2b = true) (by rw [HW2.o, HH.o]; simp);go_wp2_with fail
     go_meet
     case rel => exact ⟨by rw [HN2.o], kp ⟨HX.o, HB.o⟩⟩
    | true =>
     rcases Nat.eq_zero_or_pos n3 with h30 | h30
     ·have HN2 := kq (w2b = false) (by rw [HW2.o]; simp [h30, HH.o]);have y5 := lt_f (a := 0) (b := (n3 : Int)) (by omega);have H30 := kp h30; clear h30;go_wp2_with fail
      go_meet
      case rel => exact ⟨by rw [HN2.o]; try first | rfl | (simp [H30.o]; done) | (simp; exact H30.o), kp ⟨HX.o, HB.o⟩⟩
     ·have H30 := kp h30;have HN2 := kq (w2b = true) (by rw [HW2.o, HH2.o]; simp; omega);have y5 := lt_t (a := 0) (b := (n3 : Int)) (by omega);go_wp2_with fail
      go_meet
      case rel => exact ⟨by rw [HN2.o]; try first | rfl | (simp [H30.o]; done) | (simp; exact H30.o), kp ⟨HX.o, HB.o⟩⟩
   have HH := kq (hasTxK k = true) (by unfold hasTxK; simp; omega);have y2 := lt_f (a := k) (b := 2) (by omega);have y6 := lt_f (a := 6) (b := k) (by omega);rcases Int.lt_or_le k 4 with hk4 | hk4
   ·have HH2 := kq (hasCK k = false) (by unfold hasCK; simp; omega);rcases Nat.eq_zero_or_pos n3 with h30 | h30
    ·have HN2 := kq (w2b = false) (by rw [HW2.o]; simp [h30, HH.o]);have y5 := lt_f (a := 0) (b := (n3 : Int)) (by omega);have H30 := kp h30; clear h30;go_wp2_with fail
     go_meet
     case rel => exact ⟨by rw [HN2.o]; try first | rfl | (simp [H30.o]; done) | (simp; exact H30.o), kp ⟨HX.o, HB.o⟩⟩
    ·have H30 := kp h30;have HN2 := kq (w2b = true) (by rw [HW2.o, HH2.o]; simp; omega);have y5 := lt_t (a := 0) (b := (n3 : Int)) (by omega);go_wp2_with fail
     go_meet
     case rel => exact ⟨by rw [HN2.o]; try first | rfl | (simp [H30.o]; done) | (simp; exact H30.o), kp ⟨HX.o, HB.o⟩⟩
   have HH2 := kq (hasCK k = true) (by unfold hasCK; simp; omega);have y4 := lt_f (a := k) (b := 4) (by omega);have HN2 := kq (w2b = false) (by rw [HW2.o, HH.o, HH2.o]; simp);go_wp2_with fail
   go_meet
   case rel => exact ⟨by rw [HN2.o], kp ⟨HX.o, HB.o⟩⟩
  case rest =>
   obtain ⟨rfl, hI⟩ := hcut;clear HX HB c0 c5;have HX := kp hI.o.1; have HB := kp hI.o.2;clear hI HW2;try clear w_
   rename World => w_;have c0 := HX.o.blk.at_ X0.o; have c5 := HX.o.blk.at_ X5.o;cases w2b with
   | true =>
    have HN := kq (ck = 1) (by rw [HCK2.o]; simp);go_wp2_with fail;go_ret
    exact ⟨by rw [HN.o]; first | rfl | simp, HB.o⟩
   | false =>
   have c39 := HX.o.blk.at_ X39.o; have c40 := HX.o.blk.at_ X40.o; have c38 := HX.o.blk.at_ XA.o;rcases Int.lt_or_le se 0 with r1 | r1
   ·have HN := kq (ck = 1) (by rw [HCK2.o, HW3.o]; simp [r1]);go_wp2_with fail;go_ret
    exact ⟨by rw [HN.o]; first | rfl | simp, HB.o⟩
   have y_r1 := lt_f (a := se) (b := 0) (by omega);rcases Int.lt_or_le (1099511627776 : Int) se with r2 | r2
   ·have HN := kq (ck = 1) (by rw [HCK2.o, HW3.o]; simp [r2]);go_wp2_with fail;go_ret
    exact ⟨by rw [HN.o]; first | rfl | simp, HB.o⟩
   have y_r2 := lt_f (a := 1099511627776) (b := se) (by omega);rcases Int.lt_or_le (4611686018427387904 : Int) am with r3 | r3
   ·have HN := kq (ck = 1) (by rw [HCK2.o, HW3.o]; simp [r3]);go_wp2_with fail;go_ret
    exact ⟨by rw [HN.o]; first | rfl | simp, HB.o⟩
   have y_r3 := lt_f (a := 4611686018427387904) (b := am) (by omega);rcases Int.lt_or_le ep 0 with r4 | r4
   ·have HN := kq (ck = 1) (by rw [HCK2.o, HW3.o]; simp [r4]);go_wp2_with fail;go_ret
    exact ⟨by rw [HN.o]; first | rfl | simp, HB.o⟩
   have y_r4 := lt_f (a := ep) (b := 0) (by omega);rcases Int.lt_or_le (1099511627776 : Int) ep with r5 | r5
   ·have HN := kq (ck = 1) (by rw [HCK2.o, HW3.o]; simp [r5]);go_wp2_with fail;go_ret
    exact ⟨by rw [HN.o]; first | rfl | simp, HB.o⟩
   have y_r5 := lt_f (a := 1099511627776) (b := ep) (by omega)
   have HCK3 := kp (show ck = if 16 < n3 then 27 else if hasTxK k && !decide (tk = 0) then tk else if bc then 16 else 0 by
    have hw3 : w3b = false := by rw [HW3.o]; simp [y_r1, y_r2, y_r3, y_r4, y_r5]
    rw [HCK2.o, hw3]; simp)
   clear HCK2 HW3;rcases Nat.lt_or_ge 16 n3 with h16 | h16
   ·have HN := kq (ck = 27) (by rw [HCK3.o, if_pos h16]);have y16 : (16 : Int) < (n3 : Int) := by omega
    go_wp2_with fail;go_ret
    exact ⟨by rw [HN.o]; first | rfl | simp, HB.o⟩
   have y16 := lt_f (a := 16) (b := (n3 : Int)) (by omega);have HCK4 := kq (ck = if hasTxK k && !decide (tk = 0) then tk else if bc then 16 else 0) (by rw [HCK3.o, if_neg (by omega)]);clear HCK3 r1 r2 r3 r4 r5
   go_upto_region 12 with fail
   clear y_r1 y_r2 y_r3 y_r4 y_r5 y16 c39 c40 c38
   go_cut [106] from 101 to 105 (fun s106 wr => s106 = .bool (hasTxK k) ∧ Hid (At wr g1 36 73 xv ∧ Below w.heap.size w wr))
   case first =>
    rcases Int.lt_or_le k 2 with hk2 | hk2
    ·have HH := kq (hasTxK k = false) (by unfold hasTxK; simp; omega);have y2 : (2 ≤ k) = False := eq_false (by omega);go_wp2_with fail
     go_meet
     case rel => exact ⟨by rw [HH.o], kp ⟨HX.o, HB.o⟩⟩
    rcases Int.lt_or_le 6 k with hk6 | hk6
    ·have HH := kq (hasTxK k = false) (by unfold hasTxK; simp; omega);have y6 : (k ≤ 6) = False := eq_false (by omega);go_wp2_with fail
     go_meet
     case rel => exact ⟨by rw [HH.o], kp ⟨HX.o, HB.o⟩⟩
    have HH := kq (hasTxK k = true) (by unfold hasTxK; simp; omega);go_wp2_with fail
    go_meet
    case rel => exact ⟨by rw [HH.o], kp ⟨HX.o, HB.o⟩⟩
   case rest =>
   obtain ⟨rfl, hI⟩ := hcut;clear HX HB c0 c5;have HX := kp hI.o.1; have HB := kp hI.o.2;clear hI;try clear w_
   rename World => w_;have c0 := HX.o.blk.at_ X0.o; have c5 := HX.o.blk.at_ X5.o;obtain ⟨hk_, hhk⟩ := xe (hasTxK k);rw [← hhk] at HCK4 ⊢;clear hhk
   go_upto_if 106 with fail
   go_cut [4] from 107 to 112 (fun s4 wr => Hid (ck = if bc then 16 else 0) ∧ Hid (At wr g1 36 73 xv ∧ Below w.heap.size w wr))
   case first =>
    have FX := kq (∀ j u, tv[j]? = some u → w_.cell? ⟨g1, 1 + j, none⟩ = some u) (fun j u hu => HX.o.blk.at_ (XX.o j u hu));cases hk_ with
    | false =>
     have HN := kq (ck = if bc then 16 else 0) (by rw [HCK4.o]; simp);go_wp2_with fail
     go_meet
     case rel => exact ⟨HN, kp ⟨HX.o, HB.o⟩⟩
    | true =>
    go_wp2_with (with_reducible refine wlw 108 row_tx FX.o LX.o ?_);refine (HTK.o _ HB.o).mono ?_;rintro e v_ ⟨rfl, y_⟩;clear c0 c5 FX;have y_ := y_;clear y_;replace HB := kp (HB.o.grow' y_);replace HX := kp (HX.o.grow y_);clear y_;try clear w_
    rename World => w_;by_cases ht : tk = 0
    ·have HN := kq (ck = if bc then 16 else 0) (by rw [HCK4.o]; simp [ht]);have y7 := bne_f (a := tk) (b := 0) ht;clear ht;go_wp2_with fail
     go_meet
     case rel => exact ⟨HN, kp ⟨HX.o, HB.o⟩⟩
    ·have HN := kq (ck = tk) (by rw [HCK4.o]; simp [ht]);have y7 := bne_t (a := tk) (b := 0) ht;go_wp2_with fail;go_ret
     exact ⟨by rw [HN.o]; first | rfl | simp, HB.o⟩
   case rest =>
    obtain ⟨HN5, hI⟩ := hcut;clear HX HB c0 c5;have HX := kp hI.o.1; have HB := kp hI.o.2;clear hI HCK4;try clear w_
    rename World => w_;have c5 := HX.o.blk.at_ X5.o;go_wp2_with fail;go_loopw [5] (fun iv wr => ∃ j : Nat, j ≤ n3 ∧ iv = .int .i64 j ∧ Hid ((crs.take j).any badCert = false) ∧ Hid (At wr g1 36 73 xv ∧ Below w.heap.size w wr)) (fun iv _ => n3 - (intOf iv).toNat)
    case atStart => exact ⟨0, by omega, rfl, kp (by simp), kp ⟨HX.o, HB.o⟩⟩
    case round =>
     obtain ⟨j, hj, rfl, hup, hI⟩ := hrel;clear HB HX c5;have HX := kp hI.o.1; have HB := kp hI.o.2;clear hI;rename World => w_;have c5 := HX.o.blk.at_ X5.o;by_cases hlt : j < n3
     ·obtain ⟨b, off, p, P1, pn, pc, rfl, hp, hp1, hok, hid, hbl, hc⟩ := (HCA.o w (Below.refl _ _)).at_ hlt;have HP := kq (crs[j]? = some p.2) (by rw [HCE.o, List.getElem?_map, hp]; rfl);have HPC := kp (cerV_cl (v := .slice P1 pn pc) rfl hok);have HRE := kp (fun w => reright_any p.2.e w hok.1); have HRH := kp (fun w => rhright_any p.2.h w hok.2.2.1);have LE := kp (entV_length hok.1); have LH := kp (hdrV_length hok.2.2.1);have HBD := kq (badCert p.2 = (!rightE p.2.e || !rightH p.2.h || decide (32 < pn))) (by unfold badCert; rw [hid.2.1])
      have PE := kp (show ∀ j u, (entV p.2.e)[j]? = some u → (certV (.slice P1 pn pc) p.2)[0 + j]? = some u from fun j u hu => by
       rw [Nat.zero_add]; unfold certV; rw [List.getElem?_append_left (List.getElem?_eq_some_iff.1 hu).1]; exact hu)
      have PS := kp (show (certV (.slice P1 pn pc) p.2)[37]? = some (.slice P1 pn pc) by
       unfold certV; rw [List.getElem?_append_right (by rw [LE.o]; exact Nat.le_refl _), LE.o]; rfl)
      have PH := kp (show ∀ j u, (hdrV p.2.h)[j]? = some u → (certV (.slice P1 pn pc) p.2)[38 + j]? = some u from fun j u hu => by
       unfold certV; rw [List.getElem?_append_right (by rw [LE.o]; omega), LE.o, show 38 + j - 37 = j + 1 by omega, List.getElem?_cons_succ, List.getElem?_append_left (List.getElem?_eq_some_iff.1 hu).1]; exact hu)
      have HC := kq (∀ i u, (certV (.slice P1 pn pc) p.2)[i]? = some u → w_.cell? ⟨b, off + j * 137 + i, none⟩ = some u) (fun i u hu => bcell HB.o (hc i u hu));have HSN := kq ((crs.take (j + 1)).any badCert = ((crs.take j).any badCert || badCert p.2)) (by rw [List.take_add_one, HP.o, List.any_append]; simp);have HAB := kq (badCert p.2 = true → bc = true) (fun h => by rw [HBC.o, List.any_eq_true]; exact ⟨p.2, List.mem_of_getElem? HP.o, h⟩);obtain ⟨pv, hpv⟩ := xe (certV (.slice P1 pn pc) p.2);rw [← hpv] at HPC PE PS PH HC;obtain ⟨ev, hev⟩ := xe (entV p.2.e);obtain ⟨hv, hhv⟩ := xe (hdrV p.2.h);rw [← hev] at PE LE HRE; rw [← hhv] at PH LH HRH;obtain ⟨b1, hb1⟩ := xe (rightE p.2.e);obtain ⟨b2, hb2⟩ := xe (rightH p.2.h);obtain ⟨bd, hbd⟩ := xe (badCert p.2);rw [← hb1] at HRE HBD; rw [← hb2] at HRH HBD; rw [← hbd] at HBD HSN HAB;clear hp hp1 hok hid hbl hc hpv hev hhv hb1 hb2 hbd;go_wp2_with (with_reducible first | refine wlm 124 row_cert HC.o HPC.o.len ?_ | refine wal 6 zero_cert ?_);intro w1_ hb1_ hbw1_ hsz1_;have HB1_ := kp (at_mk hb1_ len_cert);have HBW1_ := kp hbw1_;have HZ1_ := kp hsz1_;clear hb1_ hbw1_ hsz1_;go_wp2_with (with_reducible refine wsb row_cert HB1_.o.blk HB1_.o.len HPC.o.len HPC.o.one ?_);intro v_ b_ g_ hsz2_;have y_ := var_grow HBW1_.o HZ1_.o g_;have HX_ := kp (at_mk b_ HPC.o.len);clear b_ g_ hsz2_ HB1_ HBW1_ HZ1_;replace HB := kp (HB.o.grow' y_);replace HX := kp (HX.o.grow y_);generalize hg_ : w_.heap.size = g6 at HX_ ⊢;clear hg_;have HE := HX_;clear y_ HX_;clear w1_;try clear w_
      rename World => w_;clear HC c5;have ME := kq (∀ j u, ev[j]? = some u → w_.cell? ⟨g6, 0 + j, none⟩ = some u) (fun j u hu => HE.o.blk.at_ (PE.o j u hu));go_wp2_with (with_reducible refine wlm 126 row_entry ME.o LE.o ?_);refine (HRE.o _).mono ?_;rintro e w_ ⟨rfl, y_⟩;replace HB := kp (HB.o.grow' y_);replace HX := kp (HX.o.grow y_);replace HE := kp (HE.o.grow y_);clear y_;clear ME;have c5 := HX.o.blk.at_ X5.o;cases b1 with
      | false =>
       have HV := kq (bd = true) (by rw [HBD.o]; simp);have HN := kq (ck = 16) (by rw [HN5.o, HAB.o HV.o]; simp);go_wp2_with fail;go_ret
       exact ⟨by rw [HN.o]; first | rfl | simp, HB.o⟩
      | true =>
       have MH := kq (∀ j u, hv[j]? = some u → w_.cell? ⟨g6, 38 + j, none⟩ = some u) (fun j u hu => HE.o.blk.at_ (PH.o j u hu));go_wp2_with (with_reducible refine wlw 131 row_header MH.o LH.o ?_);refine (HRH.o _).mono ?_;rintro e w_ ⟨rfl, y_⟩;replace HB := kp (HB.o.grow' y_);replace HX := kp (HX.o.grow y_);replace HE := kp (HE.o.grow y_);clear y_;clear MH c5;have c5 := HX.o.blk.at_ X5.o; have c37 := HE.o.blk.at_ PS.o;cases b2 with
       | false =>
        have HV := kq (bd = true) (by rw [HBD.o]; simp);have HN := kq (ck = 16) (by rw [HN5.o, HAB.o HV.o]; simp);go_wp2_with fail;go_ret
        exact ⟨by rw [HN.o]; first | rfl | simp, HB.o⟩
       | true =>
        rcases Nat.lt_or_ge 32 pn with h32 | h32
        ·have y32 : (32 : Int) < (pn : Int) := by omega
         have HV := kq (bd = true) (by rw [HBD.o]; simp [h32]);have HN := kq (ck = 16) (by rw [HN5.o, HAB.o HV.o]; simp);go_wp2_with fail;go_ret
         exact ⟨by rw [HN.o]; first | rfl | simp, HB.o⟩
        ·have y32 := lt_f (a := 32) (b := (pn : Int)) (by omega);have HV := kq (bd = false) (by rw [HBD.o]; simp; omega);have HU := kq ((crs.take (j + 1)).any badCert = false) (by rw [HSN.o, hup.o, HV.o]; rfl);have v1 : IntKind.i64.wrap ((j : Int) + 1) = (j : Int) + 1 := IntWalk.i64_in _ (by omega);go_wp2_with fail;go_roundw
         all_goals clear v1
         case rel => exact ⟨j + 1, by omega, by go_num, HU, kp ⟨HX.o, HB.o⟩⟩
         case measure => simp [intOf]; omega
     ·obtain rfl : j = n3 := by omega
      have HN := kp (show ck = 0 by
       have h := hup.o;rw [List.take_of_length_le (by rw [HN3.o]; exact Nat.le_refl _), ← HBC.o] at h
       rw [HN5.o, h]; simp)
      go_wp2_with fail;go_ret
      exact ⟨by rw [HN.o]; first | rfl | simp, HB.o⟩
end Go.Proofs.YtiijepimkgaccaaGreat

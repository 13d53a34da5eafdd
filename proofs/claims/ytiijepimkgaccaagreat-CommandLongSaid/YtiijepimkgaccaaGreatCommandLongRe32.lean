/- The contract of command.check. Printed by mkcmdf.py. -/
import Derived.Test.YtiijepimkgaccaaGreatCommandLongRe24
set_option linter.unusedSimpArgs false
set_option linter.unusedVariables false
set_option maxRecDepth 100000
set_option maxHeartbeats 16000000
namespace Go.Proofs.YtiijepimkgaccaaGreat
open Go.RowKit Go.Shelf
theorem iscert_any {A : Option Addr} {n c : Nat} {x : Cer} (w : World) (hok : x.ok) (hn : x.path.length = n) :
  Calls Tryz.prog 53 #[.agg (certV (.slice A n c) x).toArray] w fun e w' => e = .returned (.bool (!badCert x)) ∧ Grow w w' := by
 have HPC := kp (cerV_cl (v := .slice A n c) rfl hok);have HRE := kp (fun w => eright_any x.e w hok.1); have HRH := kp (fun w => hright_any x.h w hok.2.2.1);have LE := kp (entV_length hok.1); have LH := kp (hdrV_length hok.2.2.1);have HBD := kq ((!badCert x) = (rightE x.e && rightH x.h && decide (n ≤ 32))) (by unfold badCert; rw [hn, Bool.eq_iff_iff]; simp)
 have PE := kp (show ∀ j u, (entV x.e)[j]? = some u → (certV (.slice A n c) x)[0 + j]? = some u from fun j u hu => by
  rw [Nat.zero_add]; unfold certV; rw [List.getElem?_append_left (List.getElem?_eq_some_iff.1 hu).1]; exact hu)
 have PS := kp (show (certV (.slice A n c) x)[37]? = some (.slice A n c) by
  unfold certV; rw [List.getElem?_append_right (by rw [LE.o]; exact Nat.le_refl _), LE.o]; rfl)
 have PH := kp (show ∀ j u, (hdrV x.h)[j]? = some u → (certV (.slice A n c) x)[38 + j]? = some u from fun j u hu => by
  unfold certV; rw [List.getElem?_append_right (by rw [LE.o]; omega), LE.o, show 38 + j - 37 = j + 1 by omega, List.getElem?_cons_succ, List.getElem?_append_left (List.getElem?_eq_some_iff.1 hu).1]; exact hu)
 obtain ⟨pv, hpv⟩ := xe (certV (.slice A n c) x);obtain ⟨ev, hev⟩ := xe (entV x.e);obtain ⟨hv, hhv⟩ := xe (hdrV x.h);obtain ⟨b1, hb1⟩ := xe (rightE x.e);obtain ⟨b2, hb2⟩ := xe (rightH x.h);obtain ⟨r, hr⟩ := xe (!badCert x);rw [← hpv] at HPC PE PS PH ⊢;rw [← hev] at PE LE HRE; rw [← hhv] at PH LH HRH;rw [← hb1] at HRE HBD; rw [← hb2] at HRH HBD; rw [← hr] at HBD ⊢;clear hok hn hpv hev hhv hb1 hb2 hr;refine bq (fun w_ HB => ?_)
 go_enter Tryz.func53, Tryz.ntmps53
 go_wp2_with (with_reducible refine wbx 1 ?_);intro v_ b_ y_ hsz2_;have HX_ := kp (at_mk b_ HPC.o.len);clear b_ hsz2_;have HG_ := kp HB.o.size;replace HB := kp (HB.o.grow' y_);generalize hg_ : w_.heap.size = g1 at HX_ HG_ ⊢;clear hg_;have HX_g := HG_;clear HG_;have HX := HX_;clear y_ HX_;try clear w_
 rename World => w_;have ME := kq (∀ j u, ev[j]? = some u → w_.cell? ⟨g1, 0 + j, none⟩ = some u) (fun j u hu => HX.o.blk.at_ (PE.o j u hu));have c37 := HX.o.blk.at_ PS.o;go_wp2_with (with_reducible refine wlw 4 row_entry ME.o LE.o ?_);refine (HRE.o _).mono ?_;rintro e w_ ⟨rfl, y_⟩;replace HB := kp (HB.o.grow' y_);replace HX := kp (HX.o.grow y_);clear y_;clear ME c37;have c37 := HX.o.blk.at_ PS.o;cases b1 with
 | false =>
  have HN := kq (r = false) (by rw [HBD.o]; simp);go_wp2_with fail;go_ret
  exact ⟨by rw [HN.o]; try first | rfl | simp, HB.o⟩
 | true =>
  have MH := kq (∀ j u, hv[j]? = some u → w_.cell? ⟨g1, 38 + j, none⟩ = some u) (fun j u hu => HX.o.blk.at_ (PH.o j u hu));go_wp2_with (with_reducible refine wlw 8 row_header MH.o LH.o ?_);refine (HRH.o _).mono ?_;rintro e w_ ⟨rfl, y_⟩;replace HB := kp (HB.o.grow' y_);replace HX := kp (HX.o.grow y_);clear y_;clear MH c37;have c37 := HX.o.blk.at_ PS.o;cases b2 with
  | false =>
   have HN := kq (r = false) (by rw [HBD.o]; simp);go_wp2_with fail;go_ret
   exact ⟨by rw [HN.o]; try first | rfl | simp, HB.o⟩
  | true =>
   have HN := kq (r = decide (n ≤ 32)) (by rw [HBD.o]; simp);go_wp2_with fail;go_ret
   exact ⟨by rw [HN.o]; first | rfl | (congr 2; rw [Bool.eq_iff_iff]; simp; done) | (congr 2; simp; done) | (congr 2; simp; omega), HB.o⟩
theorem chk1_any {A : Option Addr} {n c : Nat} {x : Cer} (w : World) (hok : x.ok) (hn : x.path.length = n) :
  Calls Tryz.prog 52 #[.agg (certV (.slice A n c) x).toArray] w fun e w' => e = .returned (.bool (badCert x)) ∧ Grow w w' := by
 have HPC := kp (cerV_cl (v := .slice A n c) rfl hok);have HC := kp (fun w => iscert_any (A := A) (n := n) (c := c) w hok hn);obtain ⟨pv, hpv⟩ := xe (certV (.slice A n c) x);obtain ⟨r, hr⟩ := xe (badCert x);rw [← hpv] at HPC HC ⊢;rw [← hr] at HC ⊢;clear hok hn hpv hr;refine bq (fun w_ HB => ?_)
 go_enter Tryz.func52, Tryz.ntmps52
 go_wp2_with (with_reducible refine wbx 1 ?_);intro v_ b_ y_ hsz2_;have HX_ := kp (at_mk b_ HPC.o.len);clear b_ hsz2_;have HG_ := kp HB.o.size;replace HB := kp (HB.o.grow' y_);generalize hg_ : w_.heap.size = g1 at HX_ HG_ ⊢;clear hg_;have HX_g := HG_;clear HG_;have HX := HX_;clear y_ HX_;try clear w_
 rename World => w_;go_wp2_with (with_reducible refine wlb 3 row_cert HX.o.blk HX.o.len ?_);refine (HC.o _).mono ?_;rintro e w_ ⟨rfl, y_⟩;replace HB := kp (HB.o.grow' y_);replace HX := kp (HX.o.grow y_);clear y_;go_wp2_with fail;go_ret
 exact ⟨by cases r <;> rfl, HB.o⟩
theorem indexc_any {A : Option Addr} {n c : Nat} {l : List (Value × Cer)} (w : World) (hi : CertsAt w A n c l) (hn : n ≤ 1000000) :
  Calls Tryz.prog 84 #[.slice A n c, .func (.func 52) #[] #[]] w fun e w' => ∃ r : Int, e = .returned (.int .i64 r) ∧ (0 ≤ r ↔ (l.map Prod.snd).any badCert = true) ∧ Grow w w' := by
 have HI := kp hi;obtain ⟨w_, hw⟩ := xe w;have HB := kq (Below w.heap.size w w_) (by rw [hw]; exact Below.refl _ _)
 suffices H : Calls Tryz.prog 84 #[.slice A n c, .func (.func 52) #[] #[]] w_ fun e w' => ∃ r : Int, e = .returned (.int .i64 r) ∧ (0 ≤ r ↔ (l.map Prod.snd).any badCert = true) ∧ Grow w w' by rw [hw] at H; exact H
 clear hw hi
 go_enter Tryz.func84, Tryz.ntmps84
 go_wp2_with fail;go_loopw [8] (fun iv wr => ∃ k : Nat, k ≤ n ∧ iv = .int .i64 k ∧ Hid (((l.map Prod.snd).take k).any badCert = false ∧ Below w.heap.size w wr)) (fun iv _ => n - (intOf iv).toNat)
 case atStart => exact ⟨0, by omega, rfl, kp ⟨by simp, HB.o⟩⟩
 case round =>
  obtain ⟨k, hk, rfl, hI⟩ := hrel;clear HB;have HN := kp hI.o.1; have HB := kp hI.o.2;clear hI;rename World => w_;by_cases hlt : k < n
  ·have HII := kp (HI.o.grow HB.o);obtain ⟨b, off, p, P1, pn, pc, rfl, hp, hp1, hok, hid, hbl, hc⟩ := HII.o.at_ hlt;have HC := kp hc;have HPC := kp (cerV_cl (v := .slice P1 pn pc) rfl hok);have HL := kp (fun w => chk1_any (A := P1) (n := pn) (c := pc) w hok hid.2.1);have HSN := kp (any_take badCert (l := l.map Prod.snd) (k := k) (p := p.2) (by rw [List.getElem?_map, hp]; rfl));have HME := kq (p.2 ∈ l.map Prod.snd) (List.mem_map_of_mem (List.mem_of_getElem? hp));obtain ⟨pv, hpv⟩ := xe (certV (.slice P1 pn pc) p.2);rw [← hpv] at HC HPC HL;obtain ⟨lg, hlg⟩ := xe (badCert p.2);have HLG := kp hlg;rw [← hlg] at HL HSN;clear hp hp1 hok hid hbl hc hpv hlg HII;go_wp2_with (with_reducible refine wlm 15 row_cert HC.o HPC.o.len ?_);refine (HL.o _).mono ?_;rintro e v_ ⟨rfl, y_⟩;have HB_ := kp (HB.o.grow' y_);clear y_ HB HL;cases lg with
   | true =>
    go_wp2_with fail;go_ret
    exact ⟨_, rfl, ⟨fun _ => List.any_eq_true.2 ⟨_, HME.o, HLG.o.symm⟩, fun _ => by omega⟩, HB_.o⟩
   | false =>
    go_wp2_with fail;go_roundw
    case rel => exact ⟨k + 1, by omega, by go_num, kp ⟨by rw [HSN.o, HN.o]; rfl, HB_.o⟩⟩
    case measure => simp [intOf]; omega
  ·obtain rfl : k = n := by omega
   have HAN := kq ((l.map Prod.snd).any badCert = false) (by have h := HN.o; rw [List.take_of_length_le (by rw [List.length_map]; have := HI.o.2.2.1; omega)] at h; exact h);go_wp2_with fail;go_ret
   exact ⟨_, rfl, ⟨fun h => by omega, fun h => by rw [HAN.o] at h; cases h⟩, HB.o⟩
theorem containsc_any {A : Option Addr} {n c : Nat} {l : List (Value × Cer)} (w : World) (hi : CertsAt w A n c l) (hn : n ≤ 1000000) :
  Calls Tryz.prog 51 #[.slice A n c, .func (.func 52) #[] #[]] w fun e w' => e = .returned (.bool ((l.map Prod.snd).any badCert)) ∧ Grow w w' := by
 have HI := kp hi;have HX := kp (fun w h => indexc_any (A := A) (n := n) (c := c) (l := l) w h hn);obtain ⟨q, hq⟩ := xe ((l.map Prod.snd).any badCert);rw [← hq] at HX ⊢;clear hi hq
 go_enter Tryz.func51, Tryz.ntmps51
 go_wp2_with fail;refine (HX.o _ HI.o).mono ?_;rintro e v_ ⟨r, rfl, hr, hb⟩;have HB := kp hb;cases q with
 | true =>
  have d0 : decide ((0 : Int) ≤ r) = true := by simpa using hr
  have h0 : 0 ≤ r := by simpa using hr
  clear hr hb;go_wp2_with fail;go_ret
  exact ⟨by first | rfl | simp, HB.o⟩
 | false =>
  have h0 : ¬ 0 ≤ r := by simpa using hr
  have d0 : decide ((0 : Int) ≤ r) = false := by simpa using h0
  clear hr hb;go_wp2_with fail;go_ret
  exact ⟨by first | rfl | simp, HB.o⟩
theorem lt_fe {a b : Int} (h : ¬ a < b) : (a < b) = False := eq_false h
theorem hastx_any (k : Int) (w : World) : Calls Tryz.prog 21 #[.int .i64 k] w fun e w' => e = .returned (.bool (hasTxK k)) ∧ Grow w w' := by
 go_enter Tryz.func21, Tryz.ntmps21
 rcases Int.lt_or_le k 2 with h1 | h1
 ·have HN := kq (hasTxK k = false) (by unfold hasTxK; simp; omega);have y1 : (2 ≤ k) = False := eq_false (by omega);go_wp2_with fail;go_ret
  exact ⟨by rw [HN.o]; try first | rfl | simp, Below.refl _ _⟩
 rcases Int.lt_or_le 6 k with h2 | h2
 ·have HN := kq (hasTxK k = false) (by unfold hasTxK; simp; omega);have y1 : (k ≤ 6) = False := eq_false (by omega);go_wp2_with fail;go_ret
  exact ⟨by rw [HN.o]; try first | rfl | simp, Below.refl _ _⟩
 have HN := kq (hasTxK k = true) (by unfold hasTxK; simp; omega);go_wp2_with fail;go_ret
 exact ⟨by rw [HN.o]; try first | rfl | simp, Below.refl _ _⟩
theorem hasc_any (k : Int) (w : World) : Calls Tryz.prog 24 #[.int .i64 k] w fun e w' => e = .returned (.bool (hasCK k)) ∧ Grow w w' := by
 go_enter Tryz.func24, Tryz.ntmps24
 rcases Int.lt_or_le k 4 with h1 | h1
 ·have HN := kq (hasCK k = false) (by unfold hasCK; simp; omega);have y1 : (4 ≤ k) = False := eq_false (by omega);go_wp2_with fail;go_ret
  exact ⟨by rw [HN.o]; try first | rfl | simp, Below.refl _ _⟩
 rcases Int.lt_or_le 6 k with h2 | h2
 ·have HN := kq (hasCK k = false) (by unfold hasCK; simp; omega);have y1 : (k ≤ 6) = False := eq_false (by omega);go_wp2_with fail;go_ret
  exact ⟨by rw [HN.o]; try first | rfl | simp, Below.refl _ _⟩
 have HN := kq (hasCK k = true) (by unfold hasCK; simp; omega);go_wp2_with fail;go_ret
 exact ⟨by rw [HN.o]; try first | rfl | simp, Below.refl _ _⟩
theorem cmcheck_any {q : CW} {m : Cmd} (w : World) (h : CmdAt w q m) (hs : SmallC m) :
  Calls Tryz.prog 18 #[.agg (q.vs m).toArray] w fun e w' => e = .returned (.int .i64 (checkC m)) ∧ Grow w w' := by
 have HXC := kp (vs_cl (q := q) h.ok);have HUC := kp (vs_cl (q := usedW q m) (usedC_ok h.ok));have X0 := kp (vs_kind q m); have X5 := kp (vs_certs q m);have X39 := kp (vs_serial (q := q) h.ok.2.2.2.1); have X40 := kp (vs_epoch (q := q) h.ok.2.2.2.1);have XA := kq ((q.vs m)[38]? = some (.int .u64 m.dest.amount)) (vs_to (j := 32) (by unfold outV; rw [List.getElem?_append_right (by simp [h.ok.2.2.2.1.1])]; simp [h.ok.2.2.2.1.1]));have XX := kp (fun j u (hu : (q.tv m)[j]? = some u) => vs_tx hu);have LX := kq ((q.tv m).length = 4) rfl;have hn3 : m.certs.length = q.n3 := h.n3;have hn5 : q.n3 ≤ 100000 := by rw [← hn3]; exact hs.2.2.2.1
 have HUS := kp (fun w' => cmused_any (q := q) (m := m) w' h.ok);obtain ⟨sm, hsm⟩ := bool_of (m = usedC m);have HSAME := kp (fun (w' : World) (hg : Grow w w') => cmsame_any (res := sm) hsm w' (h.grow hg) ((usedW_at h).grow hg) hs)
 have HTK := kp (fun (w' : World) (hg : Grow w w') => show Calls Tryz.prog 50 #[.agg (q.tv m).toArray] w' fun e w'' => e = .returned (.int .i64 (checkT m.tx)) ∧ Grow w' w'' from by
  have := tcheck_any w' (h.ins.grow hg) (h.outs.grow hg) (by rw [← h.n1]; exact Nat.le_trans hs.1 (by decide)) (by rw [← h.n2]; exact Nat.le_trans hs.2.1 (by decide)) h.ok.2.1.2.2.1 h.ok.2.1.2.2.2
  rw [h.tx] at this; exact this)
 have HBC := kp (fun (w' : World) (hg : Grow w w') => show Calls Tryz.prog 51 #[.slice q.A3 q.n3 q.c3, .func (.func 52) #[] #[]] w' fun e w'' => e = .returned (.bool (m.certs.any badCert)) ∧ Grow w' w'' from by
  have := containsc_any w' (h.certs.grow hg) (by omega)
  rw [← h.certsE] at this; exact this)
 have HHT := kp (fun w' => hastx_any m.kind w')
 have HCK := kp (show checkC m = if m.kind < 1 ∨ 9 < m.kind then 25 else if !sm || wrong3 m then 1 else if 16 < q.n3 then 27 else if hasTxK m.kind && !decide (checkT m.tx = 0) then checkT m.tx else if m.certs.any badCert then 16 else 0 by
  have e : sm = !(wrong1 m || wrong2 m) := by
   rw [Bool.eq_iff_iff, hsm, used_iff]; simp
  unfold checkC; rw [hn3, e]; simp)
 obtain ⟨ck, hck⟩ := xe (checkC m);obtain ⟨w3b, hw3b⟩ := xe (wrong3 m);have HW3 := kp hw3b;unfold wrong3 at HW3;obtain ⟨tk, htk⟩ := xe (checkT m.tx);obtain ⟨bc, hbc⟩ := xe (m.certs.any badCert);rw [← hck] at HCK ⊢;rw [← hw3b, ← htk, ← hbc] at HCK; rw [← htk] at HTK; rw [← hbc] at HBC;obtain ⟨xv, hxv⟩ := xe (q.vs m);obtain ⟨uv, huv⟩ := xe ((usedW q m).vs (usedC m));obtain ⟨tv, htv⟩ := xe (q.tv m);rw [← hxv] at HXC X0 X5 X39 X40 XA XX HUS HSAME ⊢;rw [← huv] at HUC HUS HSAME; rw [← htv] at XX LX HTK;obtain ⟨k, hk⟩ := xe m.kind;obtain ⟨se, hse⟩ := xe m.serial;obtain ⟨ep, hep⟩ := xe m.epoch;obtain ⟨am, ham⟩ := xe m.dest.amount;rw [← hk] at X0 HCK HHT; rw [← hse] at X39 HW3; rw [← hep] at X40 HW3; rw [← ham] at XA HW3;obtain ⟨A, n, c, A2, n2, c2, A3, n3, c3, l, cl⟩ := q;simp only at hn3 hn5 X5 HCK HBC;have hn30 : (0 : Int) ≤ (n3 : Int) := by omega
 clear h hs hsm hck hw3b htk hbc hxv huv htv hk hse hep ham hn3;refine bq (fun w_ HB => ?_)
 go_enter Tryz.func18, Tryz.ntmps18
 go_wp2_with (with_reducible refine wbx 1 ?_);intro v_ b_ y_ hsz2_;have HX_ := kp (at_mk b_ HXC.o.len);clear b_ hsz2_;have HG_ := kp HB.o.size;replace HB := kp (HB.o.grow' y_);generalize hg_ : w_.heap.size = g1 at HX_ HG_ ⊢;clear hg_;have HM_g := HG_;clear HG_;have HM := HX_;clear y_ HX_;try clear w_
 rename World => w_;have c0 := HM.o.blk.at_ X0.o;rcases Int.lt_or_le k 1 with hk1 | hk1
 ·have HN := kq (ck = 25) (by rw [HCK.o, if_pos (.inl hk1)]);go_wp2_with fail;go_ret
  exact ⟨by rw [HN.o]; try first | rfl | simp, HB.o⟩
 rcases Int.lt_or_le 9 k with hk9 | hk9
 ·have HN := kq (ck = 25) (by rw [HCK.o, if_pos (.inr hk9)]);have z1 := lt_fe (a := k) (b := 1) (by omega);go_wp2_with fail;go_ret
  exact ⟨by rw [HN.o]; try first | rfl | simp, HB.o⟩
 have HCK2 := kq (ck = if !sm || w3b then 1 else if 16 < n3 then 27 else if hasTxK k && !decide (tk = 0) then tk else if bc then 16 else 0) (by rw [HCK.o, if_neg (by omega)]);have z1 := lt_fe (a := k) (b := 1) (by omega);have z2 := lt_fe (a := 9) (b := k) (by omega);clear HCK
 go_upto_region 3 with fail
 clear z1 z2
 go_cut [13] from 14 to 44 (fun s13 wr => s13 = .bool (!sm || w3b) ∧ Hid (At wr g1 36 73 xv ∧ Below w.heap.size w wr))
 case first =>
  cases sm with
  | false =>
   have HW := kq ((!false || w3b) = true) (by simp);try go_wp2_with fail
   repeat' (first | (with_reducible refine wp_flow (id := 3) [0,0,2,7,15,31,63,127,255,511,1023,2047,4095,8191,16383,32767,65535,131071,262143,524287,1048575,2097151,4194303,8388607,16777215,33554431,67108863,134217727,268435455,536870911,1073741823,2147483647] [0,0,3,3,0,0,0,0,0,0,0,0,0,0,0,0,0,0,0,0,0,0,0,0,0,0,0,0,0,0,0,0] (fun i => match i with | 2 => spV (.agg uv.toArray) | 3 => spV (.bool false) | _ => spV undef) (by kernel_rfl) (by kernel_rfl) ?_) | go_values | go_skip | go_guarded | go_step | go_upon | go_back)
   intro w_ hd_;have y_ := hd_.grow;replace HB := kp (HB.o.grow' y_);replace HM := kp (HM.o.grow y_);clear y_ hd_;show wpL _ _ _ _ _ _ _ [0,1,2,3,4,5,6,7,8,9,10,11,12,13,14,15,16,17,18,19,20,21,22,23,24,25,26,27,28,29,30,31] _ _
   have c39 := HM.o.blk.at_ X39.o; have c40 := HM.o.blk.at_ X40.o; have c38 := HM.o.blk.at_ XA.o;repeat (first | (refine fl_loadb rfl (by decide) (by first | exact wanted_none rfl | (go_simp; done) | fail) rfl row_cmd HM.o.blk (by first | rfl | (go_simp; done) | rfl) HM.o.len (fun K hK => ?_); go_simp; refine hK _ ?_; clear hK K) | (refine fl_skip rfl (by first | (go_simp; done) | fail) (fun K hK => ?_); go_simp; refine hK _ ?_; clear hK K) | (refine flc (fun K hK => ?_); go_simp; refine hK _ ?_; clear hK K))
   refine flv (fun v_ hg_ hL_ => ?_) (fun K hK => ?_)
   ·skip
    replace HB := kp (HB.o.grow' hg_);replace HM := kp (HM.o.grow hg_);exact (HUS.o _)
   go_simp;refine hK _ ?_;clear hK K;repeat (first | (refine fl_loadb rfl (by decide) (by first | exact wanted_none rfl | (go_simp; done) | fail) rfl row_cmd HM.o.blk (by first | rfl | (go_simp; done) | rfl) HM.o.len (fun K hK => ?_); go_simp; refine hK _ ?_; clear hK K) | (refine fl_skip rfl (by first | (go_simp; done) | fail) (fun K hK => ?_); go_simp; refine hK _ ?_; clear hK K) | (refine flc (fun K hK => ?_); go_simp; refine hK _ ?_; clear hK K))
   refine flv (fun v_ hg_ hL_ => ?_) (fun K hK => ?_)
   ·skip
    replace HB := kp (HB.o.grow' hg_);replace HM := kp (HM.o.grow hg_);exact (HSAME.o _ HB.o)
   go_simp;refine hK _ ?_;clear hK K;repeat (first | (refine flc (fun K hK => ?_); go_simp; refine hK _ ?_; clear hK K) | (refine fl_skip rfl (by first | (go_simp; done) | fail) (fun K hK => ?_); go_simp; refine hK _ ?_; clear hK K) | (refine fl_load rfl (by decide) (by first | exact wanted_none rfl | (go_simp; done) | fail) rfl (by first | rfl | (go_simp; rfl)) (by kernel_rfl) (by first | exact c39 | exact c40 | exact c38) (fun K hK => ?_); go_simp; refine hK _ ?_; clear hK K) | (refine fl_loadb rfl (by decide) (by first | exact wanted_none rfl | (go_simp; done) | fail) rfl row_cmd HM.o.blk (by first | rfl | (go_simp; done) | rfl) HM.o.len (fun K hK => ?_); go_simp; refine hK _ ?_; clear hK K))
   clear c39 c40 c38;refine fl_done ?_;intro v_ hg_ hL_;replace HB := kp (HB.o.grow' hg_);replace HM := kp (HM.o.grow hg_);clear hg_ hL_;try clear w_
   rename World => w_;go_wp2_with fail
   go_meet
   case rel => exact ⟨by rw [HW.o]; try first | rfl | simp, kp ⟨HM.o, HB.o⟩⟩
  | true =>
  rcases Int.lt_or_le se 0 with r1 | r1
  ·have HW := kq ((!true || w3b) = true) (by rw [HW3.o]; simp [r1]);try go_wp2_with fail
   repeat' (first | (with_reducible refine wp_flow (id := 3) [0,0,2,7,15,31,63,127,255,511,1023,2047,4095,8191,16383,32767,65535,131071,262143,524287,1048575,2097151,4194303,8388607,16777215,33554431,67108863,134217727,268435455,536870911,1073741823,2147483647] [0,0,3,3,0,0,0,0,0,0,0,0,0,0,0,0,0,0,0,0,0,0,0,0,0,0,0,0,0,0,0,0] (fun i => match i with | 2 => spV (.agg uv.toArray) | 3 => spV (.bool true) | _ => spV undef) (by kernel_rfl) (by kernel_rfl) ?_) | go_values | go_skip | go_guarded | go_step | go_upon | go_back)
   intro w_ hd_;have y_ := hd_.grow;replace HB := kp (HB.o.grow' y_);replace HM := kp (HM.o.grow y_);clear y_ hd_;show wpL _ _ _ _ _ _ _ [0,1,2,3,4,5,6,7,8,9,10,11,12,13,14,15,16,17,18,19,20,21,22,23,24,25,26,27,28,29,30,31] _ _
   have c39 := HM.o.blk.at_ X39.o; have c40 := HM.o.blk.at_ X40.o; have c38 := HM.o.blk.at_ XA.o;repeat (first | (refine fl_loadb rfl (by decide) (by first | exact wanted_none rfl | (go_simp; done) | fail) rfl row_cmd HM.o.blk (by first | rfl | (go_simp; done) | rfl) HM.o.len (fun K hK => ?_); go_simp; refine hK _ ?_; clear hK K) | (refine fl_skip rfl (by first | (go_simp; done) | fail) (fun K hK => ?_); go_simp; refine hK _ ?_; clear hK K) | (refine flc (fun K hK => ?_); go_simp; refine hK _ ?_; clear hK K))
   refine flv (fun v_ hg_ hL_ => ?_) (fun K hK => ?_)
   ·skip
    replace HB := kp (HB.o.grow' hg_);replace HM := kp (HM.o.grow hg_);exact (HUS.o _)
   go_simp;refine hK _ ?_;clear hK K;repeat (first | (refine fl_loadb rfl (by decide) (by first | exact wanted_none rfl | (go_simp; done) | fail) rfl row_cmd HM.o.blk (by first | rfl | (go_simp; done) | rfl) HM.o.len (fun K hK => ?_); go_simp; refine hK _ ?_; clear hK K) | (refine fl_skip rfl (by first | (go_simp; done) | fail) (fun K hK => ?_); go_simp; refine hK _ ?_; clear hK K) | (refine flc (fun K hK => ?_); go_simp; refine hK _ ?_; clear hK K))
   refine flv (fun v_ hg_ hL_ => ?_) (fun K hK => ?_)
   ·skip
    replace HB := kp (HB.o.grow' hg_);replace HM := kp (HM.o.grow hg_);exact (HSAME.o _ HB.o)
   go_simp;refine hK _ ?_;clear hK K;repeat (first | (refine flc (fun K hK => ?_); go_simp; refine hK _ ?_; clear hK K) | (refine fl_skip rfl (by first | (go_simp; done) | fail) (fun K hK => ?_); go_simp; refine hK _ ?_; clear hK K) | (refine fl_load rfl (by decide) (by first | exact wanted_none rfl | (go_simp; done) | fail) rfl (by first | rfl | (go_simp; rfl)) (by kernel_rfl) (by first | exact c39 | exact c40 | exact c38) (fun K hK => ?_); go_simp; refine hK _ ?_; clear hK K) | (refine fl_loadb rfl (by decide) (by first | exact wanted_none rfl | (go_simp; done) | fail) rfl row_cmd HM.o.blk (by first | rfl | (go_simp; done) | rfl) HM.o.len (fun K hK => ?_); go_simp; refine hK _ ?_; clear hK K))
   clear c39 c40 c38;refine fl_done ?_;intro v_ hg_ hL_;replace HB := kp (HB.o.grow' hg_);replace HM := kp (HM.o.grow hg_);clear hg_ hL_;try clear w_
   rename World => w_;go_wp2_with fail
   go_meet
   case rel => exact ⟨by rw [HW.o]; try first | rfl | simp, kp ⟨HM.o, HB.o⟩⟩
  have y_r1 := lt_fe (a := se) (b := 0) (by omega);rcases Int.lt_or_le (1099511627776 : Int) se with r2 | r2
  ·have HW := kq ((!true || w3b) = true) (by rw [HW3.o]; simp [r2]);try go_wp2_with fail
   repeat' (first | (with_reducible refine wp_flow (id := 3) [0,0,2,7,15,31,63,127,255,511,1023,2047,4095,8191,16383,32767,65535,131071,262143,524287,1048575,2097151,4194303,8388607,16777215,33554431,67108863,134217727,268435455,536870911,1073741823,2147483647] [0,0,3,3,0,0,0,0,0,0,0,0,0,0,0,0,0,0,0,0,0,0,0,0,0,0,0,0,0,0,0,0] (fun i => match i with | 2 => spV (.agg uv.toArray) | 3 => spV (.bool true) | _ => spV undef) (by kernel_rfl) (by kernel_rfl) ?_) | go_values | go_skip | go_guarded | go_step | go_upon | go_back)
   intro w_ hd_;have y_ := hd_.grow;replace HB := kp (HB.o.grow' y_);replace HM := kp (HM.o.grow y_);clear y_ hd_;show wpL _ _ _ _ _ _ _ [0,1,2,3,4,5,6,7,8,9,10,11,12,13,14,15,16,17,18,19,20,21,22,23,24,25,26,27,28,29,30,31] _ _
   have c39 := HM.o.blk.at_ X39.o; have c40 := HM.o.blk.at_ X40.o; have c38 := HM.o.blk.at_ XA.o;repeat (first | (refine fl_loadb rfl (by decide) (by first | exact wanted_none rfl | (go_simp; done) | fail) rfl row_cmd HM.o.blk (by first | rfl | (go_simp; done) | rfl) HM.o.len (fun K hK => ?_); go_simp; refine hK _ ?_; clear hK K) | (refine fl_skip rfl (by first | (go_simp; done) | fail) (fun K hK => ?_); go_simp; refine hK _ ?_; clear hK K) | (refine flc (fun K hK => ?_); go_simp; refine hK _ ?_; clear hK K))
   refine flv (fun v_ hg_ hL_ => ?_) (fun K hK => ?_)
   ·skip
    replace HB := kp (HB.o.grow' hg_);replace HM := kp (HM.o.grow hg_);exact (HUS.o _)
   go_simp;refine hK _ ?_;clear hK K;repeat (first | (refine fl_loadb rfl (by decide) (by first | exact wanted_none rfl | (go_simp; done) | fail) rfl row_cmd HM.o.blk (by first | rfl | (go_simp; done) | rfl) HM.o.len (fun K hK => ?_); go_simp; refine hK _ ?_; clear hK K) | (refine fl_skip rfl (by first | (go_simp; done) | fail) (fun K hK => ?_); go_simp; refine hK _ ?_; clear hK K) | (refine flc (fun K hK => ?_); go_simp; refine hK _ ?_; clear hK K))
   refine flv (fun v_ hg_ hL_ => ?_) (fun K hK => ?_)
   ·skip
    replace HB := kp (HB.o.grow' hg_);replace HM := kp (HM.o.grow hg_);exact (HSAME.o _ HB.o)
   go_simp;refine hK _ ?_;clear hK K;repeat (first | (refine flc (fun K hK => ?_); go_simp; refine hK _ ?_; clear hK K) | (refine fl_skip rfl (by first | (go_simp; done) | fail) (fun K hK => ?_); go_simp; refine hK _ ?_; clear hK K) | (refine fl_load rfl (by decide) (by first | exact wanted_none rfl | (go_simp; done) | fail) rfl (by first | rfl | (go_simp; rfl)) (by kernel_rfl) (by first | exact c39 | exact c40 | exact c38) (fun K hK => ?_); go_simp; refine hK _ ?_; clear hK K) | (refine fl_loadb rfl (by decide) (by first | exact wanted_none rfl | (go_simp; done) | fail) rfl row_cmd HM.o.blk (by first | rfl | (go_simp; done) | rfl) HM.o.len (fun K hK => ?_); go_simp; refine hK _ ?_; clear hK K))
   clear c39 c40 c38;refine fl_done ?_;intro v_ hg_ hL_;replace HB := kp (HB.o.grow' hg_);replace HM := kp (HM.o.grow hg_);clear hg_ hL_;try clear w_
   rename World => w_;go_wp2_with fail
   go_meet
   case rel => exact ⟨by rw [HW.o]; try first | rfl | simp, kp ⟨HM.o, HB.o⟩⟩
  have y_r2 := lt_fe (a := 1099511627776) (b := se) (by omega);rcases Int.lt_or_le (4611686018427387904 : Int) am with r3 | r3
  ·have HW := kq ((!true || w3b) = true) (by rw [HW3.o]; simp [r3]);try go_wp2_with fail
   repeat' (first | (with_reducible refine wp_flow (id := 3) [0,0,2,7,15,31,63,127,255,511,1023,2047,4095,8191,16383,32767,65535,131071,262143,524287,1048575,2097151,4194303,8388607,16777215,33554431,67108863,134217727,268435455,536870911,1073741823,2147483647] [0,0,3,3,0,0,0,0,0,0,0,0,0,0,0,0,0,0,0,0,0,0,0,0,0,0,0,0,0,0,0,0] (fun i => match i with | 2 => spV (.agg uv.toArray) | 3 => spV (.bool true) | _ => spV undef) (by kernel_rfl) (by kernel_rfl) ?_) | go_values | go_skip | go_guarded | go_step | go_upon | go_back)
   intro w_ hd_;have y_ := hd_.grow;replace HB := kp (HB.o.grow' y_);replace HM := kp (HM.o.grow y_);clear y_ hd_;show wpL _ _ _ _ _ _ _ [0,1,2,3,4,5,6,7,8,9,10,11,12,13,14,15,16,17,18,19,20,21,22,23,24,25,26,27,28,29,30,31] _ _
   have c39 := HM.o.blk.at_ X39.o; have c40 := HM.o.blk.at_ X40.o; have c38 := HM.o.blk.at_ XA.o;repeat (first | (refine fl_loadb rfl (by decide) (by first | exact wanted_none rfl | (go_simp; done) | fail) rfl row_cmd HM.o.blk (by first | rfl | (go_simp; done) | rfl) HM.o.len (fun K hK => ?_); go_simp; refine hK _ ?_; clear hK K) | (refine fl_skip rfl (by first | (go_simp; done) | fail) (fun K hK => ?_); go_simp; refine hK _ ?_; clear hK K) | (refine flc (fun K hK => ?_); go_simp; refine hK _ ?_; clear hK K))
   refine flv (fun v_ hg_ hL_ => ?_) (fun K hK => ?_)
   ·skip
    replace HB := kp (HB.o.grow' hg_);replace HM := kp (HM.o.grow hg_);exact (HUS.o _)
   go_simp;refine hK _ ?_;clear hK K;repeat (first | (refine fl_loadb rfl (by decide) (by first | exact wanted_none rfl | (go_simp; done) | fail) rfl row_cmd HM.o.blk (by first | rfl | (go_simp; done) | rfl) HM.o.len (fun K hK => ?_); go_simp; refine hK _ ?_; clear hK K) | (refine fl_skip rfl (by first | (go_simp; done) | fail) (fun K hK => ?_); go_simp; refine hK _ ?_; clear hK K) | (refine flc (fun K hK => ?_); go_simp; refine hK _ ?_; clear hK K))
   refine flv (fun v_ hg_ hL_ => ?_) (fun K hK => ?_)
   ·skip
    replace HB := kp (HB.o.grow' hg_);replace HM := kp (HM.o.grow hg_);exact (HSAME.o _ HB.o)
   go_simp;refine hK _ ?_;clear hK K;repeat (first | (refine flc (fun K hK => ?_); go_simp; refine hK _ ?_; clear hK K) | (refine fl_skip rfl (by first | (go_simp; done) | fail) (fun K hK => ?_); go_simp; refine hK _ ?_; clear hK K) | (refine fl_load rfl (by decide) (by first | exact wanted_none rfl | (go_simp; done) | fail) rfl (by first | rfl | (go_simp; rfl)) (by kernel_rfl) (by first | exact c39 | exact c40 | exact c38) (fun K hK => ?_); go_simp; refine hK _ ?_; clear hK K) | (refine fl_loadb rfl (by decide) (by first | exact wanted_none rfl | (go_simp; done) | fail) rfl row_cmd HM.o.blk (by first | rfl | (go_simp; done) | rfl) HM.o.len (fun K hK => ?_); go_simp; refine hK _ ?_; clear hK K))
   clear c39 c40 c38;refine fl_done ?_;intro v_ hg_ hL_;replace HB := kp (HB.o.grow' hg_);replace HM := kp (HM.o.grow hg_);clear hg_ hL_;try clear w_
   rename World => w_;go_wp2_with fail
   go_meet
   case rel => exact ⟨by rw [HW.o]; try first | rfl | simp, kp ⟨HM.o, HB.o⟩⟩
  have y_r3 := lt_fe (a := 4611686018427387904) (b := am) (by omega);rcases Int.lt_or_le ep 0 with r4 | r4
  ·have HW := kq ((!true || w3b) = true) (by rw [HW3.o]; simp [r4]);try go_wp2_with fail
   repeat' (first | (with_reducible refine wp_flow (id := 3) [0,0,2,7,15,31,63,127,255,511,1023,2047,4095,8191,16383,32767,65535,131071,262143,524287,1048575,2097151,4194303,8388607,16777215,33554431,67108863,134217727,268435455,536870911,1073741823,2147483647] [0,0,3,3,0,0,0,0,0,0,0,0,0,0,0,0,0,0,0,0,0,0,0,0,0,0,0,0,0,0,0,0] (fun i => match i with | 2 => spV (.agg uv.toArray) | 3 => spV (.bool true) | _ => spV undef) (by kernel_rfl) (by kernel_rfl) ?_) | go_values | go_skip | go_guarded | go_step | go_upon | go_back)
   intro w_ hd_;have y_ := hd_.grow;replace HB := kp (HB.o.grow' y_);replace HM := kp (HM.o.grow y_);clear y_ hd_;show wpL _ _ _ _ _ _ _ [0,1,2,3,4,5,6,7,8,9,10,11,12,13,14,15,16,17,18,19,20,21,22,23,24,25,26,27,28,29,30,31] _ _
   have c39 := HM.o.blk.at_ X39.o; have c40 := HM.o.blk.at_ X40.o; have c38 := HM.o.blk.at_ XA.o;repeat (first | (refine fl_loadb rfl (by decide) (by first | exact wanted_none rfl | (go_simp; done) | fail) rfl row_cmd HM.o.blk (by first | rfl | (go_simp; done) | rfl) HM.o.len (fun K hK => ?_); go_simp; refine hK _ ?_; clear hK K) | (refine fl_skip rfl (by first | (go_simp; done) | fail) (fun K hK => ?_); go_simp; refine hK _ ?_; clear hK K) | (refine flc (fun K hK => ?_); go_simp; refine hK _ ?_; clear hK K))
   refine flv (fun v_ hg_ hL_ => ?_) (fun K hK => ?_)
   ·skip
    replace HB := kp (HB.o.grow' hg_);replace HM := kp (HM.o.grow hg_);exact (HUS.o _)
   go_simp;refine hK _ ?_;clear hK K;repeat (first | (refine fl_loadb rfl (by decide) (by first | exact wanted_none rfl | (go_simp; done) | fail) rfl row_cmd HM.o.blk (by first | rfl | (go_simp; done) | rfl) HM.o.len (fun K hK => ?_); go_simp; refine hK _ ?_; clear hK K) | (refine fl_skip rfl (by first | (go_simp; done) | fail) (fun K hK => ?_); go_simp; refine hK _ ?_; clear hK K) | (refine flc (fun K hK => ?_); go_simp; refine hK _ ?_; clear hK K))
   refine flv (fun v_ hg_ hL_ => ?_) (fun K hK => ?_)
   ·skip
    replace HB := kp (HB.o.grow' hg_);replace HM := kp (HM.o.grow hg_);exact (HSAME.o _ HB.o)
   go_simp;refine hK _ ?_;clear hK K;repeat (first | (refine flc (fun K hK => ?_); go_simp; refine hK _ ?_; clear hK K) | (refine fl_skip rfl (by first | (go_simp; done) | fail) (fun K hK => ?_); go_simp; refine hK _ ?_; clear hK K) | (refine fl_load rfl (by decide) (by first | exact wanted_none rfl | (go_simp; done) | fail) rfl (by first | rfl | (go_simp; rfl)) (by kernel_rfl) (by first | exact c39 | exact c40 | exact c38) (fun K hK => ?_); go_simp; refine hK _ ?_; clear hK K) | (refine fl_loadb rfl (by decide) (by first | exact wanted_none rfl | (go_simp; done) | fail) rfl row_cmd HM.o.blk (by first | rfl | (go_simp; done) | rfl) HM.o.len (fun K hK => ?_); go_simp; refine hK _ ?_; clear hK K))
   clear c39 c40 c38;refine fl_done ?_;intro v_ hg_ hL_;replace HB := kp (HB.o.grow' hg_);replace HM := kp (HM.o.grow hg_);clear hg_ hL_;try clear w_
   rename World => w_;go_wp2_with fail
   go_meet
   case rel => exact ⟨by rw [HW.o]; try first | rfl | simp, kp ⟨HM.o, HB.o⟩⟩
  have y_r4 := lt_fe (a := ep) (b := 0) (by omega);rcases Int.lt_or_le (1099511627776 : Int) ep with r5 | r5
  ·have HW := kq ((!true || w3b) = true) (by rw [HW3.o]; simp [r5]);try go_wp2_with fail
   repeat' (first | (with_reducible refine wp_flow (id := 3) [0,0,2,7,15,31,63,127,255,511,1023,2047,4095,8191,16383,32767,65535,131071,262143,524287,1048575,2097151,4194303,8388607,16777215,33554431,67108863,134217727,268435455,536870911,1073741823,2147483647] [0,0,3,3,0,0,0,0,0,0,0,0,0,0,0,0,0,0,0,0,0,0,0,0,0,0,0,0,0,0,0,0] (fun i => match i with | 2 => spV (.agg uv.toArray) | 3 => spV (.bool true) | _ => spV undef) (by kernel_rfl) (by kernel_rfl) ?_) | go_values | go_skip | go_guarded | go_step | go_upon | go_back)
   intro w_ hd_;have y_ := hd_.grow;replace HB := kp (HB.o.grow' y_);replace HM := kp (HM.o.grow y_);clear y_ hd_;show wpL _ _ _ _ _ _ _ [0,1,2,3,4,5,6,7,8,9,10,11,12,13,14,15,16,17,18,19,20,21,22,23,24,25,26,27,28,29,30,31] _ _
   have c39 := HM.o.blk.at_ X39.o; have c40 := HM.o.blk.at_ X40.o; have c38 := HM.o.blk.at_ XA.o;repeat (first | (refine fl_loadb rfl (by decide) (by first | exact wanted_none rfl | (go_simp; done) | fail) rfl row_cmd HM.o.blk (by first | rfl | (go_simp; done) | rfl) HM.o.len (fun K hK => ?_); go_simp; refine hK _ ?_; clear hK K) | (refine fl_skip rfl (by first | (go_simp; done) | fail) (fun K hK => ?_); go_simp; refine hK _ ?_; clear hK K) | (refine flc (fun K hK => ?_); go_simp; refine hK _ ?_; clear hK K))
   refine flv (fun v_ hg_ hL_ => ?_) (fun K hK => ?_)
   ·skip
    replace HB := kp (HB.o.grow' hg_);replace HM := kp (HM.o.grow hg_);exact (HUS.o _)
   go_simp;refine hK _ ?_;clear hK K;repeat (first | (refine fl_loadb rfl (by decide) (by first | exact wanted_none rfl | (go_simp; done) | fail) rfl row_cmd HM.o.blk (by first | rfl | (go_simp; done) | rfl) HM.o.len (fun K hK => ?_); go_simp; refine hK _ ?_; clear hK K) | (refine fl_skip rfl (by first | (go_simp; done) | fail) (fun K hK => ?_); go_simp; refine hK _ ?_; clear hK K) | (refine flc (fun K hK => ?_); go_simp; refine hK _ ?_; clear hK K))
   refine flv (fun v_ hg_ hL_ => ?_) (fun K hK => ?_)
   ·skip
    replace HB := kp (HB.o.grow' hg_);replace HM := kp (HM.o.grow hg_);exact (HSAME.o _ HB.o)
   go_simp;refine hK _ ?_;clear hK K;repeat (first | (refine flc (fun K hK => ?_); go_simp; refine hK _ ?_; clear hK K) | (refine fl_skip rfl (by first | (go_simp; done) | fail) (fun K hK => ?_); go_simp; refine hK _ ?_; clear hK K) | (refine fl_load rfl (by decide) (by first | exact wanted_none rfl | (go_simp; done) | fail) rfl (by first | rfl | (go_simp; rfl)) (by kernel_rfl) (by first | exact c39 | exact c40 | exact c38) (fun K hK => ?_); go_simp; refine hK _ ?_; clear hK K) | (refine fl_loadb rfl (by decide) (by first | exact wanted_none rfl | (go_simp; done) | fail) rfl row_cmd HM.o.blk (by first | rfl | (go_simp; done) | rfl) HM.o.len (fun K hK => ?_); go_simp; refine hK _ ?_; clear hK K))
   clear c39 c40 c38;refine fl_done ?_;intro v_ hg_ hL_;replace HB := kp (HB.o.grow' hg_);replace HM := kp (HM.o.grow hg_);clear hg_ hL_;try clear w_
   rename World => w_;go_wp2_with fail
   go_meet
   case rel => exact ⟨by rw [HW.o]; try first | rfl | simp, kp ⟨HM.o, HB.o⟩⟩
  have y_r5 := lt_fe (a := 1099511627776) (b := ep) (by omega);have HW := kq ((!true || w3b) = false) (by rw [HW3.o]; simp [y_r1, y_r2, y_r3, y_r4, y_r5]);try go_wp2_with fail
  repeat' (first | (with_reducible refine wp_flow (id := 3) [0,0,2,7,15,31,63,127,255,511,1023,2047,4095,8191,16383,32767,65535,131071,262143,524287,1048575,2097151,4194303,8388607,16777215,33554431,67108863,134217727,268435455,536870911,1073741823,2147483647] [0,0,3,3,0,0,0,0,0,0,0,0,0,0,0,0,0,0,0,0,0,0,0,0,0,0,0,0,0,0,0,0] (fun i => match i with | 2 => spV (.agg uv.toArray) | 3 => spV (.bool true) | _ => spV undef) (by kernel_rfl) (by kernel_rfl) ?_) | go_values | go_skip | go_guarded | go_step | go_upon | go_back)
  intro w_ hd_;have y_ := hd_.grow;replace HB := kp (HB.o.grow' y_);replace HM := kp (HM.o.grow y_);clear y_ hd_;show wpL _ _ _ _ _ _ _ [0,1,2,3,4,5,6,7,8,9,10,11,12,13,14,15,16,17,18,19,20,21,22,23,24,25,26,27,28,29,30,31] _ _
  have c39 := HM.o.blk.at_ X39.o; have c40 := HM.o.blk.at_ X40.o; have c38 := HM.o.blk.at_ XA.o;repeat (first | (refine fl_loadb rfl (by decide) (by first | exact wanted_none rfl | (go_simp; done) | fail) rfl row_cmd HM.o.blk (by first | rfl | (go_simp; done) | rfl) HM.o.len (fun K hK => ?_); go_simp; refine hK _ ?_; clear hK K) | (refine fl_skip rfl (by first | (go_simp; done) | fail) (fun K hK => ?_); go_simp; refine hK _ ?_; clear hK K) | (refine flc (fun K hK => ?_); go_simp; refine hK _ ?_; clear hK K))
  refine flv (fun v_ hg_ hL_ => ?_) (fun K hK => ?_)
  ·skip
   replace HB := kp (HB.o.grow' hg_);replace HM := kp (HM.o.grow hg_);exact (HUS.o _)
  go_simp;refine hK _ ?_;clear hK K;repeat (first | (refine fl_loadb rfl (by decide) (by first | exact wanted_none rfl | (go_simp; done) | fail) rfl row_cmd HM.o.blk (by first | rfl | (go_simp; done) | rfl) HM.o.len (fun K hK => ?_); go_simp; refine hK _ ?_; clear hK K) | (refine fl_skip rfl (by first | (go_simp; done) | fail) (fun K hK => ?_); go_simp; refine hK _ ?_; clear hK K) | (refine flc (fun K hK => ?_); go_simp; refine hK _ ?_; clear hK K))
  refine flv (fun v_ hg_ hL_ => ?_) (fun K hK => ?_)
  ·skip
   replace HB := kp (HB.o.grow' hg_);replace HM := kp (HM.o.grow hg_);exact (HSAME.o _ HB.o)
  go_simp;refine hK _ ?_;clear hK K;repeat (first | (refine flc (fun K hK => ?_); go_simp; refine hK _ ?_; clear hK K) | (refine fl_skip rfl (by first | (go_simp; done) | fail) (fun K hK => ?_); go_simp; refine hK _ ?_; clear hK K) | (refine fl_load rfl (by decide) (by first | exact wanted_none rfl | (go_simp; done) | fail) rfl (by first | rfl | (go_simp; rfl)) (by kernel_rfl) (by first | exact c39 | exact c40 | exact c38) (fun K hK => ?_); go_simp; refine hK _ ?_; clear hK K) | (refine fl_loadb rfl (by decide) (by first | exact wanted_none rfl | (go_simp; done) | fail) rfl row_cmd HM.o.blk (by first | rfl | (go_simp; done) | rfl) HM.o.len (fun K hK => ?_); go_simp; refine hK _ ?_; clear hK K))
  clear c39 c40 c38;refine fl_done ?_;intro v_ hg_ hL_;replace HB := kp (HB.o.grow' hg_);replace HM := kp (HM.o.grow hg_);clear hg_ hL_;try clear w_
  rename World => w_;go_wp2_with fail
  go_meet
  case rel => exact ⟨by rw [HW.o]; try first | rfl | simp, kp ⟨HM.o, HB.o⟩⟩
 case rest =>
 obtain ⟨rfl, hI⟩ := hcut;clear HM HB c0 HUS HSAME;have HM := kp hI.o.1; have HB := kp hI.o.2;clear hI;try clear w_
 rename World => w_;obtain ⟨wb, hwb⟩ := xe (!sm || w3b);rw [← hwb] at HCK2 ⊢;clear hwb HW3;have c0 := HM.o.blk.at_ X0.o; have c5 := HM.o.blk.at_ X5.o;cases wb with
 | true =>
  have HN := kq (ck = 1) (by rw [HCK2.o]; simp);go_wp2_with fail;go_ret
  exact ⟨by rw [HN.o]; try first | rfl | simp, HB.o⟩
 | false =>
 rcases Nat.lt_or_ge 16 n3 with h16 | h16
 ·have HN := kq (ck = 27) (by rw [HCK2.o]; simp [h16]);have y16 : (16 : Int) < (n3 : Int) := by omega
  go_wp2_with fail;go_ret
  exact ⟨by rw [HN.o]; try first | rfl | simp, HB.o⟩
 have y16 := lt_fe (a := 16) (b := (n3 : Int)) (by omega);have HCK4 := kq (ck = if hasTxK k && !decide (tk = 0) then tk else if bc then 16 else 0) (by rw [HCK2.o]; simp; intro h; omega);clear HCK2;go_wp2_with fail;refine (HHT.o _).mono ?_;clear c0 c5 y16;rintro e w_ ⟨rfl, y_⟩;replace HB := kp (HB.o.grow' y_);replace HM := kp (HM.o.grow y_);clear y_;obtain ⟨hk_, hhk⟩ := xe (hasTxK k);rw [← hhk] at HCK4 ⊢;clear hhk HHT
 go_upto_if 52 with fail
 go_cut [53] from 54 to 58 (fun s53 wr => Hid (ck = if bc then 16 else 0) ∧ Hid (At wr g1 36 73 xv ∧ Below w.heap.size w wr))
 case first =>
  cases hk_ with
  | false =>
   have HN := kq (ck = if bc then 16 else 0) (by rw [HCK4.o]; simp);go_wp2_with fail
   go_meet
   case rel => exact ⟨HN, kp ⟨HM.o, HB.o⟩⟩
  | true =>
  have FX := kq (∀ j u, tv[j]? = some u → w_.cell? ⟨g1, 1 + j, none⟩ = some u) (fun j u hu => HM.o.blk.at_ (XX.o j u hu));go_wp2_with (with_reducible refine wlw 54 row_tx FX.o LX.o ?_);refine (HTK.o _ HB.o).mono ?_;clear FX;rintro e w_ ⟨rfl, y_⟩;replace HB := kp (HB.o.grow' y_);replace HM := kp (HM.o.grow y_);clear y_;by_cases ht : tk = 0
  ·have HN := kq (ck = if bc then 16 else 0) (by rw [HCK4.o]; simp [ht]);have y7 : (tk != 0) = false := by simpa using ht
   clear ht;go_wp2_with fail
   go_meet
   case rel => exact ⟨HN, kp ⟨HM.o, HB.o⟩⟩
  ·have HN := kq (ck = tk) (by rw [HCK4.o]; simp [ht]);have y7 : (tk != 0) = true := by simpa using ht
   go_wp2_with fail;go_ret
   exact ⟨by rw [HN.o]; try first | rfl | simp, HB.o⟩
 case rest =>
 obtain ⟨HN5, hI⟩ := hcut;clear HM HB;have HM := kp hI.o.1; have HB := kp hI.o.2;clear hI HCK4;try clear w_
 rename World => w_;have c5 := HM.o.blk.at_ X5.o;go_wp2_with fail;refine (HBC.o _ HB.o).mono ?_;clear c5;rintro e w_ ⟨rfl, y_⟩;replace HB := kp (HB.o.grow' y_);replace HM := kp (HM.o.grow y_);clear y_;cases bc with
 | true =>
  have HN := kq (ck = 16) (by rw [HN5.o]; simp);go_wp2_with fail;go_ret
  exact ⟨by rw [HN.o]; try first | rfl | simp, HB.o⟩
 | false =>
  have HN := kq (ck = 0) (by rw [HN5.o]; simp);go_wp2_with fail;go_ret
  exact ⟨by rw [HN.o]; try first | rfl | simp, HB.o⟩
end Go.Proofs.YtiijepimkgaccaaGreat

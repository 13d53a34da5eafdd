/- The contract of command.Read. -/
import Derived.Test.YtiijepimkgaccaaGreatCommandLongRe31
import Derived.Test.YtiijepimkgaccaaGreatCommandLongRe32
set_option linter.unusedSimpArgs false
set_option linter.unusedVariables false
set_option maxRecDepth 100000
set_option maxHeartbeats 16000000
namespace Go.Proofs.YtiijepimkgaccaaGreat
open Go.RowKit Go.Shelf
theorem info_cert : (Tryz.prog.info? 43).map (fun i => (i.zero, i.size, i.bytes)) = some (some (.agg (certV (.slice none 0 0) noCer).toArray), 137, 216) := by kernel_rfl
theorem el_cert : ElemT Tryz.prog 30 43 137 216 := elemT Tryz.underlying30 info_cert (by kernel_rfl) (by omega)
theorem built_cmd0 : Tryz.prog.built 36 [] = some (noCW.vs noCmd).toArray := by kernel_rfl
def CmRead (w w' : World) (l : List UInt8) (e : Ending) : Prop := ∃ q : CW, e = .returned (.tuple #[.agg (q.vs (cmdOf (readCm l))).toArray, .int .i64 (errOf (readCm l) : Int)]) ∧ CmdAt w' q (cmdOf (readCm l)) ∧ Below w.heap.size w w'
theorem cmdAt_no (w : World) : CmdAt w noCW noCmd := ⟨insAt_nil, outsAt_nil, CertsAt.nil w, rfl, rfl, noCmd_ok⟩
theorem readCm_cases (l : List UInt8) (hl : l.length ≤ 8192) : (∃ x, eyeErr (restOf (lookCm l)) = x ∧ x ≠ 0 ∧ readCm l = .error x) ∨ (∃ p, eyeErr (restOf (lookCm l)) = 0 ∧ lookCm l = .ok (p, []) ∧ readCm l = fillC p) := by
 unfold readCm;rw [if_neg (by omega)];cases h : lookCm l with
 | error x => exact .inl ⟨x, rfl, lookCm_err h, rfl⟩
 | ok p =>
  obtain ⟨r, t⟩ := p;cases t with
  | nil => exact .inr ⟨r, rfl, rfl, by simp⟩
  | cons a t => exact .inl ⟨3, rfl, by omega, by simp⟩
theorem fillC_no {p : LkC} {x : Nat} (h : hasTxK p.m.kind = true) (hx : readT p.t = .error x) : fillC p = .error x := by unfold fillC; rw [if_pos h, hx]
theorem fillC_go {p : LkC} {t : Txn} (h : (if hasTxK p.m.kind then readT p.t else .ok noTxn) = .ok t) : (∀ x, readCs p.cs = .error x → fillC p = .error x) ∧ ∀ cs, readCs p.cs = .ok cs → fillC p = .ok { p.m with tx := t, certs := cs } :=
 ⟨fun x hx => by unfold fillC; rw [h]; simp only; rw [hx], fun cs hc => by unfold fillC; rw [h]; simp only; rw [hc]⟩
def KpZ (wZ : World) (Z : Nat) (w : World) : Prop := wZ.heap.size ≤ w.heap.size ∧ ∀ b, Z ≤ b → b < wZ.heap.size → w.heap[b]? = wZ.heap[b]?
theorem KpZ.refl (w : World) (Z : Nat) : KpZ w Z w := ⟨Nat.le_refl _, fun _ _ _ => rfl⟩
theorem KpZ.row {wZ w w' : World} {Z : Nat} {row : Option Nat} (h : KpZ wZ Z w) (k : w.grownBy w' row) (hr : ∀ q, row = some q → q < Z ∨ wZ.heap.size ≤ q) : KpZ wZ Z w' :=
 ⟨Nat.le_trans h.1 k.size, fun b h1 h2 => (k.block b (Nat.lt_of_lt_of_le h2 h.1) (fun e => by have := hr b e.symm; omega)).trans (h.2 b h1 h2)⟩
theorem KpZ.grow {wZ w w' : World} {Z : Nat} (h : KpZ wZ Z w) (k : Grow w w') : KpZ wZ Z w' := h.row (grown_of_below k none) (fun q e => by cases e)
def RdS (w : World) (Z : Nat) (out : Except Nat Cmd) (cn : Nat) (ps : List (Value × List UInt8)) (A : Option Addr) (n c : Nat) (A2 : Option Addr) (n2 c2 : Nat) (ls : List (Value × Inp)) (m : Cmd) : Prop :=
 cn ≤ 16 ∧ (∀ p ∈ ps, p.2.length ≤ 2048) ∧ m.ok ∧ InsO w Z A n c ls ∧ m.tx.ins = ls.map Prod.snd ∧ OutsO w Z A2 n2 c2 m.tx.outs ∧
  (∀ x, readCs (ps.map Prod.snd) = .error x → out = .error x) ∧ ∀ cs, readCs (ps.map Prod.snd) = .ok cs → out = .ok { m with certs := cs }
def qW (A : Option Addr) (n c : Nat) (A2 : Option Addr) (n2 c2 : Nat) (ls : List (Value × Inp)) (A3 : Option Addr) (n3 c3 : Nat) (cl : List (Value × Cer)) : CW := ⟨A, n, c, A2, n2, c2, A3, n3, c3, ls, cl⟩
def RdTx (wr : World) (Z g4 : Nat) (out : Except Nat Cmd) (er cn : Nat) (ps : List (Value × List UInt8)) : Prop :=
 (er ≠ 0 ∧ out = .error er) ∨ (er = 0 ∧ ∃ A n c A2 n2 c2 ls m, At wr g4 36 73 ((qW A n c A2 n2 c2 ls none 0 0 []).vs m) ∧ RdS wr Z out cn ps A n c A2 n2 c2 ls m)
def RdCs (wZ wr : World) (Z g4 : Nat) (out : Except Nat Cmd) (er i cn : Nat) (ps : List (Value × List UInt8)) (A : Option Addr) (n c : Nat) (A2 : Option Addr) (n2 c2 : Nat) (ls : List (Value × Inp)) (m : Cmd) : Prop :=
 (er ≠ 0 ∧ out = .error er) ∨ (er = 0 ∧ RdS wZ Z out cn ps A n c A2 n2 c2 ls m ∧ ∃ A3 c3 cl, At wr g4 36 73 ((qW A n c A2 n2 c2 ls A3 i c3 cl).vs m) ∧ CertsO wr wZ.heap.size A3 i c3 cl ∧ readCs ((ps.map Prod.snd).take i) = .ok (cl.map Prod.snd))
def RdEnd (wr : World) (Z g4 : Nat) (out : Except Nat Cmd) (er : Nat) : Prop := (er ≠ 0 ∧ out = .error er) ∨ (er = 0 ∧ ∃ q m, At wr g4 36 73 (q.vs m) ∧ m.ok ∧ (∀ w' g, g < Z → wr.grownBy w' (some g) → CmdAt w' q m) ∧ out = .ok m)
theorem readT_nz {l : List UInt8} {x : Nat} (h : readT l = .error x) : x ≠ 0 := by
 rcases readT_cases l with ⟨y, h1, h2, h3⟩ | ⟨t, h1, h2, h3⟩
 ·rw [h3] at h; injection h with h; subst h; exact h2
 ·rw [h3] at h;split at h
  ·rename_i h4;injection h with h; subst h
   have := checkT_pos (lookT_ok h2).1;omega
  ·cases h
theorem rds_done {wZ wr : World} {Z g4 cn : Nat} {out : Except Nat Cmd} {ps : List (Value × List UInt8)} {A : Option Addr} {n c : Nat} {A2 : Option Addr} {n2 c2 : Nat} {ls : List (Value × Inp)} {m : Cmd} {A3 : Option Addr} {c3 : Nat} {cl : List (Value × Cer)}
  (hS : RdS wZ Z out cn ps A n c A2 n2 c2 ls m) (hk : KpZ wZ Z wr) (hz : Z ≤ wZ.heap.size) (hl : ps.length = cn) (h1 : At wr g4 36 73 ((qW A n c A2 n2 c2 ls A3 cn c3 cl).vs m)) (h2 : CertsO wr wZ.heap.size A3 cn c3 cl) (h3 : readCs ((ps.map Prod.snd).take cn) = .ok (cl.map Prod.snd)) : RdEnd wr Z g4 out 0 := by
 obtain ⟨s1, s2, s3, s4, s5, s6, s7, s8⟩ := hS;have hok : ({ m with certs := cl.map Prod.snd } : Cmd).ok := ⟨s3.1, s3.2.1, fun x hx => by obtain ⟨p, hp, rfl⟩ := List.mem_map.1 hx; exact (h2.2.1 p hp).2, s3.2.2.2⟩;refine .inr ⟨rfl, qW A n c A2 n2 c2 ls A3 cn c3 cl, { m with certs := cl.map Prod.snd }, h1, hok, fun w' g hg hgr => ?_, ?_⟩
 ·have kz : ∀ b, Z ≤ b → b < wZ.heap.size → w'.heap[b]? = wZ.heap[b]? := fun b h1 h2 => (hgr.block b (Nat.lt_of_lt_of_le h2 hk.1) (fun e => by injection e with e; omega)).trans (hk.2 b h1 h2)
  exact ⟨(s4.keep kz).at_, (s6.keep kz).at_, (h2.keep (fun b h1 h2 => hgr.block b h2 (fun e => by injection e with e; omega)) hgr.size).at_, s5, rfl, hok⟩
 ·rw [List.take_of_length_le (by rw [List.length_map]; omega)] at h3;exact s8 _ h3
theorem cmread_any {A : Option Addr} {n c : Nat} {l : List UInt8} (w : World) (hs : Sl w w.heap.size 1 A n (l.map B)) (hn : n ≤ 1000000) : Calls Tryz.prog 9 #[.slice A n c] w fun e w' => CmRead w w' l e := by
 have HS := kp hs;have HLN := kq (l.length = n) (by have := hs.len; simpa using this);have HNM := kp hn;have HCZ := kp (vs_cl (q := noCW) noCmd_ok);have BC := kp built_cmd0;have ZC := kp zero_cmd;obtain ⟨out, hout⟩ := xe (readCm l);have HOUT := kp hout;obtain ⟨zc, hzc⟩ := xe (noCW.vs noCmd);have HZC := kp hzc
 have HERR := kp (fun (er : Nat) (w' : World) (h1 : out = .error er) (hb : Below w.heap.size w w') => show CmRead w w' l (.returned (.tuple #[.agg zc.toArray, .int .i64 (er : Int)])) from
  ⟨noCW, by rw [← hout, h1, hzc]; rfl, by rw [← hout, h1]; exact cmdAt_no _, hb⟩)
 have HOKR := kp (fun (q : CW) (m : Cmd) (w' : World) (h1 : out = .ok m) (hc : CmdAt w' q m) (hb : Below w.heap.size w w') => show CmRead w w' l (.returned (.tuple #[.agg (q.vs m).toArray, .int .i64 0])) from
  ⟨q, by rw [← hout, h1]; rfl, by rw [← hout, h1]; exact hc, hb⟩)
 rw [← hzc] at HCZ BC ZC;obtain ⟨w_, hw⟩ := xe w;have HB := kq (Below w.heap.size w w_) (by rw [hw]; exact Below.refl _ _)
 suffices H : Calls Tryz.prog 9 #[.slice A n c] w_ fun e w' => CmRead w w' l e by rw [hw] at H; exact H
 clear hw hs hn hout hzc
 go_enter Tryz.func9, Tryz.ntmps9
 go_wp2_with (with_reducible refine wal 2 ZC.o ?_);intro v_ b_ y_ hsz2_;have HV := kp (at_mk b_ HCZ.o.len);have HVG := kp HB.o.size;generalize hg_ : w_.heap.size = g2 at HV HVG ⊢;clear b_ hsz2_ hg_;have y_ := y_;clear y_;replace HB := kp (HB.o.grow' y_);clear y_;try clear w_
 rename World => w_;by_cases hl : 8192 < n
 ·have HX := kq (out = .error 4) (by rw [HOUT.o]; unfold readCm; rw [if_pos (by rw [HLN.o]; exact hl)]);have z1 : ((8192 : Int) < (n : Int)) = True := eq_true (by omega);clear hl;go_wp2_with (with_reducible refine wst 13 ?_);refine stop_go ?_;refine wpl_build rfl rfl BC.o ?_;go_wp2_with (with_reducible refine wsb row_cmd HV.o.blk HV.o.len HCZ.o.len HCZ.o.one ?_);intro v_ b_ g_ hsz2_;have HV_ := kp b_;have HB_ := kp (put_below HB.o HVG.o g_);clear b_ g_ hsz2_;go_wp2_with fail;refine ret_cell_tmp rfl row_cmd HV_.o rfl HCZ.o.len rfl rfl ?_;exact HERR.o 4 _ HX.o HB_.o
 have HL8 := kq (l.length ≤ 8192) (by rw [HLN.o]; omega);have z1 : ((8192 : Int) < (n : Int)) = False := eq_false (by omega);clear hl;go_wp2_with (with_reducible refine wal 4 ZC.o ?_);clear z1;intro v_ b_ y_ hsz2_;have HH := kp (at_mk b_ HCZ.o.len);have HLT := kp HV.o.lt;generalize hg_ : w_.heap.size = g4 at HH HLT ⊢;clear b_ hsz2_ hg_;have y_ := y_;clear y_;replace HB := kp (HB.o.grow' y_);replace HV := kp (HV.o.grow y_);clear y_;try clear w_
 rename World => w_;go_wp2_with (with_reducible first | refine wpl_alloc (o := ⟨some 5, _, _, _, _, _⟩) rfl rfl zero_texts ?_);intro v_ b_ y_ hsz2_;have HY := kp (at_mk (n := 2) b_ rfl);have H45 := kp HH.o.lt;generalize hg_ : w_.heap.size = g5 at HY H45 ⊢;clear b_ hsz2_ hg_;have y_ := y_;clear y_;replace HB := kp (HB.o.grow' y_);replace HV := kp (HV.o.grow y_);replace HH := kp (HH.o.grow y_);clear y_;try clear w_
 rename World => w_;go_wp2_with fail
 refine (fread2_any A n c l 34 #[.pointer (some ⟨g4, 0, none⟩), .pointer (some ⟨g5, 0, none⟩)] (restOf (lookCm l)) (fun w2 => CKept g4 g5 w_ w2 l ∧ w_.heap.size + 1 ≤ w2.heap.size) _ (HS.o.grow HB.o) (by have := HNM.o; omega) (fun _ _ => rfl)
  (fun w1 Bd g hw hg he => (cmread1_any w_ w1 HH.o.lt HY.o.lt (Nat.ne_of_lt H45.o) HH.o.blk HH.o.len HY.o.blk HY.o.len hw hg he).mono fun e w2 h => ⟨⟨h.1, by have h1 := he.lo; have h2 := he.lt; have h3 := h.2.1; omega⟩, h.2⟩)).mono ?_
 rintro e w5_ ⟨rfl, v_, ⟨⟨hk, hgot, hno⟩, hzz⟩, hgr⟩;have HV_ := kq (At w5_ g2 36 73 zc) ⟨(hgr.block g2 (Nat.lt_of_lt_of_le HV.o.lt hk.size) (fun e => by injection e with e; have := HV.o.lt; omega)).trans ((hk.block g2 ⟨HV.o.lt, by have := HLT.o; omega, by have := HLT.o; have := H45.o; omega⟩).trans HV.o.blk), HV.o.len⟩
 have HB_ := kp (show Below w.heap.size w w5_ from ⟨hgr.os.trans (hk.os.trans HB.o.os), hgr.tape.trans (hk.tape.trans HB.o.tape), hgr.output.trans (hk.output.trans HB.o.output), Nat.le_trans HB.o.size (Nat.le_trans hk.size hgr.size), fun k hk2 => by
  have h1 := HVG.o; have h2 := HLT.o; have h3 := H45.o; have h4 := HY.o.lt; have h5 := hk.size
  exact (hgr.block k (by omega) (fun e => by injection e with e; omega)).trans ((hk.block k ⟨by omega, by omega, by omega⟩).trans (HB.o.block k hk2))⟩)
 have HGOT := kp (show (∀ p l', lookCm l = .ok (p, l') → ∃ TA tc A n c ps, Blk w5_ g4 36 (noCW.vs p.m) ∧ Blk w5_ g5 87 [.slice TA p.t.length tc, .slice A n c] ∧ TxtO w5_ (w_.heap.size + 1) TA tc p.t ∧ BBO w5_ (w_.heap.size + 1) A n c ps ∧ ps.map Prod.snd = p.cs) ∧ ∀ x, lookCm l = .error x → Blk w5_ g5 87 [.slice none 0 0, .slice none 0 0] from by
  have q4 := HH.o.lt; have q5 := HY.o.lt;have kz : ∀ b, w_.heap.size + 1 ≤ b → b < v_.heap.size → w5_.heap[b]? = v_.heap[b]? := fun b h1 h2 => hgr.block b h2 (fun e => by injection e with e; omega)
  refine ⟨fun p l' h => ?_, fun x h => ?_⟩
  ·obtain ⟨TA, tc, A, n, c, ps, k1, k2, k3, k4, k5⟩ := hgot p l' h;exact ⟨TA, tc, A, n, c, ps, k1.grown hgr (fun e => by injection e with e; omega), k2.grown hgr (fun e => by injection e with e; omega), k3.keep kz, k4.keep kz, k5⟩
  ·exact (hgr.block g5 (Nat.lt_of_lt_of_le q5 hk.size) (fun e => by injection e with e; omega)).trans ((hno x h).trans HY.o.blk))
 have HZZ := kq (w_.heap.size + 1 ≤ w5_.heap.size) (Nat.le_trans hzz hgr.size);have HGZ := kq (g4 < w_.heap.size + 1 ∧ g5 < w_.heap.size + 1 ∧ w.heap.size ≤ w_.heap.size + 1) (by have := HH.o.lt; have := HY.o.lt; have := HB.o.size; omega);generalize w_.heap.size + 1 = Z at HGOT HZZ HGZ;clear hk hgot hno hzz hgr HV HB HH HY;have HV := HV_; have HB := HB_;clear HV_ HB_;try clear v_
 try clear w_
 rename World => w_
 have HC5 := kp (show ∃ v0 CA cn cc ps, Blk w_ g5 87 [v0, .slice CA cn cc] ∧ BBO w_ Z CA cn cc ps from by
  cases h : lookCm l with
  | error x => exact ⟨_, _, _, _, [], HGOT.o.2 x h, BBO.nil _ _⟩
  | ok r =>
   obtain ⟨p, l'⟩ := r;obtain ⟨TA, tc, A, n, c, ps, k1, k2, k3, k4, k5⟩ := HGOT.o.1 p l' h
   exact ⟨_, A, n, c, ps, k2, k4⟩)
 have HRC := kp (readCm_cases l HL8.o);obtain ⟨e0, he0⟩ := xe (eyeErr (restOf (lookCm l)));rw [← he0] at HRC ⊢;clear he0;rename World => wA
 go_upto_region 6 with fail
 go_cut [23] from 17 (fun s23 wr => ∃ b : Bool, s23 = .bool b ∧ Hid (Grow wA wr) ∧ Hid ((e0 ≠ 0 ∧ b = false) ∨ (e0 = 0 ∧ ∃ p, lookCm l = .ok (p, []) ∧ b = hasTxK p.m.kind)))
 case first =>
  rcases HRC.o with ⟨x, hx, h0, hr⟩ | ⟨p, hx, hlk, hr⟩
  ·have HX := kq (e0 ≠ 0) (by omega);have z1 : ((e0 : Int) == 0) = false := by simp; omega
   clear hx h0 hr;go_wp2_with fail
   go_meet
   case rel => exact ⟨false, rfl, kp (Below.refl _ _), kp (.inl ⟨HX.o, rfl⟩)⟩
  ·obtain ⟨TA, tc, CA, cn, cc, ps, k1, k2, k3, k4, k5⟩ := HGOT.o.1 p [] hlk;have c0 := k1.at_ (vs_kind noCW p.m);have HX := kp hlk;have z1 : ((e0 : Int) == 0) = true := by rw [hx]; rfl
   have HE0 := kp hx;clear hx hlk hr k1 k2 k3 k4 k5;go_wp2_with fail;refine (hastx_any _ _).mono ?_;rintro e v_ ⟨rfl, y_⟩;have HB2 := kp y_;clear c0 y_;obtain ⟨bt, hbt⟩ := xe (hasTxK p.m.kind);rw [← hbt];have HBT := kp hbt;clear hbt;cases bt with
   | true =>
    go_wp2_with fail
    go_meet
    case rel => exact ⟨true, rfl, HB2, kp (.inr ⟨HE0.o, p, HX.o, HBT.o⟩)⟩
   | false =>
    go_wp2_with fail
    go_meet
    case rel => exact ⟨false, rfl, HB2, kp (.inr ⟨HE0.o, p, HX.o, HBT.o⟩)⟩
 case rest =>
 obtain ⟨b, rfl, hg, hb⟩ := hcut;have HG := kp hg.o; have HBB := kp hb.o;clear hg hb;rename World => w_;replace HV := kp (HV.o.grow HG.o);replace HB := kp (HB.o.grow' HG.o);have HZ := kp (Nat.le_trans HZZ.o HG.o.size)
 go_upto_if 23 with fail
 go_cut [6] from 17 (fun s6 wr => ∃ (er : Nat) (v0 : Value) (CA : Option Addr) (cn cc : Nat) (ps : List (Value × List UInt8)), s6 = .int .i64 (er : Int) ∧ Hid (At wr g2 36 73 zc) ∧ Hid (Below w.heap.size w wr) ∧ Hid (Blk wr g5 87 [v0, .slice CA cn cc]) ∧ Hid (BBO wr Z CA cn cc ps) ∧ Hid (Z ≤ wr.heap.size) ∧ Hid (RdTx wr Z g4 out er cn ps))
 case first =>
  rcases HRC.o with ⟨x, hx, h0, hr⟩ | ⟨p, hx, hlk, hr⟩
  ·rcases HBB.o with ⟨_, rfl⟩ | ⟨h, _⟩
   ·obtain ⟨v0, CA, cn, cc, ps, k1, k2⟩ := HC5.o;have HX := kp hx; have H0 := kp h0; have HR := kp hr;have K1 := kp (k1.grow HG.o); have K2 := kp (k2.grow HG.o);clear hx h0 hr k1 k2;go_wp2_with fail
    go_meet
    case rel => exact ⟨e0, v0, CA, cn, cc, ps, rfl, HV, HB, K1, K2, HZ, kp (.inl ⟨by rw [HX.o]; exact H0.o, by rw [HOUT.o, HR.o, HX.o]⟩)⟩
   ·exact absurd (hx.symm.trans h) h0
  ·rcases HBB.o with ⟨h, _⟩ | ⟨_, p2, hlk2, hbk⟩
   ·exact absurd hx h
   rw [hlk] at hlk2;obtain rfl : p = p2 := by injection hlk2 with h; injection h
   obtain ⟨TA, tc, CA, cn, cc, ps, k1, k2, k3, k4, k5⟩ := HGOT.o.1 p [] hlk;have q1 := lookCm_ok hlk;have HMO := kp q1.1; have HTX := kp q1.2.2.1; have HTL := kp q1.2.2.2.2.1;have HPL := kq (cn ≤ 16 ∧ (∀ p ∈ ps, p.2.length ≤ 2048)) ⟨by have h1 := k4.2.2; have h2 := congrArg List.length k5; rw [List.length_map] at h2; have := q1.2.2.2.2.2.1; omega, fun r hr => q1.2.2.2.2.2.2 r.2 (by rw [← k5]; exact List.mem_map_of_mem hr)⟩;have HPS := kp k5;have K1 := kp (k1.grow HG.o); have K2 := kp (k2.grow HG.o); have K3 := kp (k3.grow HG.o); have K4 := kp (k4.grow HG.o);have HR := kq (out = fillC p) (by rw [HOUT.o]; exact hr);have HBK := kp hbk;subst hx;clear hlk hr hlk2 hbk k1 k2 k3 k4 k5 q1;cases b with
   | false =>
    go_wp2_with fail
    go_meet
    case rel =>
     have e : ({ p.m with tx := noTxn } : Cmd) = p.m := by rw [← HTX.o]
     have hgo := fillC_go (p := p) (t := noTxn) (by rw [← HBK.o]; rfl);refine ⟨0, _, CA, cn, cc, ps, rfl, HV, HB, K2, K4, HZ, kp (.inr ⟨rfl, none, 0, 0, none, 0, 0, [], p.m, at_mk K1.o (vs_len HMO.o), HPL.o.1, HPL.o.2, HMO.o, InsO.nil _ _, by rw [HTX.o]; rfl, by rw [HTX.o]; exact OutsO.nil _ _, fun x hx => ?_, fun cs hx => ?_⟩)⟩
     ·rw [HR.o]; exact hgo.1 x (by rw [← HPS.o]; exact hx)
     ·rw [HR.o, hgo.2 cs (by rw [← HPS.o]; exact hx)];rw [show ({ p.m with tx := noTxn, certs := cs } : Cmd) = { ({ p.m with tx := noTxn } : Cmd) with certs := cs } from rfl, e]
   | true =>
    have c5 := K2.o.at_ (i := 0) rfl;go_wp2_with fail;refine (treado_any _ (Sl.of_own K3.o.1) (by have := HTL.o; omega)).mono ?_;rintro e v_ ⟨A6, n6, c6, B6, m6, d6, l6, rfl, hi6, hl6, ho6, y_⟩;have HI6 := kp (InsO.base hi6 HZ.o); have HL6 := kp hl6; have HO6 := kp (OutsO.base ho6 HZ.o);replace K1 := kp (K1.o.grow y_);replace K2 := kp (K2.o.grow y_);replace K4 := kp (K4.o.grow y_);replace HV := kp (HV.o.grow y_);replace HB := kp (HB.o.grow' y_);replace HZ := kp (Nat.le_trans HZ.o y_.size);clear c5 hi6 hl6 ho6 y_ K3 HG;clear w_;rename World => w_;have HUC := kp (txV_cl (A := A6) (n := n6) (c := c6) (A2 := B6) (n2 := m6) (c2 := d6) (fee := (txnOf (readT p.t)).fee) (ex := (txnOf (readT p.t)).expiry));have HSP := kp (set_tx (q := noCW) (q2 := ⟨A6, n6, c6, B6, m6, d6, none, 0, 0, l6, []⟩) (m := p.m) (txnOf (readT p.t)));obtain ⟨tv, htv⟩ := xe (txV A6 n6 c6 B6 m6 d6 (txnOf (readT p.t)).fee (txnOf (readT p.t)).expiry);simp only at HSP;rw [← htv] at HUC HSP ⊢;have HML := kp (vs_len (q := noCW) HMO.o);obtain ⟨er, her⟩ := xe (errOf (readT p.t));have HER := kp her;rw [← her];clear htv her;go_wp2_with (with_reducible first | refine wpl_storem (o := ⟨none, .store _ _ _, _, _, _, _⟩) (off := 1) rfl rfl row_tx K1.o rfl rfl HUC.o.len (by rw [HML.o]; omega) HUC.o.one ?_);intro v_ b_ hg_ hsz2_;have K1_ := kq (Blk v_ g4 36 ((qW A6 n6 c6 B6 m6 d6 l6 none 0 0 []).vs { p.m with tx := txnOf (readT p.t) })) (by rw [HSP.o] at b_; exact b_);have HGZ2 := HGZ.o;have kz : ∀ b, Z ≤ b → b < w_.heap.size → v_.heap[b]? = w_.heap[b]? := fun b h1 h2 => hg_.block b h2 (fun e => by injection e with e; omega)
    have K2_ := kp (K2.o.grown hg_ (fun e => by injection e with e; have := H45.o; omega)); have K4_ := kp (K4.o.keep kz); have HI_ := kp (HI6.o.keep kz); have HO_ := kp (HO6.o.keep kz);have HV_ := kp (At.off HV.o hg_ (Nat.ne_of_lt HLT.o)); have HB_ := kp (put_below HB.o (Nat.le_trans HVG.o (Nat.le_of_lt HLT.o)) hg_); have HZ_ := kp (Nat.le_trans HZ.o hg_.size);clear b_ hg_ hsz2_ kz HGZ2 HSP K1 K2 K4 HI6 HO6 HV HB HZ;go_wp2_with fail
    go_meet
    case rel =>
     refine ⟨er, _, CA, cn, cc, ps, rfl, HV_, HB_, K2_, K4_, HZ_, kp ?_⟩;have hb : hasTxK p.m.kind = true := HBK.o.symm;have hL := HL6.o; have hI := HI_.o; have hO := HO_.o; have hK := K1_.o;cases h : readT p.t with
     | error x =>
      have e1 : er = x := by rw [HER.o, h]; rfl
      exact .inl ⟨by rw [e1]; exact readT_nz h, by rw [HR.o, e1]; exact fillC_no hb h⟩
     | ok t =>
      have e1 : er = 0 := by rw [HER.o, h]; rfl
      rw [h] at hL hO hK;have hgo := fillC_go (p := p) (t := t) (by rw [if_pos hb]; exact h);have hto := (readT_back h).2.2;have hmo : ({ p.m with tx := t } : Cmd).ok := ⟨HMO.o.1, hto, HMO.o.2.2⟩;refine .inr ⟨e1, A6, n6, c6, B6, m6, d6, l6, { p.m with tx := t }, at_mk hK (vs_len hmo), HPL.o.1, HPL.o.2, hmo, hI, hL.symm, hO, fun x hx => ?_, fun cs hx => ?_⟩
      ·rw [HR.o]; exact hgo.1 x (by rw [← HPS.o]; exact hx)
      ·rw [HR.o]; exact hgo.2 cs (by rw [← HPS.o]; exact hx)
 case rest =>
 obtain ⟨er, v0, CA, cn, cc, ps, rfl, hv, hb, hy, ho, hz, hr⟩ := hcut;have HV_ := kp hv.o; have HB_ := kp hb.o; have HY := kp hy.o; have HO := kp ho.o; have HZ_ := kp hz.o
 have HST : ∃ A n c A2 n2 c2 ls m, Hid (RdCs wc wc Z g4 out er 0 cn ps A n c A2 n2 c2 ls m) := by
  rcases hr.o with h | ⟨h, A, n, c, A2, n2, c2, ls, m, h1, h2⟩
  ·exact ⟨none, 0, 0, none, 0, 0, [], noCmd, kp (.inl h)⟩
  ·exact ⟨A, n, c, A2, n2, c2, ls, m, kp (.inr ⟨h, h2, none, 0, [], h1, CertsO.nil _ _, rfl⟩)⟩
 clear hv hb hy ho hz hr HV HB HZ HZZ HG HBB HC5 HRC HGOT;obtain ⟨A7, n7, c7, B7, m7, d7, l7, m0, HST⟩ := HST;have HV := HV_; have HB := HB_; have HZ := HZ_;clear HV_ HB_ HZ_;clear w_;rename World => wZ;have HCL := kq (ps.length = cn) HO.o.2.2;have LX := kp len_cert; have ZX := kp zero_cert;obtain ⟨zx, hzx⟩ := xe (certV (.slice none 0 0) noCer);rw [← hzx] at LX ZX;clear hzx;have c6 := HY.o.at_ (i := 1) rfl
 go_upto_block 0 with fail
 clear c6
 go_cut [6] from 7 (fun s6 wr => ∃ er : Nat, s6 = .int .i64 (er : Int) ∧ Hid (At wr g2 36 73 zc) ∧ Hid (Below w.heap.size w wr) ∧ Hid (RdEnd wr Z g4 out er))
 case first =>
  go_wp2_with fail;go_loopw [6, 34] (fun s6 s34 wr => ∃ i er : Nat, i ≤ cn ∧ s6 = .int .i64 (er : Int) ∧ s34 = .int .i64 (i : Int) ∧ Hid (At wr g2 36 73 zc) ∧ Hid (Below w.heap.size w wr) ∧ Hid (KpZ wZ Z wr) ∧ Hid (RdCs wZ wr Z g4 out er i cn ps A7 n7 c7 B7 m7 d7 l7 m0)) (fun _ s34 _ => cn - (intOf s34).toNat)
  case atStart => exact ⟨0, er, by omega, rfl, rfl, HV, HB, kp (KpZ.refl _ _), HST⟩
  case round =>
   obtain ⟨i, er, hi, rfl, rfl, hv, hb, hk, hr⟩ := hrel;clear HV HB HST;have HV := kp hv.o; have HB := kp hb.o; have HK := kp hk.o;clear hv hb hk;rename World => w_;by_cases hlt : i < cn
   ·have d1 : decide ((i : Int) < (cn : Int)) = true := by simp; omega
    obtain ⟨b, off, u, rfl, hbl, hu, hc⟩ := (Sl.of_own ((HO.o.keep HK.o.2).1)).at_ hlt;rw [List.getElem?_map] at hu;obtain ⟨pp, hpp, rfl⟩ := Option.map_eq_some_iff.1 hu;obtain ⟨A', c', e', hc', ho'⟩ := (HO.o.keep HK.o.2).2.1 pp (List.mem_of_getElem? hpp);rw [e'] at hc;have HPP := kp hpp; have HT := kp (Sl.of_own ho');clear hbl hu hpp e' hc' ho';rcases hr.o with ⟨h0, hout⟩ | ⟨rfl, hS, A3, c3, cl, h1, h2, h3⟩
    ·have z1 : ((er : Int) != 0) = true := by simp; omega
     have HX := kq (er ≠ 0 ∧ out = .error er) ⟨h0, hout⟩;clear h0 hout hr;go_wp2_with fail
     go_meet
     case rel => exact ⟨er, rfl, HV, HB, kp (.inl HX.o)⟩
    ·have HS := kp hS; have HA3 := kp h1; have HCS := kp h2; have HRD := kp h3;have z1 : (((0 : Nat) : Int) != 0) = false := rfl;clear hS h1 h2 h3 hr;rename World => wR;go_wp2_with (with_reducible refine wal 9 ZX.o ?_);intro v_ b_ y_ hsz2_;have HX9 := kp (at_mk b_ LX.o); have HGR := kq (Grow wR v_) y_;generalize hg_ : wR.heap.size = g9 at HX9 ⊢;have H9 := kp hg_;clear b_ y_ hsz2_ hg_ hc d1 z1;rename World => w_;go_wp2_with fail;refine (cread_o _ (HT.o.grow HGR.o) (by have := HS.o.2.1 pp (List.mem_of_getElem? HPP.o); omega)).mono ?_;rintro e v_ ⟨A8, n8, c8, rfl, hi8, hn8, y_, hage⟩;have HAG := kq (∀ k, A8.map Addr.block = some k → g9 < k) (fun k hk => Nat.lt_of_lt_of_le HX9.o.lt (hage k hk));have HI8 := kp hi8;replace HX9 := kp (HX9.o.grow y_);replace HGR := kq (Grow wR v_) (HGR.o.grow' y_);clear hi8 hn8 y_ hage;clear w_;rename World => w_;have HYO := kp (cerOf_ok pp.2);obtain ⟨y, hy⟩ := xe (cerOf (readC pp.2));have HYE := kp hy;rw [← hy] at HYO HI8 ⊢;obtain ⟨ey, hey⟩ := xe (errOf (readC pp.2));have HEY := kp hey;rw [← hey];have HYC := kp (cert_cl (v := .slice A8 n8 c8) rfl HYO.o);obtain ⟨yv, hyv⟩ := xe (certV (.slice A8 n8 c8) y);have HYV := kp hyv;rw [← hyv] at HYC ⊢;clear hy hey hyv;go_wp2_with (with_reducible refine wsb row_cert HX9.o.blk HX9.o.len HYC.o.len HYC.o.one ?_);intro v_ b_ g_ hsz2_;replace HX9 := kp (at_mk b_ HYC.o.len);replace HGR := kq (Grow wR v_) (put_below HGR.o (Nat.le_of_eq H9.o) g_);replace HI8 := kp (HI8.o.off g_ HAG.o);clear b_ g_ hsz2_;clear w_;rename World => w_;have c7 : w_.cell? ⟨g4, 5, none⟩ = some (.slice A3 i c3) := (HA3.o.grow HGR.o).blk.at_ (vs_certs (qW A7 n7 c7 B7 m7 d7 l7 A3 i c3 cl) m0);go_wp2_with (first | (with_reducible refine wlb 47 row_cert HX9.o.blk HX9.o.len ?_) | (refine wpl_row1 (o := ⟨some 48, .buildSlice _ _ _, _, _, _, _⟩) rfl rfl el_cert (by first | rfl | (go_simp; done)) HYC.o.len (by omega) ?_));intro v_ b_ y_ hsz2_;have HSX := kq (Sl v_ v_.heap.size 137 (some ⟨w_.heap.size, 0, none⟩) 1 yv) (b_.sl (by rw [HYC.o.len]));have HGR_ := kq (Grow wR v_) (HGR.o.grow' y_); have HI8_ := kp (HI8.o.grow y_);generalize w_.heap.size = gx at HSX ⊢;clear b_ y_ hsz2_ c7 HX9 HGR HI8;have HGR := HGR_; have HI8 := HI8_;clear HGR_ HI8_;clear w_;rename World => w_;have HCS_ := kp (HCS.o.keep (fun b _ hb => HGR.o.block b hb) HGR.o.size);have hi16 := HS.o.1;have HZW := kp (Nat.le_trans HK.o.1 HGR.o.size);go_wp2_with (at_builtin; refine wpl_apps rfl rfl el_cert HCS_.o.1 rfl HSX.o rfl HYC.o.one (by omega) (by omega) HZW.o ?_);intro A4 c4 v_ ho_ hg_ hA_;clear hi16;have hne_ : ∀ q, A3.map Addr.block = some q → wZ.heap.size ≤ q := own_from HCS_.o.1;have hor_ : ∀ q, A3.map Addr.block = some q → q < wR.heap.size := own_lt HCS.o.1;have hz_ := HZ.o; have hgz_ := HGZ.o;have HV_ := kq (At v_ g2 36 73 zc) (at_mk ((HV.o.grow HGR.o).blk.grown hg_ (fun e => by have h1 := hne_ _ e.symm; have := HLT.o; omega)) HV.o.len);have HA_ := kq (At v_ g4 36 73 _) (at_mk ((HA3.o.grow HGR.o).blk.grown hg_ (fun e => by have h1 := hne_ _ e.symm; omega)) HA3.o.len);have HB_ := kp (below_grown (HB.o.grow' HGR.o) hg_ (Nat.le_trans HB.o.size HGR.o.size) (fun q hq => by have h1 := hne_ q hq; omega));have HK_ := kp ((HK.o.grow HGR.o).row hg_ (fun q hq => .inr (hne_ q hq)))
     have HC_ := kp (CertsO.snoc HCS_.o hg_ (by rw [← HYV.o]; exact ho_) (hA_.imp id (fun ⟨a, h1, h2⟩ => by rw [h1, ← h2]; rfl)) HI8.o (fun _ k hk => by
      have h1 := HAG.o k hk; have h2 := H9.o; have h3 := HK.o.1
      exact ⟨by omega, fun e => by have h4 := hor_ k e.symm; omega⟩) HYO.o)
     clear ho_ hg_ hA_ hne_ hor_ HCS_ HCS HSX HI8 HV HA3 HB HK HZW HGR HT;clear w_;rename World => w_;go_wp2_with (first | (refine wpl_store1 (o := ⟨none, .store _ _ _, _, _, _, _⟩) rfl rfl HA_.o.blk rfl rfl (by kernel_rfl) rfl rfl (by rw [HA_.o.len]; omega) ?_));intro v_ b_ g_ hsz2_;have HV := kp (At.off HV_.o g_ (Nat.ne_of_lt HLT.o)); have HB := kp (put_below HB_.o (Nat.le_trans HVG.o (Nat.le_of_lt HLT.o)) g_); have HK := kp (HK_.o.row g_ (fun q hq => by injection hq with hq; omega));have HC := kp (HC_.o.keep (fun b h1 h2 => g_.block b h2 (fun e => by injection e with e; omega)) g_.size);have HA := kq (At v_ g4 36 73 ((qW A7 n7 c7 B7 m7 d7 l7 A4 (i + 1) c4 (cl ++ [(.slice A8 n8 c8, y)])).vs m0)) (at_mk b_ (vs_len HS.o.2.2.1));clear b_ g_ hsz2_ HV_ HB_ HK_ HC_ HA_ hz_ hgz_;have q1 : IntKind.i64.wrap ((i : Int) + 1) = (i : Int) + 1 := IntWalk.i64_in _ (by have := HS.o.1; omega);go_wp2_with fail;go_roundw
     all_goals clear q1
     case rel =>
      refine ⟨i + 1, ey, by omega, rfl, by go_num, HV, HB, HK, kp ?_⟩;have hix : (ps.map Prod.snd)[i]? = some pp.2 := by rw [List.getElem?_map, HPP.o]; rfl
      cases h : readC pp.2 with
      | error x =>
       have e1 : ey = x := by rw [HEY.o, h]; rfl
       exact .inl ⟨by rw [e1]; exact readC_nz h, by rw [e1]; exact HS.o.2.2.2.2.2.2.1 x (readCs_no HRD.o hix h)⟩
      | ok z =>
       have e1 : ey = 0 := by rw [HEY.o, h]; rfl
       have e2 : y = z := by rw [HYE.o, h]; rfl
       refine .inr ⟨e1, HS.o, A4, c4, _, HA.o, HC.o, ?_⟩;rw [readCs_go HRD.o hix h, List.map_append, e2]; rfl
     case measure => simp [intOf]; omega
   ·have d1 : decide ((i : Int) < (cn : Int)) = false := by simp; omega
    obtain rfl : i = cn := by omega
    have HF := kp (show RdEnd w_ Z g4 out er from by
     rcases hr.o with h | ⟨rfl, hS, A3, c3, cl, h1, h2, h3⟩
     ·exact .inl h
     ·exact rds_done hS HK.o HZ.o HCL.o h1 h2 h3)
    clear hr;go_wp2_with fail
    go_meet
    case rel => exact ⟨er, rfl, HV, HB, HF⟩
 case rest =>
  obtain ⟨er, rfl, hv, hb, hr⟩ := hcut;clear HV HB HST;have HV := kp hv.o; have HB := kp hb.o;clear hv hb;rename World => w_;rcases hr.o with ⟨h0, hout⟩ | ⟨rfl, q, m, h1, h2, h3, h4⟩
  ·have z1 : ((er : Int) != 0) = true := by simp; omega
   have z2 : ((er : Int) == 0) = false := by simp; omega
   have HX := kp hout;clear h0 hout hr;go_wp2_with (with_reducible refine wst 54 ?_);refine stop_go ?_;refine wpl_build rfl rfl BC.o ?_;go_wp2_with (with_reducible refine wsb row_cmd HV.o.blk HV.o.len HCZ.o.len HCZ.o.one ?_);intro v_ b_ g_ hsz2_;have HV_ := kp b_;have HB_ := kp (put_below HB.o HVG.o g_);clear b_ g_ hsz2_;go_wp2_with fail;refine ret_cell_tmp rfl row_cmd HV_.o rfl HCZ.o.len rfl rfl ?_;exact HERR.o er _ HX.o HB_.o
  ·have HH := kp h1;have HMC := kp (vs_cl (q := q) h2);have HF := kp (fun w' (hg : w_.grownBy w' (some g2)) hb => HOKR.o q m w' h4 (h3 w' g2 (by have := HLT.o; have := HGZ.o; omega) hg) hb);obtain ⟨cv, hcv⟩ := xe (q.vs m);rw [← hcv] at HH HMC HF;clear h1 h2 h3 h4 hr hcv;go_wp2_with (with_reducible first | refine wlb 56 row_cmd HH.o.blk HMC.o.len ?_ | refine wsb row_cmd HV.o.blk HV.o.len HMC.o.len HMC.o.one ?_);intro v_ b_ g_ hsz2_;have HV_ := kp b_;have HF_ := kp (HF.o _ g_ (put_below HB.o HVG.o g_));clear b_ g_ hsz2_;go_wp2_with fail;refine ret_cell_tmp rfl row_cmd HV_.o rfl HMC.o.len rfl rfl ?_;exact HF_.o
end Go.Proofs.YtiijepimkgaccaaGreat

/- The contract of the document's Read of a command. Printed by mkcmdz.py. -/
import Derived.Test.YtobmldegjajocaaRe37
import Derived.Test.YtobmldegjajocaaRe29
import Derived.Test.YtobmldegjajocaaRe40
set_option linter.unusedSimpArgs false
set_option linter.unusedVariables false
set_option maxRecDepth 100000
set_option maxHeartbeats 16000000
namespace Go.Proofs.Ytobmldegjajocaa
open Go.RowKit Go.Shelf
def KZ0 (k : Nat) : List UInt8 → Re LkC := if k = 0 then KO ⟨kindC k, [], []⟩ else KF k
theorem stf_z {G : Re LkC} {s : YS} {k : Nat} (h : StF G s (KF k)) (hz : s.2 ≠ 0 ∨ k ≠ 0) : StF G s (KZ0 k) := by
 rcases h with ⟨h1, h2⟩ | h
 ·refine .inl ⟨h1, ?_⟩;unfold KZ0;rw [if_neg (by rcases hz with h | h; exact absurd h1 h; exact h), h2]
 ·exact .inr h
theorem KZ0_pos {k : Nat} (h : k ≠ 0) : KZ0 k = KF k := by unfold KZ0; rw [if_neg h]
def R1 (k : Nat) (m : Cmd) : List UInt8 → Re LkC := if k = 1 then KO ⟨m, [], []⟩ else KZ0 k
def R2 (k : Nat) (m : Cmd) (t : List UInt8) : List UInt8 → Re LkC := if k = 1 ∨ k = 2 ∨ k = 3 then KO ⟨m, t, []⟩ else if k = 4 ∨ k = 5 ∨ k = 6 then KC k t else KZ0 k
def R3 (k : Nat) (m : Cmd) (t : List UInt8) (cs : List (List UInt8)) : List UInt8 → Re LkC := if 1 ≤ k ∧ k ≤ 6 then KO ⟨m, t, cs⟩ else KZ0 k
def R4 (k : Nat) (m : Cmd) (t : List UInt8) (cs : List (List UInt8)) : List UInt8 → Re LkC := if 1 ≤ k ∧ k ≤ 7 then KO ⟨m, t, cs⟩ else KZ0 k
def TextsR (w0 wr : World) (Bd Z : Nat) (A : Option Addr) (n c : Nat) (ps : List (Value × List UInt8)) : Prop := wr.ownsRow Z 36 1 (.slice A n c) n (ps.map Prod.fst) ∧ (∀ p ∈ ps, ∃ A' c', p.1 = .slice A' p.2.length c' ∧ p.2.length ≤ c' ∧ p.2.length ≤ 2048 ∧ Sl w0 Bd 1 A' p.2.length (p.2.map B)) ∧ ps.length = n
theorem TextsR.nil (w0 wr : World) (Bd Z : Nat) : TextsR w0 wr Bd Z none 0 0 [] := ⟨own_nil0 _ _ _ _, (fun p hp => by cases hp), rfl⟩
theorem TextsR.off {w0 w w' : World} {Bd Z n c q : Nat} {A : Option Addr} {ps : List (Value × List UInt8)} (h : TextsR w0 w Bd Z A n c ps) (k : w.grownBy w' (some q)) (hq : q < Z) : TextsR w0 w' Bd Z A n c ps :=
 ⟨own_sub h.1 (fun b hb hlt => k.block b hlt (fun e => by injection e with e; omega)), h.2⟩
theorem TextsR.grow {w0 w w' : World} {Bd Z n c : Nat} {A : Option Addr} {ps : List (Value × List UInt8)} (h : TextsR w0 w Bd Z A n c ps) (k : Grow w w') : TextsR w0 w' Bd Z A n c ps := ⟨own_below h.1 k, h.2⟩
theorem OutsO.grow {w w' : World} {Z n c : Nat} {A : Option Addr} {l : List Outp} (h : OutsO w Z A n c l) (k : Grow w w') : OutsO w' Z A n c l := h.keep (fun b _ hlt => k.block b hlt)
def InR (w : World) (Z : Nat) (A : Option Addr) (n c : Nat) (l : List (Value × Inp)) : Prop := w.ownsRow Z 105 35 (.slice A n c) n (l.flatMap fun p => inV p.1 p.2)
theorem InR.grow {w w' : World} {Z n c : Nat} {A : Option Addr} {l : List (Value × Inp)} (h : InR w Z A n c l) (k : Grow w w') : InR w' Z A n c l := own_below h k
def ReU (w0 wr : World) (Bd Z : Nat) (out : Except Nat Cmd) (ps : List (Value × List UInt8)) (A : Option Addr) (n c : Nat) (A2 : Option Addr) (n2 c2 : Nat) (ls : List (Value × Inp)) (m : Cmd) : Prop :=
 m.ok ∧ (InR wr Z A n c ls ∧ SecR w0 Bd ls ∧ ls.length = n) ∧ m.tx.ins = ls.map Prod.snd ∧ OutsO wr Z A2 n2 c2 m.tx.outs ∧
  (∀ x, readCs (ps.map Prod.snd) = .error x → out = .error x) ∧ ∀ cs, readCs (ps.map Prod.snd) = .ok cs → out = .ok { m with certs := cs }
theorem rcmread_any {A0 : Option Addr} {n0 c0 : Nat} {l : List UInt8} (w : World) (hs : Sl w w.heap.size 1 A0 n0 (l.map B)) (hc : n0 ≤ c0) (hn : n0 ≤ 1000000) : Calls Try.prog 14 #[.slice A0 n0 c0] w fun e w' => CmRead w w' l e := by
 obtain rfl : n0 = l.length := by have := hs.len; simpa using this.symm
 have HS := kp hs; have HCL := kp hc; have HNM := kp hn;have HCZ := kp (vs_cl (q := noCW) noCmd_ok);have BC := kp built_cmd0;have ZC := kp zero_cmd;obtain ⟨out, hout⟩ := xe (readCm l);have HOUT := kp hout;obtain ⟨zc, hzc⟩ := xe (noCW.vs noCmd)
 have HERR := kp (fun (er : Nat) (w' : World) (h1 : out = .error er) (hb : Below w.heap.size w w') => show CmRead w w' l (.returned (.tuple #[.agg zc.toArray, .int .i64 (er : Int)])) from
  ⟨noCW, by rw [← hout, h1, hzc]; rfl, by rw [← hout, h1]; exact cmdAt_no _, hb⟩)
 have HOKR := kp (fun (q : CW) (m : Cmd) (w' : World) (h1 : out = .ok m) (hc : CmdAt w' q m) (hb : Below w.heap.size w w') => show CmRead w w' l (.returned (.tuple #[.agg (q.vs m).toArray, .int .i64 0])) from
  ⟨q, by rw [← hout, h1]; rfl, by rw [← hout, h1]; exact hc, hb⟩)
 rw [← hzc] at HCZ BC ZC;obtain ⟨Bd, hBd⟩ := xe w.heap.size;rw [← hBd] at HS;have HBE := kq (Bd ≤ w.heap.size) (by omega);obtain ⟨ll, hll⟩ := xe l.length;have HLL := kp hll;rw [← hll] at HS HCL HNM ⊢;obtain ⟨w_, hw⟩ := xe w;have HB := kq (Below w.heap.size w w_) (by rw [hw]; exact Below.refl _ _)
 suffices H : Calls Try.prog 14 #[.slice A0 ll c0] w_ fun e w' => CmRead w w' l e by rw [hw] at H; exact H
 clear hw hs hc hn hout hzc hBd hll
 go_enter Try.func14, Try.ntmps14
 go_wp2_with (with_reducible refine wal 2 ZC.o ?_);intro v_ b_ y_ s_;have HV := kp (at_mk b_ HCZ.o.len);have HVG := kp HB.o.size;generalize hg_ : w_.heap.size = g2 at HV HVG ⊢;clear b_ s_ hg_;have y_ := y_;clear y_;replace HB := kp (HB.o.grow' y_);clear y_;try clear w_
 rename World => w_;by_cases hl : 8192 < ll
 ·have HX := kq (out = .error 4) (by rw [HOUT.o]; unfold readCm; rw [if_pos (by rw [← HLL.o]; exact hl)]);have z1 : ((8192 : Int) < (ll : Int)) = True := eq_true (by omega);clear hl;go_wp2_with (with_reducible refine wst 18 ?_);refine stop_go ?_;refine wpl_build rfl rfl BC.o ?_;go_wp2_with (with_reducible refine wsb row_cmd HV.o.blk HV.o.len HCZ.o.len HCZ.o.one ?_);intro v_ b_ g_ s_;have HV_ := kp b_;have HB_ := kp (put_below HB.o HVG.o g_);clear b_ g_ s_;go_wp2_with fail;refine ret_cell_tmp rfl row_cmd HV_.o rfl HCZ.o.len rfl rfl ?_;exact HERR.o 4 _ HX.o HB_.o
 have HL8 := kq (l.length ≤ 8192) (by rw [← HLL.o]; omega);have z1 : ((8192 : Int) < (ll : Int)) = False := eq_false (by omega);clear hl;have B9 := kp (bt_fldn (n := ((9 : Nat) : Int)));have C9 := kp (fun (gy : Nat) (w : World) (s : YS) (h : EyY w Bd gy s) => enum24 w h (m := 9) (by omega));obtain ⟨f9, hf9⟩ := xe (fieldV 0 ((9 : Nat) : Int) nilS zeroD);rw [← hf9] at B9 C9;have BM := kp (bt_fldn (n := ((1099511627776 : Nat) : Int)));have CM := kp (fun (gy : Nat) (w : World) (s : YS) (h : EyY w Bd gy s) => enum24 w h (m := 1099511627776) (by omega));obtain ⟨fM, hfM⟩ := xe (fieldV 0 ((1099511627776 : Nat) : Int) nilS zeroD);rw [← hfM] at BM CM;have BT := kp (bt_fldn (n := ((4611686018427387904 : Nat) : Int)));have CT := kp (fun (gy : Nat) (w : World) (s : YS) (h : EyY w Bd gy s) => enum24 w h (m := 4611686018427387904) (by omega));obtain ⟨fT, hfT⟩ := xe (fieldV 0 ((4611686018427387904 : Nat) : Int) nilS zeroD);rw [← hfT] at BT CT;have BN := kp (bt_fldn (n := ((16 : Nat) : Int)));have CN := kp (fun (gy : Nat) (w : World) (s : YS) (h : EyY w Bd gy s) => enum24 w h (m := 16) (by omega));obtain ⟨fN, hfN⟩ := xe (fieldV 0 ((16 : Nat) : Int) nilS zeroD);rw [← hfN] at BN CN;have BI := kp (bt_fldk (k := 2));have CI := kp (fun (gy : Nat) (w : World) (s : YS) (h : EyY w Bd gy s) => eid24 w h);obtain ⟨fI, hfI⟩ := xe (fieldV 2 0 nilS zeroD);rw [← hfI] at BI CI;have BX := kp (bt_fldkn (k := 1) (n := ((4096 : Nat) : Int)));have CX := kp (fun (gy : Nat) (w : World) (s : YS) (h : EyY w Bd gy s) => etext24 w h (m := 4096) (by omega));obtain ⟨fX, hfX⟩ := xe (fieldV 1 ((4096 : Nat) : Int) nilS zeroD);rw [← hfX] at BX CX;have BU := kp (bt_fldkn (k := 1) (n := ((2048 : Nat) : Int)));have CU := kp (fun (gy : Nat) (w : World) (s : YS) (h : EyY w Bd gy s) => etext24 w h (m := 2048) (by omega));obtain ⟨fU, hfU⟩ := xe (fieldV 1 ((2048 : Nat) : Int) nilS zeroD);rw [← hfU] at BU CU;clear hf9 hfM hfT hfN hfI hfX hfU;go_wp2_with (with_reducible refine wst 23 ?_);refine stop_go ?_;clear z1;generalize hw1 : World.alloc w_ _ = v_;obtain ⟨hX_, y_, hs_⟩ := alloc_eq hw1;have HNG := kp HV.o.lt;have HBZ := kp HB.o.size;generalize hg_ : w_.heap.size = gy at hX_ hs_ HNG HBZ ⊢;have HX_ := kp hX_;have HNUM := kq (w.heap.size ≤ g2 ∧ g2 < gy ∧ Bd ≤ w.heap.size) ⟨HVG.o, HNG.o, HBE.o⟩;clear hw1 hX_ hs_ hg_ HNG HBZ;have y_ := y_;clear y_;replace HB := kp (HB.o.grow' y_);replace HV := kp (HV.o.grow y_);clear y_;try clear w_
 rename World => w_;have HY := kq (EyY w_ Bd gy (l, 0)) ⟨A0, c0, by show Blk _ _ _ [.slice A0 l.length c0, .int .i64 0]; rw [← HLL.o]; exact HX_.o, by show Sl w_ Bd 1 A0 l.length _; rw [← HLL.o]; exact HS.o.below (HB.o.mono HBE.o), by show l.length ≤ c0; rw [← HLL.o]; exact HCL.o, by have := HNUM.o; omega, by show l.length ≤ 1000000; rw [← HLL.o]; exact HNM.o⟩;clear HX_;have HST := kp (stf0 l);obtain ⟨s, hs0⟩ : ∃ s : YS, s = (l, 0) := ⟨_, rfl⟩;rw [← hs0] at HY HST;have HS0 := kp hs0;clear hs0;obtain ⟨rY, hrY⟩ := xe (numY 9 s);have HST_ := kq (StF (lookCm l) rY.2 (KF rY.1)) (by rw [hrY]; exact (by rw [HS0.o]; exact stf1));have Hk := kq (rY.1 ≤ 9) (by rw [hrY]; exact (numY_le 9 s).1);refine wpl_build rfl rfl B9.o ?_;go_wp2_with fail;refine (C9.o _ _ _ HY.o).mono ?_;rintro e v_ ⟨fl, rfl, hf, hy, hg⟩;rw [← hrY] at hf hy;obtain ⟨k, s⟩ := rY;simp only at hf hy HST_ Hk;have HY_ := kp hy;have HF := kp hf;clear hf hy hrY HST HY;have HST := HST_; have HY := HY_;clear HST_ HY_;replace HV := kp (HV.o.off hg (by have := HNUM.o; omega));replace HB := kp (put_below HB.o (by have := HNUM.o; omega) hg);clear hg;try clear cf
 try clear cy1
 clear w_;rename World => w_;have cf := HF.o w_;have q0 : IntKind.i64.wrap (k : Int) = (k : Int) := IntWalk.i64_in _ (by have := Hk.o; omega);have BK := kp (built_cmd1 (k : Int));have HMO := kq ((kindC (k : Int)).ok) (kindC_ok (by have := Hk.o; unfold I64; omega));have HKC := kp (vs_cl (q := noCW) HMO.o);rw [show ({ noCmd with kind := (k : Int) } : Cmd) = kindC k from rfl] at BK;obtain ⟨kv, hkv⟩ := xe (noCW.vs (kindC (k : Int)));have HKV := kp hkv;rw [← hkv] at BK HKC;clear hkv;go_wp2_with (with_reducible refine wst 27 ?_);refine stop_go ?_;refine wpl_build rfl rfl BK.o ?_;clear q0;go_wp2_with (with_reducible refine wal 5 ZC.o ?_);intro v_ b_ y_ s_;have HC := kp (at_mk b_ HCZ.o.len);have HNG := kp HY.o.lt;have HCG := kp HB.o.size;generalize hg_ : w_.heap.size = gc at HC HNG HCG ⊢;replace HNUM := kq (w.heap.size ≤ g2 ∧ g2 < gy ∧ gy < gc ∧ Bd ≤ w.heap.size) (by have := HNUM.o; have := HNG.o; omega);clear b_ s_ hg_ HNG;replace HV := kp (HV.o.grow y_);replace HY := kp (HY.o.grow y_);replace HB := kp (HB.o.grow' y_);clear y_;try clear cf
 try clear cy1
 clear w_;rename World => w_;go_wp2_with (with_reducible refine wsb row_cmd HC.o.blk HC.o.len HKC.o.len HKC.o.one ?_);intro v_ b_ hg s_;replace HC := kq (At v_ gc 33 73 (noCW.vs (kindC k))) (by rw [← HKV.o]; exact at_mk b_ HKC.o.len);clear b_ s_ HKC BK HKV;replace HV := kp (HV.o.off hg (by have := HNUM.o; omega));replace HY := kp (HY.o.off hg (by have := HNUM.o; omega) (by have := HNUM.o; omega));replace HB := kp (put_below HB.o (by have := HNUM.o; omega) hg);clear hg;try clear cf
 try clear cy1
 clear w_;rename World => w_;obtain ⟨Ay, cy, hy1, hy2, hy3, hy4, hy5⟩ := HY.o;have cy1 := hy1.at_ (i := 1) rfl;have c0 : w_.cell? ⟨gc, 0, none⟩ = some (.int .i64 (k : Int)) := HC.o.blk.at_ (vs_kind noCW (kindC k));clear hy1 hy2 hy3 hy4 hy5;by_cases hz : s.2 = 0 ∧ k = 0
 ·have z1 : ((s.2 : Int) == 0) = true := by simp [hz.1]
  have z2 : ((k : Int) == 0) = true := by simp [hz.2]
  have HX := kp (show out = .error 25 by
   rw [HOUT.o]; unfold readCm; rw [if_neg (by have := HL8.o; omega)];rcases HST.o with ⟨h1, h2⟩ | ⟨h1, _⟩
   ·rw [h2, hz.2]; rfl
   ·exact absurd hz.1 h1)
  clear hz;go_wp2_with (with_reducible refine wst 38 ?_);refine stop_go ?_;refine wpl_build rfl rfl BC.o ?_;go_wp2_with (with_reducible refine wsb row_cmd HV.o.blk HV.o.len HCZ.o.len HCZ.o.one ?_);intro v_ b_ g_ s_;have HV_ := kp b_;have HB_ := kp (put_below HB.o HVG.o g_);clear b_ g_ s_;go_wp2_with fail;refine ret_cell_tmp rfl row_cmd HV_.o rfl HCZ.o.len rfl rfl ?_;exact HERR.o 25 _ HX.o HB_.o
 have HST_ := kp (stf_z HST.o (by by_cases h : s.2 = 0; exact .inr (fun h2 => hz ⟨h, h2⟩); exact .inl h))
 have y1 : (((s.2 : Int) == 0) = false) ∨ (((s.2 : Int) == 0) = true ∧ ((k : Int) == 0) = false) := by
  by_cases h : s.2 = 0
  ·exact .inr ⟨by simp [h], by have : ¬ k = 0 := fun h2 => hz ⟨h, h2⟩; simp [this]⟩
  ·exact .inl (by simp [h])
 clear hz HST;have HST := HST_;clear HST_;have HY1 := kp y1;clear y1;try simp only [Act.put]
 go_upto_region 5 with fail
 go_cut [37] from 15 (fun s37 wr => s37 = .bool false ∧ wr = w_)
 case first =>
  rcases HY1.o with h | ⟨h, h2⟩
  ·go_wp2_with fail
   go_meet
   case rel => exact ⟨rfl, rfl⟩
  ·go_wp2_with fail
   go_meet
   case rel => exact ⟨rfl, rfl⟩
 case rest =>
 obtain ⟨rfl, rfl⟩ := hcut;rename World => w_;clear HY1 cy1 HS0;try simp only [Act.put]
 go_upto_if 41 with fail
 clear c0
 go_cut [] from 15 (fun wr => ∃ (m : Cmd) (s : YS), Hid (StF (lookCm l) s (R1 k m)) ∧ Hid (m.ok ∧ m.kind = (k : Int) ∧ (k ≠ 1 → m = kindC (k : Int))) ∧ Hid (EyY wr Bd gy s) ∧ Hid (At wr g2 33 73 zc) ∧ Hid (At wr gc 33 73 (noCW.vs m)) ∧ Hid (Below w.heap.size w wr))
 case first => as_aux_lemma =>
  by_cases h1 : k = 1
  ·have HST_ := kq (StF (lookCm l) s (KF 1)) (by have h := HST.o; unfold KZ0 at h; rw [if_neg (by omega), h1] at h; exact h);clear HST;have HST := HST_;have z1 : ((k : Int) == 1) = true := by simp [h1]
   have HK1 := kp h1;clear HST_ h1;obtain ⟨rY, hrY⟩ := xe (numY 1099511627776 s);have HST_ := kq (StF (lookCm l) rY.2 (K1a rY.1)) (by rw [hrY]; exact (stf_k1 HST.o));have Hv1 := kq (rY.1 ≤ 1099511627776) (by rw [hrY]; exact (numY_le 1099511627776 s).1);go_wp2_with (with_reducible refine wst 43 ?_);refine stop_go ?_;refine wpl_build rfl rfl BM.o ?_;go_wp2_with fail;refine (CM.o _ _ _ HY.o).mono ?_;rintro e v_ ⟨fl, rfl, hf, hy, hg⟩;rw [← hrY] at hf hy;obtain ⟨v1, s⟩ := rY;simp only at hf hy HST_ Hv1;have HY_ := kp hy;have HF := kp hf;clear hf hy hrY HST HY;have HST := HST_; have HY := HY_;clear HST_ HY_;replace HV := kp (HV.o.off hg (by have := HNUM.o; omega));replace HC := kp (HC.o.off hg (by have := HNUM.o; omega));replace HB := kp (put_below HB.o (by have := HNUM.o; omega) hg);clear hg;try clear cf
   try clear cy1
   clear w_;rename World => w_;have cf := HF.o w_;have q0 : IntKind.i64.wrap (v1 : Int) = (v1 : Int) := IntWalk.i64_in _ (by have := Hv1.o; omega);obtain ⟨k9, hk9⟩ : ∃ z : Cmd, z = kindC (k : Int) := ⟨_, rfl⟩;have HK9 := kp hk9;have HDO := kq k9.dest.ok (by rw [hk9]; exact HMO.o.2.2.2.1);rw [← hk9] at HC HMO;clear hk9;have HMO_ := kq (({ k9 with serial := (v1 : Int) } : Cmd).ok) ⟨HMO.o.1, HMO.o.2.1, HMO.o.2.2.1, HMO.o.2.2.2.1, by have := Hv1.o; unfold I64; simp only; omega, HMO.o.2.2.2.2.2⟩;go_wp2_with (first | (refine wpl_store1 (o := ⟨none, .store _ _ _, _, _, _, _⟩) rfl rfl HC.o.blk rfl rfl (by kernel_rfl) rfl rfl (by rw [HC.o.len]; omega) ?_));intro v_ b_ hg s_;replace HC := kq (At v_ gc 33 73 (noCW.vs { k9 with serial := (v1 : Int) })) (at_mk (by rw [← set_serial (q := noCW) HDO.o (v1 : Int)]; exact b_) (vs_len (by first | exact HMO.o | exact HMO_.o)));clear b_ s_;replace HV := kp (HV.o.off hg (by have := HNUM.o; omega));replace HY := kp (HY.o.off hg (by have := HNUM.o; omega) (by have := HNUM.o; omega));replace HB := kp (put_below HB.o (by have := HNUM.o; omega) hg);clear hg;try clear cf
   try clear cy1
   clear w_;rename World => w_;clear q0 HF;obtain ⟨rY, hrY⟩ := xe (idY s);have HST_ := kq (StF (lookCm l) rY.2 (K1b v1 rY.1)) (by rw [hrY]; exact (stf_k1a HST.o));have Hd := kq (rY.1.length = 32) (by rw [hrY]; exact idY_32 s);go_wp2_with (with_reducible refine wst 49 ?_);refine stop_go ?_;refine wpl_build rfl rfl BI.o ?_;go_wp2_with fail;refine (CI.o _ _ _ HY.o).mono ?_;rintro e v_ ⟨fl, rfl, hf, hy, hg⟩;rw [← hrY] at hf hy;obtain ⟨d, s⟩ := rY;simp only at hf hy HST_ Hd;have HY_ := kp hy;have HF := kp hf;clear hf hy hrY HST HY;have HST := HST_; have HY := HY_;clear HST_ HY_;replace HV := kp (HV.o.off hg (by have := HNUM.o; omega));replace HC := kp (HC.o.off hg (by have := HNUM.o; omega));replace HB := kp (put_below HB.o (by have := HNUM.o; omega) hg);clear hg;try clear cf
   try clear cy1
   clear w_;rename World => w_;have cf := HF.o w_;have HDC := kq (Cl 32 (d.map B)) ⟨by rw [List.length_map]; exact Hd.o, all_bytes _⟩;have HSO := kp (set_owner (q := noCW) (m := { k9 with serial := (v1 : Int) }) HDO.o Hd.o);obtain ⟨dv, hdv⟩ := xe (d.map B);rw [← hdv] at HDC HSO cf;clear hdv HF HMO_;obtain ⟨m2, hm2⟩ : ∃ z : Cmd, z = { k9 with serial := (v1 : Int), dest := ⟨d, k9.dest.amount⟩ } := ⟨_, rfl⟩;have HM2 := kp hm2;have HDO2 := kq m2.dest.ok (by rw [hm2]; exact ⟨Hd.o, HDO.o.2⟩);have HMO_ := kq m2.ok (by rw [hm2]; exact ⟨HMO.o.1, HMO.o.2.1, HMO.o.2.2.1, ⟨Hd.o, HDO.o.2⟩, by have := Hv1.o; unfold I64; simp only; omega, HMO.o.2.2.2.2.2⟩);rw [show ({ ({ k9 with serial := (v1 : Int) } : Cmd) with dest := ⟨d, ({ k9 with serial := (v1 : Int) } : Cmd).dest.amount⟩ } : Cmd) = m2 from hm2.symm] at HSO;clear hm2;go_wp2_with (with_reducible first | refine wpl_storem (o := ⟨none, .store _ _ _, _, _, _, _⟩) (off := 6) rfl rfl row_id HC.o.blk rfl rfl HDC.o.len (by rw [HC.o.len]; omega) HDC.o.one ?_);intro v_ b_ hg s_;replace HC := kq (At v_ gc 33 73 (noCW.vs m2)) (at_mk (by rw [← HSO.o]; exact b_) (vs_len HMO_.o));clear b_ s_;replace HV := kp (HV.o.off hg (by have := HNUM.o; omega));replace HY := kp (HY.o.off hg (by have := HNUM.o; omega) (by have := HNUM.o; omega));replace HB := kp (put_below HB.o (by have := HNUM.o; omega) hg);clear hg;try clear cf
   try clear cy1
   clear w_;rename World => w_;clear HSO;obtain ⟨rY, hrY⟩ := xe (numY 4611686018427387904 s);have HST_ := kq (StF (lookCm l) rY.2 (KO ⟨{ kindC 1 with serial := (v1 : Int), dest := ⟨d, (rY.1 : Int)⟩ }, [], []⟩)) (by rw [hrY]; exact (stf_k1b HST.o));have Hv3 := kq (rY.1 ≤ 4611686018427387904) (by rw [hrY]; exact (numY_le 4611686018427387904 s).1);go_wp2_with (with_reducible refine wst 55 ?_);refine stop_go ?_;refine wpl_build rfl rfl BT.o ?_;go_wp2_with fail;refine (CT.o _ _ _ HY.o).mono ?_;rintro e v_ ⟨fl, rfl, hf, hy, hg⟩;rw [← hrY] at hf hy;obtain ⟨v3, s⟩ := rY;simp only at hf hy HST_ Hv3;have HY_ := kp hy;have HF := kp hf;clear hf hy hrY HST HY;have HST := HST_; have HY := HY_;clear HST_ HY_;replace HV := kp (HV.o.off hg (by have := HNUM.o; omega));replace HC := kp (HC.o.off hg (by have := HNUM.o; omega));replace HB := kp (put_below HB.o (by have := HNUM.o; omega) hg);clear hg;try clear cf
   try clear cy1
   clear w_;rename World => w_;have cf := HF.o w_;clear HMO_
   have HMO_ := kp (show ({ m2 with dest := ⟨m2.dest.owner, (v3 : Int)⟩ } : Cmd).ok from by
    rw [HM2.o]
    exact ⟨HMO.o.1, HMO.o.2.1, HMO.o.2.2.1, ⟨Hd.o, by have := Hv3.o; unfold U64; simp only; omega⟩, by have := Hv1.o; unfold I64; simp only; omega, HMO.o.2.2.2.2.2⟩)
   go_wp2_with (first | (refine wpl_store1 (o := ⟨none, .store _ _ _, _, _, _, _⟩) rfl rfl HC.o.blk rfl rfl (by kernel_rfl) rfl rfl (by rw [HC.o.len]; omega) ?_));intro v_ b_ hg s_;replace HC := kq (At v_ gc 33 73 (noCW.vs { m2 with dest := ⟨m2.dest.owner, (v3 : Int)⟩ })) (at_mk (by rw [← set_amount (q := noCW) HDO2.o (v3 : Int)]; exact b_) (vs_len (by first | exact HMO.o | exact HMO_.o)));clear b_ s_;replace HV := kp (HV.o.off hg (by have := HNUM.o; omega));replace HY := kp (HY.o.off hg (by have := HNUM.o; omega) (by have := HNUM.o; omega));replace HB := kp (put_below HB.o (by have := HNUM.o; omega) hg);clear hg;try clear cf
   try clear cy1
   clear w_;rename World => w_;clear HF;go_wp2_with fail
   go_meet
   case rel =>
    have e1 : ({ m2 with dest := ⟨m2.dest.owner, (v3 : Int)⟩ } : Cmd) = { kindC 1 with serial := (v1 : Int), dest := ⟨d, (v3 : Int)⟩ } := by rw [HM2.o, HK9.o, HK1.o]; rfl
    refine ⟨_, s, kp ?_, kp ⟨HMO_.o, ?_, fun h => absurd HK1.o h⟩, HY, HV, HC, HB⟩
    ·unfold R1; rw [if_pos HK1.o, e1]; exact HST.o
    ·rw [e1, HK1.o]; rfl
  ·have z1 : ((k : Int) == 1) = false := by simp; omega
   have HK1 := kp h1;clear h1;go_wp2_with fail
   go_meet
   case rel => exact ⟨kindC k, s, kp (by unfold R1; rw [if_neg HK1.o]; exact HST.o), kp ⟨HMO.o, rfl, fun _ => rfl⟩, HY, HV, HC, HB⟩
 case rest => as_aux_lemma =>
 obtain ⟨m, s, h1, h2, h3, h4, h5, h6⟩ := hcut;clear HST HMO HY HV HC HB;have HST := h1; have HM := h2; have HY := h3; have HV := h4; have HC := h5; have HB := h6;clear h1 h2 h3 h4 h5 h6;clear w_;rename World => w_;have c0 : w_.cell? ⟨gc, 0, none⟩ = some (.int .i64 (k : Int)) := by have h := HC.o.blk.at_ (vs_kind noCW m); rw [HM.o.2.1] at h; exact h
 have HK9 := kq (k ≤ 9) Hk.o;try simp only [Act.put]
 go_upto_region 13 with fail
 go_cut [67] from 15 (fun s67 wr => s67 = .bool (decide (2 ≤ k) && decide (k ≤ 6)) ∧ wr = w_)
 case first =>
  rcases Nat.lt_or_ge k 2 with h | h
  ·have y2 : (2 ≤ (k : Int)) = False := eq_false (by omega);go_wp2_with fail
   go_meet
   case rel => exact ⟨by rw [show decide (2 ≤ k) = false by simp; omega]; rfl, rfl⟩
  ·have y2 : (2 ≤ (k : Int)) = True := eq_true (by omega);rcases Nat.lt_or_ge 6 k with h6 | h6
   ·have y6 : ((k : Int) ≤ 6) = False := eq_false (by omega);go_wp2_with fail
    go_meet
    case rel => exact ⟨by rw [show decide (2 ≤ k) = true by simp; omega, show decide (k ≤ 6) = false by simp; omega]; rfl, rfl⟩
   ·have y6 : ((k : Int) ≤ 6) = True := eq_true (by omega);go_wp2_with fail
    go_meet
    case rel => exact ⟨by rw [show decide (2 ≤ k) = true by simp; omega, show decide (k ≤ 6) = true by simp; omega]; rfl, rfl⟩
 case rest =>
 obtain ⟨rfl, rfl⟩ := hcut;rename World => w_;clear c0;obtain ⟨b2, hb2⟩ := xe (decide (2 ≤ k) && decide (k ≤ 6));have HB2 := kp hb2;rw [← hb2];clear hb2;try simp only [Act.put]
 go_upto_if 67 with fail
 go_cut [6] from 15 (fun s6 wr => ∃ (t : List UInt8) (TA : Option Addr) (tc : Nat) (s : YS), s6 = .slice TA t.length tc ∧ Hid (StF (lookCm l) s (R2 k m t)) ∧ Hid (Sl w Bd 1 TA t.length (t.map B) ∧ t.length ≤ tc ∧ t.length ≤ 4096 ∧ (¬ (2 ≤ k ∧ k ≤ 6) → t = [])) ∧ Hid (EyY wr Bd gy s) ∧ Hid (At wr g2 33 73 zc) ∧ Hid (At wr gc 33 73 (noCW.vs m)) ∧ Hid (Below w.heap.size w wr))
 case first => as_aux_lemma =>
  cases b2 with
  | true =>
   have HK2 := kq (2 ≤ k ∧ k ≤ 6) (by have h := HB2.o; simp at h; omega);have HST_ := kq (StF (lookCm l) s (KF k)) (by have h := HST.o; unfold R1 KZ0 at h; rw [if_neg (by have := HK2.o; omega), if_neg (by have := HK2.o; omega)] at h; exact h);have HME := kq (m = kindC (k : Int)) (HM.o.2.2 (by have := HK2.o; omega));clear HST;have HST := HST_;clear HST_;obtain ⟨rY, hrY⟩ := xe (textY 4096 s)
   have HST_ := kp (show StF (lookCm l) rY.2 (R2 k m rY.1) by rw [hrY]; exact (by
       unfold R2;by_cases h : k = 2 ∨ k = 3
       ·rw [if_pos (by omega), HME.o]; exact stf_k2 HST.o h
       ·have h4 : k = 4 ∨ k = 5 ∨ k = 6 := by have := HK2.o; omega
        rw [if_neg (by omega), if_pos h4]; exact stf_k4 HST.o h4))
   have Htx := kq (rY.1.length ≤ 4096) (by rw [hrY]; exact textY_le 4096 s);go_wp2_with (with_reducible refine wst 69 ?_);refine stop_go ?_;refine wpl_build rfl rfl BX.o ?_;go_wp2_with fail;refine (CX.o _ _ _ HY.o).mono ?_;rintro e v_ ⟨fl, TA, tc, rfl, hf, hs, hcc, hy, hg⟩;rw [← hrY] at hf hy hs hcc;obtain ⟨tx, s⟩ := rY;simp only at hf hy HST_ Htx hs hcc;have HTX := kq (Sl w Bd 1 TA tx.length (tx.map B) ∧ tx.length ≤ tc) ⟨hs.back ((put_below HB.o (by have := HNUM.o; omega) hg).mono HBE.o), hcc⟩;clear hs hcc;have HY_ := kp hy;have HF := kp hf;clear hf hy hrY HST HY;have HST := HST_; have HY := HY_;clear HST_ HY_;replace HV := kp (HV.o.off hg (by have := HNUM.o; omega));replace HC := kp (HC.o.off hg (by have := HNUM.o; omega));replace HB := kp (put_below HB.o (by have := HNUM.o; omega) hg);clear hg;try clear cf
   try clear cy1
   clear w_;rename World => w_;have cf := HF.o w_;go_wp2_with fail
   go_meet
   case rel => exact ⟨tx, TA, tc, s, rfl, HST, kp ⟨HTX.o.1, HTX.o.2, Htx.o, fun h => absurd HK2.o h⟩, HY, HV, HC, HB⟩
  | false =>
   go_wp2_with fail
   go_meet
   case rel =>
    refine ⟨[], none, 0, s, rfl, kp ?_, kp ⟨Sl.nil, Nat.le_refl _, Nat.zero_le _, fun _ => rfl⟩, HY, HV, HC, HB⟩;have h := HST.o;have h2 : ¬ (2 ≤ k ∧ k ≤ 6) := fun h => by have h3 := HB2.o; simp at h3; omega
    unfold R1 at h;unfold R2;by_cases h1 : k = 1
    ·rw [if_pos h1] at h; rw [if_pos (.inl h1)]; exact h
    ·rw [if_neg h1] at h; rw [if_neg (by omega), if_neg (by omega)]; exact h
 case rest => as_aux_lemma =>
 obtain ⟨tx, TA, tc, s, rfl, h1, h2, h3, h4, h5, h6⟩ := hcut;clear HST HY HV HC HB HB2;have HST := h1; have HTX := h2; have HY := h3; have HV := h4; have HC := h5; have HB := h6;clear h1 h2 h3 h4 h5 h6;clear w_;rename World => w_;have c0 : w_.cell? ⟨gc, 0, none⟩ = some (.int .i64 (k : Int)) := by have h := HC.o.blk.at_ (vs_kind noCW m); rw [HM.o.2.1] at h; exact h
 try simp only [Act.put]
 go_upto_region 15 with fail
 go_cut [79] from 15 (fun s79 wr => s79 = .bool (decide (4 ≤ k) && decide (k ≤ 6)) ∧ wr = w_)
 case first =>
  rcases Nat.lt_or_ge k 4 with h | h
  ·have y2 : (4 ≤ (k : Int)) = False := eq_false (by omega);go_wp2_with fail
   go_meet
   case rel => exact ⟨by rw [show decide (4 ≤ k) = false by simp; omega]; rfl, rfl⟩
  ·have y2 : (4 ≤ (k : Int)) = True := eq_true (by omega);rcases Nat.lt_or_ge 6 k with h6 | h6
   ·have y6 : ((k : Int) ≤ 6) = False := eq_false (by omega);go_wp2_with fail
    go_meet
    case rel => exact ⟨by rw [show decide (4 ≤ k) = true by simp; omega, show decide (k ≤ 6) = false by simp; omega]; rfl, rfl⟩
   ·have y6 : ((k : Int) ≤ 6) = True := eq_true (by omega);go_wp2_with fail
    go_meet
    case rel => exact ⟨by rw [show decide (4 ≤ k) = true by simp; omega, show decide (k ≤ 6) = true by simp; omega]; rfl, rfl⟩
 case rest =>
 obtain ⟨rfl, rfl⟩ := hcut;rename World => w_;clear c0;obtain ⟨b2, hb2⟩ := xe (decide (4 ≤ k) && decide (k ≤ 6));have HB2 := kp hb2;rw [← hb2];clear hb2;try simp only [Act.put]
 go_upto_if 79 with fail
 go_cut [7] from 15 (fun s7 wr => ∃ (CA : Option Addr) (cn cc : Nat) (ps : List (Value × List UInt8)) (s : YS), cn ≤ 16 ∧ s7 = .slice CA cn cc ∧ Hid (StF (lookCm l) s (R3 k m tx (ps.map Prod.snd))) ∧ Hid (TextsR w wr Bd (gc + 1) CA cn cc ps ∧ (¬ (4 ≤ k ∧ k ≤ 6) → ps = [])) ∧ Hid (EyY wr Bd gy s) ∧ Hid (At wr g2 33 73 zc) ∧ Hid (At wr gc 33 73 (noCW.vs m)) ∧ Hid (Below w.heap.size w wr))
 case first => as_aux_lemma =>
  cases b2 with
  | true =>
   have HK2 := kq (4 ≤ k ∧ k ≤ 6) (by have h := HB2.o; simp at h; omega);have HST_ := kq (StF (lookCm l) s (KC k tx)) (by have h := HST.o; unfold R2 at h; rw [if_neg (by have := HK2.o; omega), if_pos (by have := HK2.o; omega)] at h; exact h);have HME := kq (m = kindC (k : Int)) (HM.o.2.2 (by have := HK2.o; omega));clear HST;have HST := HST_;clear HST_;obtain ⟨rY, hrY⟩ := xe (numY 16 s);have HST_ := kq (StF (lookCm l) rY.2 (KL k tx rY.1 [])) (by rw [hrY]; exact (stf_kc HST.o));have Hnn := kq (rY.1 ≤ 16) (by rw [hrY]; exact (numY_le 16 s).1);go_wp2_with (with_reducible refine wst 81 ?_);refine stop_go ?_;refine wpl_build rfl rfl BN.o ?_;go_wp2_with fail;refine (CN.o _ _ _ HY.o).mono ?_;rintro e v_ ⟨fl, rfl, hf, hy, hg⟩;rw [← hrY] at hf hy;obtain ⟨nn, s⟩ := rY;simp only at hf hy HST_ Hnn;have HY_ := kp hy;have HF := kp hf;clear hf hy hrY HST HY;have HST := HST_; have HY := HY_;clear HST_ HY_;replace HV := kp (HV.o.off hg (by have := HNUM.o; omega));replace HC := kp (HC.o.off hg (by have := HNUM.o; omega));replace HB := kp (put_below HB.o (by have := HNUM.o; omega) hg);clear hg;try clear cf
   try clear cy1
   clear w_;rename World => w_;have cf := HF.o w_;have q0 : IntKind.i64.wrap (nn : Int) = (nn : Int) := IntWalk.i64_in _ (by have := Hnn.o; omega);go_wp2_with fail;clear q0 cf HF;go_loopw [7, 9] (fun s7 s9 wr => ∃ (CA : Option Addr) (j cc : Nat) (ps : List (Value × List UInt8)) (s : YS), j ≤ nn ∧ s7 = .slice CA j cc ∧ s9 = .int .i64 (j : Int) ∧ Hid (StF (lookCm l) s (KL k tx (nn - j) (ps.map Prod.snd))) ∧ Hid (TextsR w wr Bd (gc + 1) CA j cc ps) ∧ Hid (EyY wr Bd gy s) ∧ Hid (At wr g2 33 73 zc) ∧ Hid (At wr gc 33 73 (noCW.vs m)) ∧ Hid (Below w.heap.size w wr)) (fun _ s9 _ => nn - (intOf s9).toNat)
   case atStart => exact ⟨none, 0, 0, [], s, by omega, rfl, rfl, HST, kp (TextsR.nil _ _ _ _), HY, HV, HC, HB⟩
   case round =>
    obtain ⟨CA, j, cc, ps, s, hj, rfl, rfl, h1, h2, h3, h4, h5, h6⟩ := hrel;clear HST HY HV HC HB;have HST := kp h1.o; have HO := kp h2.o; have HY := kp h3.o; have HV := kp h4.o; have HC := kp h5.o; have HB := kp h6.o;clear h1 h2 h3 h4 h5 h6;rename World => w_;obtain ⟨Ay, cy, hy1, hy2, hy3, hy4, hy5⟩ := HY.o;have cy1 := hy1.at_ (i := 1) rfl;clear hy1 hy2 hy3 hy4 hy5;by_cases hlt : j < nn
    ·by_cases he : s.2 = 0
     ·have z1 : ((s.2 : Int) == 0) = true := by simp [he]
      have y1 : ((j : Int) < (nn : Int)) = True := eq_true (by omega);have HST_ := kq (StF (lookCm l) s (KL k tx (nn - (j + 1) + 1) (ps.map Prod.snd))) (by rw [show nn - (j + 1) + 1 = nn - j by omega]; exact HST.o);clear HST;have HST := HST_;have HJ := kp hlt; have HS0 := kp he;clear HST_ he;obtain ⟨rY, hrY⟩ := xe (textY 2048 s);have HST_ := kq (StF (lookCm l) rY.2 (KL k tx (nn - (j + 1)) (ps.map Prod.snd ++ [rY.1]))) (by rw [hrY]; exact (stf_kl HST.o));have Htx2 := kq (rY.1.length ≤ 2048) (by rw [hrY]; exact textY_le 2048 s);go_wp2_with (with_reducible refine wst 99 ?_);refine stop_go ?_;refine wpl_build rfl rfl BU.o ?_;go_wp2_with fail;refine (CU.o _ _ _ HY.o).mono ?_;rintro e v_ ⟨fl, TA, tc, rfl, hf, hs, hcc, hy, hg⟩;rw [← hrY] at hf hy hs hcc;obtain ⟨tx2, s⟩ := rY;simp only at hf hy HST_ Htx2 hs hcc;have HTX := kq (Sl w Bd 1 TA tx2.length (tx2.map B) ∧ tx2.length ≤ tc) ⟨hs.back ((put_below HB.o (by have := HNUM.o; omega) hg).mono HBE.o), hcc⟩;clear hs hcc;have HY_ := kp hy;have HF := kp hf;clear hf hy hrY HST HY;have HST := HST_; have HY := HY_;clear HST_ HY_;replace HV := kp (HV.o.off hg (by have := HNUM.o; omega));replace HC := kp (HC.o.off hg (by have := HNUM.o; omega));replace HO := kp (HO.o.off hg (by have := HNUM.o; omega));replace HB := kp (put_below HB.o (by have := HNUM.o; omega) hg);clear hg;try clear cf
      try clear cy1
      clear w_;rename World => w_;have cf := HF.o w_;clear z1 y1;have HZW := kq (gc + 1 ≤ w_.heap.size) (by have := HC.o.lt; omega);have hn16 := Hnn.o;go_wp2_with (at_builtin; refine wpl_app1 rfl rfl el_su8 HO.o.1 rfl (m := 1) (cs := #[.slice TA tx2.length tc]) rfl rfl (fun u hu => by simp only [List.mem_singleton] at hu; subst hu; rfl) (by omega) (by omega) HZW.o ?_);intro A4 c4 v_ ho_ hg_ hA_;clear hn16;have hne_ : ∀ q, CA.map Addr.block = some q → gc + 1 ≤ q := own_from HO.o.1;have HV_ := kq (At v_ g2 33 73 zc) (at_mk (HV.o.blk.grown hg_ (fun e => by have h1 := hne_ _ e.symm; have := HNUM.o; omega)) HV.o.len);have HC_ := kq (At v_ gc 33 73 (noCW.vs m)) (at_mk (HC.o.blk.grown hg_ (fun e => by have h1 := hne_ _ e.symm; omega)) HC.o.len);have HY_ := kp (HY.o.row hg_ hne_ (by have := HNUM.o; omega));have HB_ := kp (below_grown HB.o hg_ HB.o.size (fun q hq => by have h1 := hne_ q hq; have := HNUM.o; omega))
      have HO_ := kp (show TextsR w v_ Bd (gc + 1) A4 (j + 1) c4 (ps ++ [(.slice TA tx2.length tc, tx2)]) from ⟨by rw [List.map_append]; exact ho_, fun p hp => by
       rcases List.mem_append.1 hp with hp | hp
       ·exact HO.o.2.1 p hp
       ·have : p = (.slice TA tx2.length tc, tx2) := by simpa using hp
        subst this; exact ⟨TA, tc, rfl, HTX.o.2, Htx2.o, HTX.o.1⟩, by simp [HO.o.2.2]⟩)
      clear ho_ hg_ hA_ hne_ HV HC HY HB HO HZW HTX HF cf;generalize w_.heap.size = gx_;clear w_;rename World => w_;have q1 : IntKind.i64.wrap ((j : Int) + 1) = (j : Int) + 1 := IntWalk.i64_in _ (by have := Hnn.o; omega);go_wp2_with fail;go_roundw
      all_goals clear q1
      case rel => exact ⟨A4, j + 1, c4, ps ++ [(.slice TA tx2.length tc, tx2)], s, by omega, rfl, by go_num, kp (by rw [List.map_append]; exact HST.o), HO_, HY_, HV_, HC_, HB_⟩
      case measure => simp [intOf]; omega
     ·have z1 : ((s.2 : Int) == 0) = false := by simp [he]
      have y1 : ((j : Int) < (nn : Int)) = True := eq_true (by omega);go_wp2_with fail
      go_meet
      case rel => exact ⟨CA, j, cc, ps, s, by have := Hnn.o; omega, rfl, kp (by rcases HST.o with ⟨h, _⟩ | h; exact absurd h he; exact .inr h), kp ⟨HO.o, fun h => absurd HK2.o h⟩, HY, HV, HC, HB⟩
    ·have y1 : ((j : Int) < (nn : Int)) = False := eq_false (by omega);go_wp2_with fail
     go_meet
     case rel =>
      refine ⟨CA, j, cc, ps, s, by have := Hnn.o; omega, rfl, kp ?_, kp ⟨HO.o, fun h => absurd HK2.o h⟩, HY, HV, HC, HB⟩;have h := HST.o;rw [show nn - j = 0 by omega] at h;unfold R3;rw [if_pos (by have := HK2.o; omega), HME.o];exact stf_kz h
  | false =>
   go_wp2_with fail
   go_meet
   case rel =>
    refine ⟨none, 0, 0, [], s, by omega, rfl, kp ?_, kp ⟨TextsR.nil _ _ _ _, fun _ => rfl⟩, HY, HV, HC, HB⟩;have h := HST.o;have h2 : ¬ (4 ≤ k ∧ k ≤ 6) := fun h => by have h3 := HB2.o; simp at h3; omega
    unfold R2 at h;unfold R3;by_cases h1 : k = 1 ∨ k = 2 ∨ k = 3
    ·rw [if_pos h1] at h; rw [if_pos (by omega)]; exact h
    ·rw [if_neg h1, if_neg (by omega)] at h; rw [if_neg (by omega)]; exact h
 case rest => as_aux_lemma =>
 obtain ⟨CA, cn, cc, ps, s, hcn, rfl, h1, h2, h3, h4, h5, h6⟩ := hcut;clear HST HY HV HC HB HB2;have HST := h1; have HO := kp h2.o.1; have HY := h3; have HV := h4; have HC := h5; have HB := h6; have HCN := kp hcn;have HTE := kq (¬ (2 ≤ k ∧ k ≤ 6) → tx = [] ∧ ps = []) (fun h => ⟨HTX.o.2.2.2 h, h2.o.2 (by omega)⟩);clear h1 h2 h3 h4 h5 h6 hcn;clear w_;rename World => w_;have c0 : w_.cell? ⟨gc, 0, none⟩ = some (.int .i64 (k : Int)) := by have h := HC.o.blk.at_ (vs_kind noCW m); rw [HM.o.2.1] at h; exact h
 have HMK := HM.o.2.1;try simp only [Act.put]
 go_upto_if 106 with fail
 clear c0 HMK
 go_cut [] from 15 (fun wr => ∃ (m : Cmd) (s : YS), Hid (StF (lookCm l) s (R4 k m tx (ps.map Prod.snd))) ∧ Hid (m.ok ∧ m.kind = (k : Int) ∧ (¬ (1 ≤ k ∧ k ≤ 7) → m = kindC (k : Int))) ∧ Hid (TextsR w wr Bd (gc + 1) CA cn cc ps) ∧ Hid (EyY wr Bd gy s) ∧ Hid (At wr g2 33 73 zc) ∧ Hid (At wr gc 33 73 (noCW.vs m)) ∧ Hid (Below w.heap.size w wr))
 case first => as_aux_lemma =>
  by_cases h7 : k = 7
  ·have HST_ := kq (StF (lookCm l) s (KF 7)) (by have h := HST.o; unfold R3 KZ0 at h; rw [if_neg (by omega), if_neg (by omega), h7] at h; exact h);have HME := kq (m = kindC 7) (by rw [HM.o.2.2 (by omega), h7]; rfl);have HPT := kq (tx = [] ∧ ps = []) (HTE.o (by omega));have HK7 := kp h7;have z1 : ((k : Int) == 7) = true := by simp [h7]
   clear HST h7;have HST := HST_;clear HST_;obtain ⟨rY, hrY⟩ := xe (numY 1099511627776 s);have HST_ := kq (StF (lookCm l) rY.2 (KO ⟨{ kindC 7 with epoch := (rY.1 : Int) }, [], []⟩)) (by rw [hrY]; exact (stf_k7 HST.o));have Hv1 := kq (rY.1 ≤ 1099511627776) (by rw [hrY]; exact (numY_le 1099511627776 s).1);go_wp2_with (with_reducible refine wst 108 ?_);refine stop_go ?_;refine wpl_build rfl rfl BM.o ?_;go_wp2_with fail;refine (CM.o _ _ _ HY.o).mono ?_;rintro e v_ ⟨fl, rfl, hf, hy, hg⟩;rw [← hrY] at hf hy;obtain ⟨v1, s⟩ := rY;simp only at hf hy HST_ Hv1;have HY_ := kp hy;have HF := kp hf;clear hf hy hrY HST HY;have HST := HST_; have HY := HY_;clear HST_ HY_;replace HV := kp (HV.o.off hg (by have := HNUM.o; omega));replace HC := kp (HC.o.off hg (by have := HNUM.o; omega));replace HO := kp (HO.o.off hg (by have := HNUM.o; omega));replace HB := kp (put_below HB.o (by have := HNUM.o; omega) hg);clear hg;try clear cf
   try clear cy1
   clear w_;rename World => w_;have cf := HF.o w_;have q0 : IntKind.i64.wrap (v1 : Int) = (v1 : Int) := IntWalk.i64_in _ (by have := Hv1.o; omega);have HDO := kq m.dest.ok HM.o.1.2.2.2.1;have HMO_ := kq (({ m with epoch := (v1 : Int) } : Cmd).ok) ⟨HM.o.1.1, HM.o.1.2.1, HM.o.1.2.2.1, HM.o.1.2.2.2.1, HM.o.1.2.2.2.2.1, by have := Hv1.o; unfold I64; simp only; omega, HM.o.1.2.2.2.2.2.2⟩;go_wp2_with (first | (refine wpl_store1 (o := ⟨none, .store _ _ _, _, _, _, _⟩) rfl rfl HC.o.blk rfl rfl (by kernel_rfl) rfl rfl (by rw [HC.o.len]; omega) ?_));intro v_ b_ hg s_;replace HC := kq (At v_ gc 33 73 (noCW.vs { m with epoch := (v1 : Int) })) (at_mk (by rw [← set_epoch (q := noCW) HDO.o (v1 : Int)]; exact b_) (vs_len (by first | exact HMO.o | exact HMO_.o)));clear b_ s_;replace HV := kp (HV.o.off hg (by have := HNUM.o; omega));replace HY := kp (HY.o.off hg (by have := HNUM.o; omega) (by have := HNUM.o; omega));replace HO := kp (HO.o.off hg (by have := HNUM.o; omega));replace HB := kp (put_below HB.o (by have := HNUM.o; omega) hg);clear hg;try clear cf
   try clear cy1
   clear w_;rename World => w_;clear q0 HF;go_wp2_with fail
   go_meet
   case rel =>
    refine ⟨_, s, kp ?_, kp ⟨HMO_.o, HM.o.2.1, fun h => absurd (by have := HK7.o; omega) h⟩, HO, HY, HV, HC, HB⟩;unfold R4;rw [if_pos (by have := HK7.o; omega), HPT.o.1, HPT.o.2, HME.o];exact HST.o
  ·have z1 : ((k : Int) == 7) = false := by simp; omega
   have H7 := kp h7;clear h7;go_wp2_with fail
   go_meet
   case rel =>
    refine ⟨m, s, kp ?_, kp ⟨HM.o.1, HM.o.2.1, fun h => HM.o.2.2 (by omega)⟩, HO, HY, HV, HC, HB⟩;have h := HST.o;have h7 := H7.o;unfold R3 at h;unfold R4;by_cases h1 : 1 ≤ k ∧ k ≤ 6
    ·rw [if_pos h1] at h; rw [if_pos (by omega)]; exact h
    ·rw [if_neg h1] at h; rw [if_neg (by omega)]; exact h
 case rest => as_aux_lemma =>
 obtain ⟨m, s, h1, h2, h3, h4, h5, h6, h7⟩ := hcut;clear HST HM HO HY HV HC HB;have HST := h1; have HM := h2; have HO := h3; have HY := h4; have HV := h5; have HC := h6; have HB := h7;clear h1 h2 h3 h4 h5 h6 h7;clear w_;rename World => w_;have c0 : w_.cell? ⟨gc, 0, none⟩ = some (.int .i64 (k : Int)) := by have h := HC.o.blk.at_ (vs_kind noCW m); rw [HM.o.2.1] at h; exact h
 try simp only [Act.put]
 go_upto_if 115 with fail
 clear c0
 go_cut [] from 15 (fun wr => ∃ (m : Cmd) (s : YS), Hid (StF (lookCm l) s (KO ⟨m, tx, ps.map Prod.snd⟩)) ∧ Hid (m.ok ∧ m.kind = (k : Int)) ∧ Hid (TextsR w wr Bd (gc + 1) CA cn cc ps) ∧ Hid (EyY wr Bd gy s) ∧ Hid (At wr g2 33 73 zc) ∧ Hid (At wr gc 33 73 (noCW.vs m)) ∧ Hid (Below w.heap.size w wr))
 case first => as_aux_lemma =>
  by_cases h9 : k = 9
  ·have HST_ := kq (StF (lookCm l) s (KF 9)) (by have h := HST.o; unfold R4 KZ0 at h; rw [if_neg (by omega), if_neg (by omega), h9] at h; exact h);have HME := kq (m = kindC 9) (by rw [HM.o.2.2 (by omega), h9]; rfl);have HPT := kq (tx = [] ∧ ps = []) (HTE.o (by omega));have z1 : ((k : Int) == 9) = true := by simp [h9]
   clear HST h9;have HST := HST_;clear HST_;obtain ⟨rY, hrY⟩ := xe (idY s);have HST_ := kq (StF (lookCm l) rY.2 (KO ⟨{ kindC 9 with id := rY.1 }, [], []⟩)) (by rw [hrY]; exact (stf_k9 HST.o));have Hd := kq (rY.1.length = 32) (by rw [hrY]; exact idY_32 s);go_wp2_with (with_reducible refine wst 117 ?_);refine stop_go ?_;refine wpl_build rfl rfl BI.o ?_;go_wp2_with fail;refine (CI.o _ _ _ HY.o).mono ?_;rintro e v_ ⟨fl, rfl, hf, hy, hg⟩;rw [← hrY] at hf hy;obtain ⟨d, s⟩ := rY;simp only at hf hy HST_ Hd;have HY_ := kp hy;have HF := kp hf;clear hf hy hrY HST HY;have HST := HST_; have HY := HY_;clear HST_ HY_;replace HV := kp (HV.o.off hg (by have := HNUM.o; omega));replace HC := kp (HC.o.off hg (by have := HNUM.o; omega));replace HO := kp (HO.o.off hg (by have := HNUM.o; omega));replace HB := kp (put_below HB.o (by have := HNUM.o; omega) hg);clear hg;try clear cf
   try clear cy1
   clear w_;rename World => w_;have cf := HF.o w_;have HDC := kq (Cl 32 (d.map B)) ⟨by rw [List.length_map]; exact Hd.o, all_bytes _⟩;have HSO := kp (set_id (q := noCW) (m := m) HM.o.1.2.2.2.1 HM.o.1.2.2.2.2.2.2 Hd.o);have HMO_ := kq (({ m with id := d } : Cmd).ok) ⟨HM.o.1.1, HM.o.1.2.1, HM.o.1.2.2.1, HM.o.1.2.2.2.1, HM.o.1.2.2.2.2.1, HM.o.1.2.2.2.2.2.1, Hd.o⟩;obtain ⟨dv, hdv⟩ := xe (d.map B);rw [← hdv] at HDC HSO cf;clear hdv HF;go_wp2_with (with_reducible first | refine wpl_storem (o := ⟨none, .store _ _ _, _, _, _, _⟩) (off := 41) rfl rfl row_id HC.o.blk rfl rfl HDC.o.len (by rw [HC.o.len]; omega) HDC.o.one ?_);intro v_ b_ hg s_;replace HC := kq (At v_ gc 33 73 (noCW.vs { m with id := d })) (at_mk (by rw [← HSO.o]; exact b_) (vs_len HMO_.o));clear b_ s_;replace HV := kp (HV.o.off hg (by have := HNUM.o; omega));replace HY := kp (HY.o.off hg (by have := HNUM.o; omega) (by have := HNUM.o; omega));replace HO := kp (HO.o.off hg (by have := HNUM.o; omega));replace HB := kp (put_below HB.o (by have := HNUM.o; omega) hg);clear hg;try clear cf
   try clear cy1
   clear w_;rename World => w_;go_wp2_with fail
   go_meet
   case rel =>
    refine ⟨_, s, kp ?_, kp ⟨HMO_.o, HM.o.2.1⟩, HO, HY, HV, HC, HB⟩;rw [HPT.o.1, HPT.o.2, HME.o];exact HST.o
  ·have z1 : ((k : Int) == 9) = false := by simp; omega
   have H9 := kp h9;clear h9;go_wp2_with fail
   go_meet
   case rel =>
    refine ⟨m, s, kp ?_, kp ⟨HM.o.1, HM.o.2.1⟩, HO, HY, HV, HC, HB⟩;have h := HST.o;have h9 := H9.o;have h10 := Hk.o;unfold R4 at h;by_cases h1 : 1 ≤ k ∧ k ≤ 7
    ·rw [if_pos h1] at h; exact h
    ·rw [if_neg h1] at h;have e := HTE.o (by omega);rw [e.1, e.2, HM.o.2.2 h1];by_cases h0 : k = 0
     ·unfold KZ0 at h; rw [if_pos h0] at h; exact h
     ·rw [KZ0_pos h0] at h;exact stf_k8 h (by omega)
 case rest => as_aux_lemma =>
 obtain ⟨m, s, h1, h2, h3, h4, h5, h6, h7⟩ := hcut;clear HST HM HO HY HV HC HB;have HST := h1; have HM := h2; have HO := h3; have HY := h4; have HV := h5; have HC := h6; have HB := h7;clear h1 h2 h3 h4 h5 h6 h7;clear w_;rename World => w_;obtain ⟨Ay, cy, hy1, hy2, hy3, hy4, hy5⟩ := HY.o;have HYB := kp hy1;clear hy1 hy2 hy3 hy4 hy5;rcases stf_end HL8.o HST.o with ⟨h1, h2⟩ | ⟨h1, h3, h2⟩ | ⟨h1, h3, h2, h4⟩
 ·have z1 : ((s.2 : Int) == 0) = false := by simp [h1]
  have z2 : ((s.2 : Int) != 0) = true := by simp [h1]
  have HX := kq (out = .error s.2) (by rw [HOUT.o]; exact h2);have c1 := HYB.o.at_ (i := 1) rfl;clear h1 h2
  as_aux_lemma =>
   clear HST HM HO HC HTX HTE;go_wp2_with fail;clear c1;try go_wp2_with fail
   repeat' (first | (with_reducible refine wp_plan (id := 28) (fun a b => (a.grownBy b (some g2))) [0,0,0,0,1,4,0] (.get 0 (.get 1 (.get 2 (.get 3 (.get 4 (.act 5 (.get 6 .done))))))) (by kernel_rfl) (by kernel_rfl) (fun a => grownBy_refl a _) (fun _ _ _ h k => grownBy_trans h k) ?_) | go_values | go_skip | go_guarded | go_step | go_upon | go_back)
   intro w_ hd_;have y_ := hd_.grow;replace HB := kp (HB.o.grow' y_);replace HV := kp (HV.o.grow y_);replace HYB := kp (HYB.o.grow y_);clear y_ hd_;refine pl_calm rfl rfl (by exact wanted_none rfl) (fun w_ => by exact exec_build rfl BC.o w_) (fun K hK => ?_);go_simp;refine hK _ _ ?_;clear hK K;repeat ((first | refine plc (fun K hK => ?_) | refine pls (fun K hK => ?_) | refine psa (fun K hK => ?_)); go_simp; refine hK _ _ ?_; clear hK K)
   refine pl_read rfl rfl (by exact wanted_none rfl) (v := .int .i64 ((s.2 : Int))) (fun w3_ hf_ => by have c9 := (HYB.o.grown hf_ (fun e => by injection e with e; have := HNUM.o; omega)).at_ (i := 1) rfl; first | (go_simp; rfl) | (go_simp; done)) (fun K hK => ?_);go_simp;refine hK _ _ ?_;clear hK K;refine pac (fun K hK => ?_);show wpList _ _ _ [⟨none, .store _ _ _, _, _, _, _⟩] _ _
   go_wp2_with (with_reducible refine wsb row_cmd HV.o.blk HV.o.len HCZ.o.len HCZ.o.one ?_);intro v_ b_ g_ s_;go_wp2_with fail;refine hK _ _ (fun _ => g_) ?_;clear hK K;have HV_ := kp b_;have HB_ := kp (put_below HB.o HVG.o g_);clear b_ g_ s_;repeat ((first | refine plc (fun K hK => ?_) | refine pls (fun K hK => ?_) | refine psa (fun K hK => ?_)); go_simp; refine hK _ _ ?_; clear hK K)
   refine pl_done ?_;go_wp2_with fail;refine ret_cell_tmp rfl row_cmd HV_.o rfl HCZ.o.len rfl rfl ?_;exact HERR.o s.2 _ HX.o HB_.o
 ·have z1 : ((s.2 : Int) == 0) = true := by simp [h1]
  have z2 : ((s.1.length : Int) > 0) = True := eq_true (by have : s.1.length ≠ 0 := fun h => h3 (List.eq_nil_of_length_eq_zero h); omega);have z3 : (0 < s.1.length) = True := eq_true (by have : s.1.length ≠ 0 := fun h => h3 (List.eq_nil_of_length_eq_zero h); omega);have HX := kq (out = .error 3) (by rw [HOUT.o]; exact h2);have c0 := HYB.o.at_ (i := 0) rfl; have c1 := HYB.o.at_ (i := 1) rfl;clear h1 h2 h3
  as_aux_lemma =>
   clear HST HM HO HC HTX HTE;go_wp2_with (first | (refine wpl_store1 (o := ⟨none, .store _ _ _, _, _, _, _⟩) rfl rfl HYB.o rfl rfl (by kernel_rfl) rfl rfl (by simp) ?_));intro v_ b_ hg s_;replace HYB := kq (Blk v_ gy 91 [.slice Ay s.1.length cy, .int .i64 ((3 : Nat) : Int)]) b_;clear b_ s_ c0 c1 HY z1 z2 z3;replace HV := kp (HV.o.off hg (by have := HNUM.o; omega));replace HB := kp (put_below HB.o (by have := HNUM.o; omega) hg);clear hg;try clear cf
   try clear cy1
   clear w_;rename World => w_;have c1 := HYB.o.at_ (i := 1) rfl;go_wp2_with fail;clear c1;try go_wp2_with fail
   repeat' (first | (with_reducible refine wp_plan (id := 28) (fun a b => (a.grownBy b (some g2))) [0,0,0,0,1,4,0] (.get 0 (.get 1 (.get 2 (.get 3 (.get 4 (.act 5 (.get 6 .done))))))) (by kernel_rfl) (by kernel_rfl) (fun a => grownBy_refl a _) (fun _ _ _ h k => grownBy_trans h k) ?_) | go_values | go_skip | go_guarded | go_step | go_upon | go_back)
   intro w_ hd_;have y_ := hd_.grow;replace HB := kp (HB.o.grow' y_);replace HV := kp (HV.o.grow y_);replace HYB := kp (HYB.o.grow y_);clear y_ hd_;refine pl_calm rfl rfl (by exact wanted_none rfl) (fun w_ => by exact exec_build rfl BC.o w_) (fun K hK => ?_);go_simp;refine hK _ _ ?_;clear hK K;repeat ((first | refine plc (fun K hK => ?_) | refine pls (fun K hK => ?_) | refine psa (fun K hK => ?_)); go_simp; refine hK _ _ ?_; clear hK K)
   refine pl_read rfl rfl (by exact wanted_none rfl) (v := .int .i64 (((3 : Nat) : Int))) (fun w3_ hf_ => by have c9 := (HYB.o.grown hf_ (fun e => by injection e with e; have := HNUM.o; omega)).at_ (i := 1) rfl; first | (go_simp; rfl) | (go_simp; done)) (fun K hK => ?_);go_simp;refine hK _ _ ?_;clear hK K;refine pac (fun K hK => ?_);show wpList _ _ _ [⟨none, .store _ _ _, _, _, _, _⟩] _ _
   go_wp2_with (with_reducible refine wsb row_cmd HV.o.blk HV.o.len HCZ.o.len HCZ.o.one ?_);intro v_ b_ g_ s_;go_wp2_with fail;refine hK _ _ (fun _ => g_) ?_;clear hK K;have HV_ := kp b_;have HB_ := kp (put_below HB.o HVG.o g_);clear b_ g_ s_;repeat ((first | refine plc (fun K hK => ?_) | refine pls (fun K hK => ?_) | refine psa (fun K hK => ?_)); go_simp; refine hK _ _ ?_; clear hK K)
   refine pl_done ?_;go_wp2_with fail;refine ret_cell_tmp rfl row_cmd HV_.o rfl HCZ.o.len rfl rfl ?_;exact HERR.o 3 _ HX.o HB_.o
 ·have z1 : ((s.2 : Int) == 0) = true := by simp [h1]
  have z4 : ((s.2 : Int) != 0) = false := by simp [h1]
  have z3 : (0 < s.1.length) = False := by rw [h3]; simp
  have HX := kq (out = fillC ⟨m, tx, ps.map Prod.snd⟩) (by rw [HOUT.o]; exact h2);have HLK := kp (lookCm_ok h4);have c0 := HYB.o.at_ (i := 0) rfl; have c1 := HYB.o.at_ (i := 1) rfl;clear h1 h2 h3 h4;have c5 : w_.cell? ⟨gc, 0, none⟩ = some (.int .i64 (k : Int)) := by have h := HC.o.blk.at_ (vs_kind noCW m); rw [HM.o.2] at h; exact h
  try simp only [Act.put]
  go_upto_region 29 with fail
  clear z1 z3 z4 c0 c1
  go_cut [154] from 15 (fun s154 wr => s154 = .bool (decide (2 ≤ k) && decide (k ≤ 6)) ∧ wr = w_)
  case first => as_aux_lemma =>
   rcases Nat.lt_or_ge k 2 with h | h
   ·have y2 : (2 ≤ (k : Int)) = False := eq_false (by omega);go_wp2_with fail
    go_meet
    case rel => exact ⟨by rw [show decide (2 ≤ k) = false by simp; omega]; rfl, rfl⟩
   ·have y2 : (2 ≤ (k : Int)) = True := eq_true (by omega);rcases Nat.lt_or_ge 6 k with h6 | h6
    ·have y6 : ((k : Int) ≤ 6) = False := eq_false (by omega);go_wp2_with fail
     go_meet
     case rel => exact ⟨by rw [show decide (2 ≤ k) = true by simp; omega, show decide (k ≤ 6) = false by simp; omega]; rfl, rfl⟩
    ·have y6 : ((k : Int) ≤ 6) = True := eq_true (by omega);go_wp2_with fail
     go_meet
     case rel => exact ⟨by rw [show decide (2 ≤ k) = true by simp; omega, show decide (k ≤ 6) = true by simp; omega]; rfl, rfl⟩
  case rest =>
  obtain ⟨rfl, rfl⟩ := hcut;rename World => w_;clear c5 HY HYB HST;obtain ⟨b2, hb2⟩ := xe (decide (2 ≤ k) && decide (k ≤ 6));have HB2 := kq (b2 = hasTxK m.kind) (by rw [hb2, HM.o.2]; unfold hasTxK; rw [Bool.eq_iff_iff]; simp; omega);rw [← hb2];clear hb2;try simp only [Act.put]
  go_upto_if 154 with fail
  go_cut [] from 15 (fun wr => ∃ (A : Option Addr) (n c : Nat) (A2 : Option Addr) (n2 c2 : Nat) (ls : List (Value × Inp)) (m' : Cmd), Hid (At wr g2 33 73 zc) ∧ Hid (At wr gc 33 73 ((qW A n c A2 n2 c2 ls none 0 0 []).vs m')) ∧ Hid (Below w.heap.size w wr) ∧ Hid (TextsR w wr Bd (gc + 1) CA cn cc ps) ∧ Hid (ReU w wr Bd (gc + 1) out ps A n c A2 n2 c2 ls m'))
  case first => as_aux_lemma =>
   cases b2 with
   | false =>
    have hgo := fillC_go (p := ⟨m, tx, ps.map Prod.snd⟩) (t := noTxn) (by rw [← HB2.o]; rfl);have HGO := kp hgo;clear hgo;go_wp2_with fail
    go_meet
    case rel =>
     have e : ({ m with tx := noTxn } : Cmd) = m := by rw [← HLK.o.2.2.1]
     refine ⟨none, 0, 0, none, 0, 0, [], m, HV, HC, HB, HO, kp ⟨HM.o.1, ⟨own_nil0 _ _ _ _, (fun p hp => by cases hp), rfl⟩, by rw [show m.tx = noTxn from HLK.o.2.2.1]; rfl, by rw [show m.tx = noTxn from HLK.o.2.2.1]; exact OutsO.nil _ _, fun x hx => ?_, fun cs hx => ?_⟩⟩
     ·rw [HX.o]; exact HGO.o.1 x hx
     ·rw [HX.o, HGO.o.2 cs hx];rw [show ({ m with tx := noTxn, certs := cs } : Cmd) = { ({ m with tx := noTxn } : Cmd) with certs := cs } from rfl, e]
   | true =>
    have HGZ := kq (gc + 1 ≤ w_.heap.size) (by have := HC.o.lt; omega);have HBW := kq (Bd ≤ w_.heap.size) (by have := HNUM.o; have := HGZ.o; omega);go_wp2_with fail;refine (rtreads_any _ HBW.o (HTX.o.1.below (HB.o.mono HBE.o)) HTX.o.2.1 (by have := HTX.o.2.2.1; omega)).mono ?_;rintro e v_ ⟨A6, n6, c6, B6, m6, d6, l6, rfl, ⟨hi6, hs6, hn6⟩, hl6, ho6, y_⟩
    have HI6 := kq (InR v_ (gc + 1) A6 n6 c6 l6) (own_base hi6 HGZ.o); have HS6 := kp (show SecR w Bd l6 from fun p hp => by
     obtain ⟨⟨A9, c9, e9, h9, k9⟩, hk⟩ := hs6 p hp
     exact ⟨⟨A9, c9, e9, h9, k9.back (HB.o.mono HBE.o)⟩, hk⟩)
    have HN6 := kp hn6; have HL6 := kp hl6; have HO6 := kp (OutsO.base ho6 HGZ.o);clear hi6 hs6 hn6 hl6 ho6;replace HV := kp (HV.o.grow y_);replace HC := kp (HC.o.grow y_);replace HO := kp (HO.o.grow y_);replace HB := kp (HB.o.grow' y_);clear y_ HGZ HBW;try clear cf
    try clear cy1
    clear w_;rename World => w_;have HUC := kp (txV_cl (A := A6) (n := n6) (c := c6) (A2 := B6) (n2 := m6) (c2 := d6) (fee := (txnOf (readT tx)).fee) (ex := (txnOf (readT tx)).expiry));have HSP := kp (set_tx (q := noCW) (q2 := ⟨A6, n6, c6, B6, m6, d6, none, 0, 0, l6, []⟩) (m := m) (txnOf (readT tx)));obtain ⟨tv, htv⟩ := xe (txV A6 n6 c6 B6 m6 d6 (txnOf (readT tx)).fee (txnOf (readT tx)).expiry);simp only at HSP;rw [← htv] at HUC HSP ⊢;obtain ⟨er, her⟩ := xe (errOf (readT tx));have HER := kp her;rw [← her];clear htv her;go_wp2_with (with_reducible refine wal 10 zero_tx ?_);intro w1_ hb1_ hbw1_ hsz1_;have HB1_ := kp (at_mk hb1_ len_tx);have HBW1_ := kp hbw1_;have HZ1_ := kp hsz1_;clear hb1_ hbw1_ hsz1_;go_wp2_with (with_reducible refine wsb row_tx HB1_.o.blk HB1_.o.len HUC.o.len HUC.o.one ?_);intro v_ b_ g_ s_;have y_ := var_grow HBW1_.o HZ1_.o g_;have HX_ := kp (at_mk b_ HUC.o.len);clear b_ g_ s_ HB1_ HBW1_ HZ1_;replace HB := kp (HB.o.grow' y_);replace HV := kp (HV.o.grow y_);replace HC := kp (HC.o.grow y_);replace HO := kp (HO.o.grow y_);replace HI6 := kp (HI6.o.grow y_);replace HO6 := kp (HO6.o.grow y_);generalize hg_ : w_.heap.size = g10 at HX_ ⊢;clear hg_;have HT := HX_;clear y_ HX_;clear w1_;try clear w_
    rename World => w_;by_cases h0 : er = 0
    ·have z1 : ((er : Int) != 0) = false := by simp [h0]
     have HE0 := kp h0;clear h0;go_wp2_with (with_reducible first | refine wlb 164 row_tx HT.o.blk HUC.o.len ?_ | refine wpl_storem (o := ⟨none, .store _ _ _, _, _, _, _⟩) (off := 1) rfl rfl row_tx HC.o.blk rfl rfl HUC.o.len (by rw [HC.o.len]; omega) HUC.o.one ?_);intro v_ b_ hg s_;have HC_ := kq (Blk v_ gc 33 ((qW A6 n6 c6 B6 m6 d6 l6 none 0 0 []).vs { m with tx := txnOf (readT tx) })) (by rw [HSP.o] at b_; exact b_);have kz : ∀ b, gc + 1 ≤ b → b < w_.heap.size → v_.heap[b]? = w_.heap[b]? := fun b h1 h2 => hg.block b h2 (fun e => by injection e with e; omega)
     have HI_ := kq (InR v_ (gc + 1) A6 n6 c6 l6) (own_sub HI6.o kz); have HP_ := kp (HO6.o.keep kz);clear b_ s_ kz HSP HI6 HO6 HT HC;replace HV := kp (HV.o.off hg (by have := HNUM.o; omega));replace HO := kp (HO.o.off hg (by have := HNUM.o; omega));replace HB := kp (put_below HB.o (by have := HNUM.o; omega) hg);clear hg;try clear cf
     try clear cy1
     clear w_;rename World => w_;go_wp2_with fail
     go_meet
     case rel =>
      have hb : hasTxK m.kind = true := HB2.o.symm;have hL := HL6.o; have hO := HP_.o; have hK := HC_.o;cases h : readT tx with
      | error x => exact absurd (HER.o.symm.trans HE0.o) (by rw [h]; exact readT_nz h)
      | ok t =>
       rw [h] at hL hO hK;have hgo := fillC_go (p := ⟨m, tx, ps.map Prod.snd⟩) (t := t) (by rw [if_pos hb]; exact h);have hmo : ({ m with tx := t } : Cmd).ok := ⟨HM.o.1.1, (readT_back h).2.2, HM.o.1.2.2⟩;refine ⟨A6, n6, c6, B6, m6, d6, l6, { m with tx := t }, HV, kp (at_mk hK (vs_len hmo)), HB, HO, kp ⟨hmo, ⟨HI_.o, HS6.o, HN6.o⟩, hL.symm, hO, fun x hx => ?_, fun cs hx => ?_⟩⟩
       ·rw [HX.o]; exact hgo.1 x hx
       ·rw [HX.o]; exact hgo.2 cs hx
    ·have z1 : ((er : Int) != 0) = true := by simp [h0]
     have HE := kp (show out = .error er by
      cases h : readT tx with
      | error x => rw [HX.o, HER.o, h]; exact fillC_no HB2.o.symm h
      | ok t => exact absurd (by rw [HER.o, h]; rfl) h0)
     clear h0;go_wp2_with (with_reducible refine wst 162 ?_);refine stop_go ?_;refine wpl_build rfl rfl BC.o ?_;go_wp2_with (with_reducible refine wsb row_cmd HV.o.blk HV.o.len HCZ.o.len HCZ.o.one ?_);intro v_ b_ g_ s_;have HV_ := kp b_;have HB_ := kp (put_below HB.o HVG.o g_);clear b_ g_ s_;go_wp2_with fail;refine ret_cell_tmp rfl row_cmd HV_.o rfl HCZ.o.len rfl rfl ?_;exact HERR.o er _ HE.o HB_.o
  case rest => as_aux_lemma =>
  obtain ⟨A7, n7, c7, B7, m7, d7, l7, m0, h1, h2, h3, h4, h5⟩ := hcut;clear HV HC HB HO HX HB2 HM HTX HTE HLK;have HV := h1; have HC := h2; have HB := h3; have HO := h4; have HR := h5;clear h1 h2 h3 h4 h5;clear w_;rename World => wZ;have HZW := kq (gc + 1 ≤ wZ.heap.size) (by have := HC.o.lt; omega);have LX := kp len_cert; have ZX := kp zero_cert;obtain ⟨zx, hzx⟩ := xe (certV (.slice none 0 0) noCer);rw [← hzx] at LX ZX;clear hzx;go_wp2_with fail;go_loopw [12] (fun s12 wr => ∃ (i : Nat) (A3 : Option Addr) (c3 : Nat) (cl : List (Value × Cer)), i ≤ cn ∧ s12 = .int .i64 (i : Int) ∧ Hid (At wr g2 33 73 zc) ∧ Hid (Below w.heap.size w wr) ∧ Hid (KpZ wZ (gc + 1) wr) ∧ Hid (At wr gc 33 73 ((qW A7 n7 c7 B7 m7 d7 l7 A3 i c3 cl).vs m0)) ∧ Hid (CertsO wr wZ.heap.size A3 i c3 cl) ∧ Hid (readCs ((ps.map Prod.snd).take i) = .ok (cl.map Prod.snd))) (fun s12 _ => cn - (intOf s12).toNat)
  case atStart => exact ⟨0, none, 0, [], by omega, rfl, HV, HB, kp (KpZ.refl _ _), HC, kp (CertsO.nil _ _), kp rfl⟩
  case round => as_aux_lemma =>
   obtain ⟨i, A3, c3, cl, hi, rfl, hv, hb, hk, h1, h2, h3⟩ := hrel;clear HV HB HC;have HV := kp hv.o; have HB := kp hb.o; have HK := kp hk.o; have HA3 := kp h1.o; have HCS := kp h2.o; have HRD := kp h3.o;clear hv hb hk h1 h2 h3;rename World => w_;have HC16 := HCN.o;by_cases hlt : i < cn
   ·have d1 : ((i : Int) < (cn : Int)) = True := eq_true (by omega);obtain ⟨b, off, u, rfl, hbl, hu, hc⟩ := (Sl.of_own (own_sub (w' := w_) HO.o.1 (fun b h1 h2 => HK.o.2 b h1 h2))).at_ hlt;rw [List.getElem?_map] at hu;obtain ⟨pp, hpp, rfl⟩ := Option.map_eq_some_iff.1 hu;obtain ⟨A', c', e', hc', hl', ho'⟩ := HO.o.2.1 pp (List.mem_of_getElem? hpp);rw [e'] at hc;have HPP := kp hpp; have HT := kq (Sl w_ w_.heap.size 1 A' pp.2.length (pp.2.map B)) ((ho'.below (HB.o.mono HBE.o)).more (by have := HNUM.o; have := HZW.o; have := HK.o.1; omega)); have HTC := kp hc'; have HTL := kp hl';clear hbl hu hpp e' hc' ho' hl';rename World => wR;go_wp2_with fail;refine (rcread_o _ HT.o HTC.o (by have := HTL.o; omega)).mono ?_;rintro e v_ ⟨A8, n8, c8, rfl, hi8, hn8, y_, hage⟩;have HAG := kp hage; have HI8 := kp hi8; have HGR := kq (Grow wR v_) y_;clear hi8 hn8 y_ hage hc d1;rename World => w_;have HYO := kp (cerOf_ok pp.2);obtain ⟨y, hy⟩ := xe (cerOf (readC pp.2));have HYE := kp hy;rw [← hy] at HYO HI8 ⊢;obtain ⟨ey, hey⟩ := xe (errOf (readC pp.2));have HEY := kp hey;rw [← hey];have HYC := kp (cert_cl (v := .slice A8 n8 c8) rfl HYO.o);obtain ⟨yv, hyv⟩ := xe (certV (.slice A8 n8 c8) y);have HYV := kp hyv;rw [← hyv] at HYC ⊢;clear hy hey hyv;have HAL := kq (0 < n8 → ∀ k, A8.map Addr.block = some k → k < w_.heap.size) (fun hn k hk => ids_lt HI8.o hn k hk);go_wp2_with (with_reducible refine wal 13 ZX.o ?_);intro v_ b_ y_ s_;have HX9 := kp (at_mk b_ LX.o);have HGR_ := kq (Grow wR v_) (HGR.o.grow' y_); have HI8_ := kp (HI8.o.grow y_); have H9 := kp HGR.o.size;generalize hg_ : w_.heap.size = g9 at HX9 HAL H9 ⊢;clear b_ y_ s_ hg_ HGR HI8;have HGR := HGR_; have HI8 := HI8_;clear HGR_ HI8_;clear w_;rename World => w_;go_wp2_with (with_reducible refine wsb row_cert HX9.o.blk HX9.o.len HYC.o.len HYC.o.one ?_);intro v_ b_ g_ s_;replace HX9 := kp (at_mk b_ HYC.o.len);replace HGR := kq (Grow wR v_) (put_below HGR.o H9.o g_);replace HI8 := kp (ids_kept HI8.o g_ (fun hn k hk e => by injection e with e; have := HAL.o hn k hk; omega));clear b_ g_ s_ HAL;clear w_;rename World => w_;by_cases h0 : ey = 0
    ·have z1 : ((ey : Int) != 0) = false := by simp [h0]
     have HE0 := kp h0;clear h0;have c7 : w_.cell? ⟨gc, 5, none⟩ = some (.slice A3 i c3) := (HA3.o.grow HGR.o).blk.at_ (vs_certs (qW A7 n7 c7 B7 m7 d7 l7 A3 i c3 cl) m0);go_wp2_with (first | (with_reducible refine wlb 186 row_cert HX9.o.blk HX9.o.len ?_) | (refine wpl_row1 (o := ⟨some 187, .buildSlice _ _ _, _, _, _, _⟩) rfl rfl el_cert (by first | rfl | (go_simp; done)) HYC.o.len (by omega) ?_));intro v_ b_ y_ s_;have HSX := kq (Sl v_ v_.heap.size 137 (some ⟨w_.heap.size, 0, none⟩) 1 yv) (b_.sl (by rw [HYC.o.len]));have HGR_ := kq (Grow wR v_) (HGR.o.grow' y_); have HI8_ := kp (HI8.o.grow y_);generalize w_.heap.size = gx at HSX ⊢;clear b_ y_ s_ c7 HX9 HGR HI8 z1;have HGR := HGR_; have HI8 := HI8_;clear HGR_ HI8_;clear w_;rename World => w_;have HCS_ := kp (HCS.o.keep (fun b _ hb => HGR.o.block b hb) HGR.o.size);have HZ2 := kp (Nat.le_trans HK.o.1 HGR.o.size);go_wp2_with (at_builtin; refine wpl_apps rfl rfl el_cert HCS_.o.1 rfl HSX.o rfl HYC.o.one (by omega) (by omega) HZ2.o ?_);intro A4 c4 v_ ho_ hg_ hA_;have hne_ : ∀ q, A3.map Addr.block = some q → wZ.heap.size ≤ q := own_from HCS_.o.1;have hor_ : ∀ q, A3.map Addr.block = some q → q < wR.heap.size := own_lt HCS.o.1;have hz_ := HZW.o; have hnum_ := HNUM.o;have HV_ := kq (At v_ g2 33 73 zc) (at_mk ((HV.o.grow HGR.o).blk.grown hg_ (fun e => by have h1 := hne_ _ e.symm; omega)) HV.o.len);have HA_ := kq (At v_ gc 33 73 _) (at_mk ((HA3.o.grow HGR.o).blk.grown hg_ (fun e => by have h1 := hne_ _ e.symm; omega)) HA3.o.len);have HB_ := kp (below_grown (HB.o.grow' HGR.o) hg_ (Nat.le_trans HB.o.size HGR.o.size) (fun q hq => by have h1 := hne_ q hq; omega));have HK_ := kp ((HK.o.grow HGR.o).row hg_ (fun q hq => .inr (hne_ q hq)))
     have HC_ := kp (CertsO.snoc HCS_.o hg_ (by rw [← HYV.o]; exact ho_) (hA_.imp id (fun ⟨a, h1, h2⟩ => by rw [h1, ← h2]; rfl)) HI8.o (fun _ k hk => by
      have h1 := HAG.o k hk; have h3 := HK.o.1
      exact ⟨by omega, fun e => by have h4 := hor_ k e.symm; omega⟩) HYO.o)
     clear ho_ hg_ hA_ hne_ hor_ HCS_ HCS HSX HI8 HV HA3 HB HK HZ2 HGR HT hnum_;clear w_;rename World => w_;go_wp2_with (first | (refine wpl_store1 (o := ⟨none, .store _ _ _, _, _, _, _⟩) rfl rfl HA_.o.blk rfl rfl (by kernel_rfl) rfl rfl (by rw [HA_.o.len]; omega) ?_));intro v_ b_ g_ s_;have HV := kp (At.off HV_.o g_ (by have := HNUM.o; omega)); have HB := kp (put_below HB_.o (by have := HNUM.o; omega) g_); have HK := kp (HK_.o.row g_ (fun q hq => by injection hq with hq; omega));have HC := kp (HC_.o.keep (fun b h1 h2 => g_.block b h2 (fun e => by injection e with e; omega)) g_.size);have HA := kq (At v_ gc 33 73 ((qW A7 n7 c7 B7 m7 d7 l7 A4 (i + 1) c4 (cl ++ [(.slice A8 n8 c8, y)])).vs m0)) (at_mk b_ (vs_len HR.o.1));clear b_ g_ s_ HV_ HB_ HK_ HC_ HA_ hz_;have q1 : IntKind.i64.wrap ((i : Int) + 1) = (i : Int) + 1 := IntWalk.i64_in _ (by omega);go_wp2_with fail;go_roundw
     all_goals clear q1
     case rel =>
      have hix : (ps.map Prod.snd)[i]? = some pp.2 := by rw [List.getElem?_map, HPP.o]; rfl
      cases h : readC pp.2 with
      | error x => exact absurd (HEY.o.symm.trans HE0.o) (by rw [h]; exact readC_nz h)
      | ok z =>
       have e2 : y = z := by rw [HYE.o, h]; rfl
       refine ⟨i + 1, A4, c4, _, by omega, by go_num, HV, HB, HK, HA, HC, kp ?_⟩;rw [readCs_go HRD.o hix h, List.map_append, e2]; rfl
     case measure => simp [intOf]; omega
    ·have z1 : ((ey : Int) != 0) = true := by simp [h0]
     have HE := kp (show out = .error ey by
      have hix : (ps.map Prod.snd)[i]? = some pp.2 := by rw [List.getElem?_map, HPP.o]; rfl
      cases h : readC pp.2 with
      | error x =>
       have e1 : ey = x := by rw [HEY.o, h]; rfl
       rw [e1]; exact HR.o.2.2.2.2.1 x (readCs_no HRD.o hix h)
      | ok z => exact absurd (by rw [HEY.o, h]; rfl) h0)
     replace HV := kp (HV.o.grow HGR.o);replace HB := kp (HB.o.grow' HGR.o);clear h0;go_wp2_with (with_reducible refine wst 182 ?_);refine stop_go ?_;refine wpl_build rfl rfl BC.o ?_;go_wp2_with (with_reducible refine wsb row_cmd HV.o.blk HV.o.len HCZ.o.len HCZ.o.one ?_);intro v_ b_ g_ s_;have HV_ := kp b_;have HB_ := kp (put_below HB.o HVG.o g_);clear b_ g_ s_;go_wp2_with fail;refine ret_cell_tmp rfl row_cmd HV_.o rfl HCZ.o.len rfl rfl ?_;exact HERR.o ey _ HE.o HB_.o
   ·have d1 : ((i : Int) < (cn : Int)) = False := eq_false (by omega);obtain rfl : i = cn := by omega
    have HMC := kp (vs_cl (q := qW A7 n7 c7 B7 m7 d7 l7 A3 i c3 cl) HR.o.1)
    have HF := kp (show ∀ w', w_.grownBy w' (some g2) → Below w.heap.size w w' → CmRead w w' l (.returned (.tuple #[.agg ((qW A7 n7 c7 B7 m7 d7 l7 A3 i c3 cl).vs m0).toArray, .int .i64 0])) from fun w' hg hb => by
     obtain ⟨s3, ⟨s4, s5, s6⟩, s7, s8, s9, s10⟩ := HR.o;have hnum := HNUM.o; have hz := HZW.o;have kz : ∀ b, gc + 1 ≤ b → b < wZ.heap.size → w'.heap[b]? = wZ.heap[b]? := fun b h1 h2 => (hg.block b (Nat.lt_of_lt_of_le h2 HK.o.1) (fun e => by injection e with e; omega)).trans (HK.o.2 b h1 h2)
     have hok : ({ m0 with certs := cl.map Prod.snd } : Cmd).ok := ⟨s3.1, s3.2.1, fun x hx => by obtain ⟨p, hp, rfl⟩ := List.mem_map.1 hx; exact (HCS.o.2.1 p hp).2, s3.2.2.2⟩;have h3 := HRD.o;rw [List.take_of_length_le (by rw [List.length_map, HO.o.2.2]; omega)] at h3;refine HOKR.o (qW A7 n7 c7 B7 m7 d7 l7 A3 i c3 cl) { m0 with certs := cl.map Prod.snd } w' (s10 _ h3) ?_ hb
     exact ⟨insAt_of (own_sub s4 kz) s5 s6 (hb.mono HBE.o) (by have := hb.size; omega), (s8.keep kz).at_, (HCS.o.keep (fun b h1 h2 => hg.block b h2 (fun e => by injection e with e; omega)) hg.size).at_, s7, rfl, hok⟩)
    obtain ⟨cv, hcv⟩ := xe ((qW A7 n7 c7 B7 m7 d7 l7 A3 i c3 cl).vs m0);rw [← hcv] at HA3 HMC HF;clear hcv;go_wp2_with (with_reducible first | refine wlb 190 row_cmd HA3.o.blk HMC.o.len ?_ | refine wsb row_cmd HV.o.blk HV.o.len HMC.o.len HMC.o.one ?_);intro v_ b_ g_ s_;have HV_ := kp b_;have HF_ := kp (HF.o _ g_ (put_below HB.o HVG.o g_));clear b_ g_ s_;go_wp2_with fail;refine ret_cell_tmp rfl row_cmd HV_.o rfl HMC.o.len rfl rfl ?_;exact HF_.o
end Go.Proofs.Ytobmldegjajocaa

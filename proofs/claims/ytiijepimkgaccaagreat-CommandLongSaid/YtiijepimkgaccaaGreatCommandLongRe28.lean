/- The contract of tx.Read. -/
import Derived.Test.YtiijepimkgaccaaGreatCommandLongRe27
set_option linter.unusedSimpArgs false
set_option linter.unusedVariables false
set_option maxRecDepth 100000
set_option maxHeartbeats 16000000
namespace Go.Proofs.YtiijepimkgaccaaGreat
open Go.RowKit Go.Shelf
theorem TGot.base {w : World} {Z Z2 n c n2 c2 : Nat} {A A2 : Option Addr} {t : Txn} (h : TGot w Z A n c A2 n2 c2 t) (hz : Z2 ≤ Z) : TGot w Z2 A n c A2 n2 c2 t := by
 obtain ⟨⟨l, e, h1⟩, h2⟩ := h;exact ⟨⟨l, e, h1.base hz⟩, h2.base hz⟩
def TKept (g4 : Nat) (w w2 : World) (l : List UInt8) : Prop := w.grownBy w2 (some g4) ∧ ∀ t l', lookT l = .ok (t, l') → ∃ A n c A2 n2 c2, Blk w2 g4 26 (txV A n c A2 n2 c2 t.fee t.expiry) ∧ TGot w2 (w.heap.size + 1) A n c A2 n2 c2 t
theorem tread1_any {Bd g g4 : Nat} {l : List UInt8} (w w1 : World) (hg4 : g4 < w.heap.size) (hb : Blk w g4 26 (txV none 0 0 none 0 0 0 0)) (hw : Grow w w1) (hg : w.heap.size ≤ g) (he : EyeAt w1 (w.heap.size + 1) Bd g l) :
  Calls Tryz.prog 65 (#[.pointer (some ⟨g, 0, none⟩)] ++ #[.pointer (some ⟨g4, 0, none⟩)]) w1 fun e w2 => TKept g4 w w2 l ∧ w1.heap.size ≤ w2.heap.size ∧ w2.heap[w.heap.size]? = w1.heap[w.heap.size]? ∧
   ((∃ x, restOf (lookT l) = .error x ∧ e = .panicked (brk x)) ∨ (∃ l', restOf (lookT l) = .ok l' ∧ e = .returned (.tuple #[]) ∧ EyeAt w2 (w.heap.size + 1) Bd g l')) := by
 have HW := kp hw;have HE := kp he;have HV := kp (hb.grow hw);have hgl := he.lo;have hlt := he.lt;have HGG := kq (g ≠ w.heap.size ∧ g4 ≠ g ∧ g4 ≠ w.heap.size ∧ w.heap.size ≤ g ∧ g4 < w.heap.size + 1) (by omega);have HLT := kq (w.heap.size < w1.heap.size) (by omega);clear hb hw he hgl hlt hg hg4;show Calls _ _ #[_, _] _ _
 go_enter Tryz.func65, Tryz.ntmps65
 go_wp2_with fail;refine (tlook_any _ HE.o).mono ?_;rintro e w2 ⟨hg2, ⟨x, hx, rfl⟩ | ⟨t, l', A, n, c, A2, n2, c2, hx, rfl, hT, hE⟩⟩
 ·have HG2 := kp hg2;have HX := kp hx;clear hg2 hx;go_wp2_with fail;refine ⟨by first | trivial | rfl, ⟨?_, fun t l' e2 => by rw [HX.o] at e2; cases e2⟩, HG2.o.size, ?_, .inl ⟨x, by rw [HX.o]; rfl, rfl⟩⟩
  ·exact grownBy_new (grown_of_below HW.o _) (grownBy_trans (grownBy_refl _ _) HG2.o) HGG.o.2.2.2.1
  ·exact HG2.o.block _ HLT.o (fun e => HGG.o.1 (Option.some.inj e).symm)
 ·have HX := kp hx;have HV2 := kp (HV.o.grown hg2 (fun e => HGG.o.2.1 (Option.some.inj e)));have HG2 := kp hg2;have HE2 := kp hE;have HT := kp hT;have HC := kp (txV_cl (A := A) (n := n) (c := c) (A2 := A2) (n2 := n2) (c2 := c2) (fee := t.fee) (ex := t.expiry));obtain ⟨hv, hhv⟩ := xe (txV A n c A2 n2 c2 t.fee t.expiry);have HHV := kp hhv;rw [← hhv] at HC ⊢;clear hg2 hx hE hhv hT HV HE;go_wp2_with (with_reducible refine wsb row_tx HV2.o len_tx HC.o.len HC.o.one ?_);intro w3 hb3 hg3 hs3;have HB3 := kp hb3;have HG3 := kp hg3;clear hb3 hg3 hs3;go_wp2_with fail;refine bodyPost_end (results_none rfl _ _ _) rfl ?_;refine ⟨⟨?_, fun t2 l2 e2 => ?_⟩, Nat.le_trans HG2.o.size HG3.o.size, ?_, .inr ⟨l', by rw [HX.o]; rfl, rfl, HE2.o.off HG3.o (.inl HGG.o.2.2.2.2)⟩⟩
  ·exact grownBy_trans (grownBy_new (grown_of_below HW.o _) HG2.o HGG.o.2.2.2.1) HG3.o
  ·rw [HX.o] at e2;injection e2 with e2
   injection e2 with e3 e4
   subst e3;exact ⟨A, n, c, A2, n2, c2, by rw [← HHV.o]; exact HB3.o, (HT.o.keep (fun b hb hlt => HG3.o.block b hlt (fun e => by injection e with e; have := HGG.o; have := HLT.o; omega))).base HLT.o⟩
  ·rw [HG3.o.block _ (Nat.lt_of_lt_of_le HLT.o HG2.o.size) (fun e => HGG.o.2.2.1 (Option.some.inj e).symm), HG2.o.block _ HLT.o (fun e => HGG.o.1 (Option.some.inj e).symm)]
def TReadO (w w' : World) (l : List UInt8) (e : Ending) : Prop := ∃ A n c A2 n2 c2, ∃ ls : List (Value × Inp), e = .returned (.tuple #[.agg (txV A n c A2 n2 c2 (txnOf (readT l)).fee (txnOf (readT l)).expiry).toArray, .int .i64 (errOf (readT l) : Int)]) ∧
 InsO w' w.heap.size A n c ls ∧ ls.map Prod.snd = (txnOf (readT l)).ins ∧ OutsO w' w.heap.size A2 n2 c2 (txnOf (readT l)).outs ∧ Below w.heap.size w w'
theorem InsO.nil (w : World) (Z : Nat) : InsO w Z none 0 0 [] := ⟨own_nil0 _ _ _ _, (fun p hp => by cases hp), rfl⟩
theorem OutsO.nil (w : World) (Z : Nat) : OutsO w Z none 0 0 [] := ⟨own_nil0 _ _ _ _, (fun p hp => by cases hp), rfl⟩
theorem treado_any {A : Option Addr} {n c : Nat} {l : List UInt8} (w : World) (hs : Sl w w.heap.size 1 A n (l.map B)) (hn : n ≤ 1000000) : Calls Tryz.prog 36 #[.slice A n c] w fun e w' => TReadO w w' l e := by
 have HS := kp hs;have HCZ := kp (txV_cl (A := none) (n := 0) (c := 0) (A2 := none) (n2 := 0) (c2 := 0) (fee := 0) (ex := 0));have T0 := kp bt_tx0;have ZT := kp zero_tx;obtain ⟨zt, hzt⟩ := xe (txV none 0 0 none 0 0 0 0);have HZT := kp hzt;rw [← hzt] at HCZ T0 ZT;clear hzt
 have HERR := kp (fun (w' : World) (er : Nat) (h0 : er ≠ 0) (h1 : readT l = .error er) (hb : Below w.heap.size w w') => show TReadO w w' l (.returned (.tuple #[.agg zt.toArray, .int .i64 (er : Int)])) from
  ⟨none, 0, 0, none, 0, 0, [], by rw [h1, HZT.o]; rfl, InsO.nil _ _, by rw [h1]; rfl, by rw [h1]; exact OutsO.nil _ _, hb⟩)
 obtain ⟨w_, hw⟩ := xe w;have HB := kq (Below w.heap.size w w_) (by rw [hw]; exact Below.refl _ _)
 suffices H : Calls Tryz.prog 36 #[.slice A n c] w_ fun e w' => TReadO w w' l e by rw [hw] at H; exact H
 clear hw hs
 go_enter Tryz.func36, Tryz.ntmps36
 go_wp2_with (with_reducible refine wal 2 ZT.o ?_);intro v_ b_ y_ hsz2_;have HV := kp (at_mk b_ HCZ.o.len);have HVG := kp HB.o.size;generalize hg_ : w_.heap.size = g2 at HV HVG ⊢;clear b_ hsz2_ hg_;have y_ := y_;clear y_;replace HB := kp (HB.o.grow' y_);clear y_;try clear w_
 rename World => w_;go_wp2_with (with_reducible refine wal 4 ZT.o ?_);intro v_ b_ y_ hsz2_;have HH := kp (at_mk b_ HCZ.o.len);have HLT := kp HV.o.lt;generalize hg_ : w_.heap.size = g4 at HH HLT ⊢;clear b_ hsz2_ hg_;have y_ := y_;clear y_;replace HB := kp (HB.o.grow' y_);replace HV := kp (HV.o.grow y_);clear y_;try clear w_
 rename World => w_;go_wp2_with fail;refine (fread2_any A n c l 65 #[.pointer (some ⟨g4, 0, none⟩)] (restOf (lookT l)) (fun w2 => TKept g4 w_ w2 l) _ (HS.o.grow HB.o) hn (fun _ _ => rfl) (fun w1 Bd g hw hg he => tread1_any w_ w1 HH.o.lt (by rw [← HZT.o]; exact HH.o.blk) hw hg he)).mono ?_;rintro e w5_ ⟨rfl, v_, ⟨hk, hgot⟩, hgr⟩;have HV_ := kq (At w5_ g2 26 4 zt) ⟨(hgr.block g2 (Nat.lt_of_lt_of_le HV.o.lt hk.size) (fun e => by injection e with e; have := HV.o.lt; omega)).trans (Blk.grown HV.o.blk hk (fun e => by injection e with e; have := HLT.o; omega)), HV.o.len⟩;have HB_ := kq (Below w.heap.size w w5_) (put_below (put_below HB.o (by have := HVG.o; have := HLT.o; omega) hk) HB.o.size hgr)
 have HGOT := kp (show ∀ t l', lookT l = .ok (t, l') → ∃ A n c A2 n2 c2, Blk w5_ g4 26 (txV A n c A2 n2 c2 t.fee t.expiry) ∧ TGot w5_ (w_.heap.size + 1) A n c A2 n2 c2 t from fun t l' h => by
  obtain ⟨A1, n1, c1, A2, n2, c2, h1, h2⟩ := hgot t l' h
  exact ⟨A1, n1, c1, A2, n2, c2, h1.grown hgr (fun e => by injection e with e; have := HH.o.lt; omega), h2.keep (fun b hb hlt => hgr.block b hlt (fun e => by injection e with e; omega))⟩)
 have HG2Z := kq (g2 < w_.heap.size + 1) (by have := HV.o.lt; omega);have HZW := kq (w.heap.size ≤ w_.heap.size + 1) (by have := HB.o.size; omega);generalize w_.heap.size + 1 = Z at HGOT HG2Z HZW;clear hk hgot hgr HV HB HH;have HV := HV_; have HB := HB_;clear HV_ HB_;try clear v_
 try clear w_
 rename World => w_;rcases readT_cases l with ⟨er, her, her0, hrd⟩ | ⟨t, her, hlk, hrd⟩
 ·rw [her];have HRD := kp hrd;have H0 := kp her0;have d0 : ((er : Int) == 0) = false := by simp; omega
  have d1 : ((er : Int) != 0) = true := by simp; omega
  clear her her0 hrd HGOT;go_wp2_with (with_reducible refine wst 15 ?_);refine stop_go ?_;refine wpl_build rfl rfl T0.o ?_;go_wp2_with (with_reducible refine wsb row_tx HV.o.blk HV.o.len HCZ.o.len HCZ.o.one ?_);intro v_ b_ g_ hsz2_;have HV_ := kp b_;have HB_ := kp (put_below HB.o HVG.o g_);clear b_ g_ hsz2_;go_wp2_with fail;refine ret_cell_tmp rfl row_tx HV_.o rfl HCZ.o.len rfl rfl ?_;exact HERR.o _ er H0.o HRD.o HB_.o
 ·rw [her];obtain ⟨A1, n1, c1, A2, n2, c2, k1, k2⟩ := HGOT.o t [] hlk;have hok := lookT_ok hlk;have HTO := kp hok.1;have HRD := kp hrd;have HH := kp k1;obtain ⟨⟨ls, hls, hi⟩, ho⟩ := k2;have HLS := kp hls;have HI := kp hi; have HO := kp ho;have HNI := kq (n1 ≤ 16) (by rw [← hi.2.2]; have := congrArg List.length hls; rw [List.length_map] at this; omega);have HNO := kq (n2 ≤ 16) (by rw [← ho.2.2]; omega);have HTC := kp (txV_cl (A := A1) (n := n1) (c := c1) (A2 := A2) (n2 := n2) (c2 := c2) (fee := t.fee) (ex := t.expiry));have HCK := kp (tcheck_any (l := ls) (os := t.outs) (fee := t.fee) (ex := t.expiry) w_ hi.at_ ho.at_ (by have := HNI.o; omega) (by have := HNO.o; omega) hok.1.2.2.1 hok.1.2.2.2);have hte : (⟨ls.map Prod.snd, t.outs, t.fee, t.expiry⟩ : Txn) = t := by rw [hls]
  rw [hte] at HCK;have HCP := kp (checkT_pos hok.1);obtain ⟨ck, hck⟩ := xe (checkT t);have HCE := kp hck;rw [← hck] at HCK HCP;obtain ⟨tv, htv⟩ := xe (txV A1 n1 c1 A2 n2 c2 t.fee t.expiry);have HTV := kp htv;rw [← htv] at HH HTC HCK;clear hlk hrd her hok hls hi ho k1 HGOT hte hck htv;go_wp2_with (with_reducible refine wlb 11 row_tx HH.o HTC.o.len ?_);refine HCK.o.mono ?_;rintro e v_ ⟨rfl, y_⟩;replace HI := kp (InsO.keep HI.o (fun b _ hlt => y_.block b hlt));replace HO := kp (OutsO.keep HO.o (fun b _ hlt => y_.block b hlt));replace HH := kp (HH.o.grow y_);clear HCK;have y_ := y_;clear y_;replace HB := kp (HB.o.grow' y_);replace HV := kp (HV.o.grow y_);clear y_;try clear w_
  rename World => w_;by_cases h0 : ck = 0
  ·subst h0;have HRD2 := kq (readT l = .ok t) (by have h := HRD.o; rw [← HCE.o] at h; simpa using h);go_wp2_with (with_reducible first | refine wlb 17 row_tx HH.o HTC.o.len ?_ | refine wsb row_tx HV.o.blk HV.o.len HTC.o.len HTC.o.one ?_);intro v_ b_ g_ hsz2_;have HV_ := kp b_;have HB_ := kp (put_below HB.o HVG.o g_);have HI_ := kp (InsO.keep HI.o (fun b hb hlt => g_.block b hlt (fun e => by injection e with e; have := HG2Z.o; omega))); have HO_ := kp (OutsO.keep HO.o (fun b hb hlt => g_.block b hlt (fun e => by injection e with e; have := HG2Z.o; omega)));clear b_ g_ hsz2_;go_wp2_with fail;refine ret_cell_tmp rfl row_tx HV_.o rfl HTC.o.len rfl rfl ?_;exact ⟨A1, n1, c1, A2, n2, c2, ls, by rw [HRD2.o, HTV.o]; rfl, HI_.o.base HZW.o, by rw [HRD2.o]; exact HLS.o, by rw [HRD2.o]; exact HO_.o.base HZW.o, HB_.o⟩
  ·have d1 : (ck != 0) = true := by simpa using h0
   have HCN := kq (((checkT t).toNat : Int) = ck ∧ (checkT t).toNat ≠ 0) (by have := HCP.o; rw [← HCE.o]; omega);have HRD2 := kq (readT l = .error (checkT t).toNat) (by have h := HRD.o; rw [if_pos (by rw [← HCE.o]; exact h0)] at h; exact h);clear h0;go_wp2_with (with_reducible refine wst 15 ?_);refine stop_go ?_;refine wpl_build rfl rfl T0.o ?_;go_wp2_with (with_reducible refine wsb row_tx HV.o.blk HV.o.len HCZ.o.len HCZ.o.one ?_);intro v_ b_ g_ hsz2_;have HV_ := kp b_;have HB_ := kp (put_below HB.o HVG.o g_);clear b_ g_ hsz2_;go_wp2_with fail;refine ret_cell_tmp rfl row_tx HV_.o rfl HCZ.o.len rfl rfl ?_;rw [← HCN.o.1];exact HERR.o _ _ HCN.o.2 HRD2.o HB_.o
open Go.RowKit
section
variable {w w' : World} {Z n c : Nat} {A : Option Addr}
def BBO (w : World) (Z : Nat) (A : Option Addr) (n c : Nat) (ps : List (Value × List UInt8)) : Prop :=
 w.ownsRow Z 46 1 (.slice A n c) n (ps.map Prod.fst) ∧ (∀ p ∈ ps, ∃ A' c', p.1 = .slice A' p.2.length c' ∧ p.2.length ≤ c' ∧ w.ownsRow Z 5 1 (.slice A' p.2.length c') p.2.length (p.2.map B)) ∧ ps.length = n
theorem BBO.nil (w : World) (Z : Nat) : BBO w Z none 0 0 [] := ⟨own_nil0 _ _ _ _, (fun p hp => by cases hp), rfl⟩
theorem BBO.keep {ps : List (Value × List UInt8)} (h : BBO w Z A n c ps) (k : ∀ b, Z ≤ b → b < w.heap.size → w'.heap[b]? = w.heap[b]?) : BBO w' Z A n c ps :=
 ⟨own_sub h.1 k, fun p hp => by
  obtain ⟨A', c', e, hc, ho⟩ := h.2.1 p hp
  exact ⟨A', c', e, hc, own_sub ho k⟩, h.2.2⟩
theorem BBO.base {Z2 : Nat} {ps : List (Value × List UInt8)} (h : BBO w Z A n c ps) (hz : Z2 ≤ Z) : BBO w Z2 A n c ps :=
 ⟨own_base h.1 hz, fun p hp => by
  obtain ⟨A', c', e, hc, ho⟩ := h.2.1 p hp
  exact ⟨A', c', e, hc, own_base ho hz⟩, h.2.2⟩
theorem BBO.snoc {ps : List (Value × List UInt8)} {A4 : Option Addr} {c4 : Nat} {v : Value} {t : List UInt8} (h : BBO w Z A n c ps) (hg : w.grownBy w' (A.map Addr.block)) (ho : w'.ownsRow Z 46 1 (.slice A4 (n + 1) c4) (n + 1) (ps.map Prod.fst ++ [v]))
  (hs : ∃ A' c', v = .slice A' t.length c' ∧ t.length ≤ c' ∧ w.ownsRow Z 5 1 (.slice A' t.length c') t.length (t.map B)) : BBO w' Z A4 (n + 1) c4 (ps ++ [(v, t)]) := by
 have key : ∀ {m c' : Nat} {A' : Option Addr} {xs : List Value}, w.ownsRow Z 5 1 (.slice A' m c') m xs → w'.ownsRow Z 5 1 (.slice A' m c') m xs := fun k => own_kept k hg (own_rows_ne k h.1 (by decide))
 refine ⟨by rw [List.map_append]; exact ho, fun p hp => ?_, by simp [h.2.2]⟩;rcases List.mem_append.1 hp with hp | hp
 ·obtain ⟨A', c', e, hc, ho⟩ := h.2.1 p hp;exact ⟨A', c', e, hc, key ho⟩
 ·have : p = (v, t) := by simpa using hp
  subst this;obtain ⟨A', c', e, hc, ho⟩ := hs;exact ⟨A', c', e, hc, key ho⟩
def TxtO (w : World) (Z : Nat) (A : Option Addr) (c : Nat) (t : List UInt8) : Prop := w.ownsRow Z 5 1 (.slice A t.length c) t.length (t.map B) ∧ t.length ≤ c
theorem TxtO.nil (w : World) (Z : Nat) : TxtO w Z none 0 [] := ⟨own_nil0 _ _ _ _, Nat.le_refl _⟩
theorem TxtO.keep {t : List UInt8} (h : TxtO w Z A c t) (k : ∀ b, Z ≤ b → b < w.heap.size → w'.heap[b]? = w.heap[b]?) : TxtO w' Z A c t := ⟨own_sub h.1 k, h.2⟩
theorem TxtO.base {Z2 : Nat} {t : List UInt8} (h : TxtO w Z A c t) (hz : Z2 ≤ Z) : TxtO w Z2 A c t := ⟨own_base h.1 hz, h.2⟩
end
def LookedR (w w' : World) (Lo Bd g : Nat) (l : List UInt8) (e : Ending) : Prop := w.grownBy w' (some g) ∧ ((∃ x, lookCm l = .error x ∧ e = .panicked (brk x)) ∨
 (∃ p l' TA tc A n c ps, lookCm l = .ok (p, l') ∧ e = .returned (.tuple #[.agg (noCW.vs p.m).toArray, .agg #[.slice TA p.t.length tc, .slice A n c]]) ∧ TxtO w' w.heap.size TA tc p.t ∧ BBO w' w.heap.size A n c ps ∧ ps.map Prod.snd = p.cs ∧ EyeAt w' Lo Bd g l'))
theorem kindC_ok {k : Int} (h : I64 k) : (kindC k).ok := ⟨h, noCmd_ok.2⟩
theorem lookCm_kind {l l1 : List UInt8} {k : Nat} (h : numR 9 l = .ok (k, l1)) : lookCm l =
  if k = 0 then .error 25
  else if k = 1 then match numR 1099511627776 l1 with
   | .error x => .error x
   | .ok (s, l2) => match takeR 32 l2 with
    | .error x => .error x
    | .ok (d, l3) => match numR 4611686018427387904 l3 with
     | .error x => .error x
     | .ok (a, l4) => .ok (⟨{ kindC 1 with serial := (s : Int), dest := ⟨d, (a : Int)⟩ }, [], []⟩, l4)
  else if k = 2 ∨ k = 3 then match textR 4096 l1 with
   | .error x => .error x
   | .ok (t, l2) => .ok (⟨kindC k, t, []⟩, l2)
  else if k = 4 ∨ k = 5 ∨ k = 6 then match textR 4096 l1 with
   | .error x => .error x
   | .ok (t, l2) => match numR 16 l2 with
    | .error x => .error x
    | .ok (n, l3) => match lookN (textR 2048) n l3 with
     | .error x => .error x
     | .ok (cs, l4) => .ok (⟨kindC k, t, cs⟩, l4)
  else if k = 7 then match numR 1099511627776 l1 with
   | .error x => .error x
   | .ok (e, l2) => .ok (⟨{ kindC 7 with epoch := (e : Int) }, [], []⟩, l2)
  else if k = 9 then match takeR 32 l1 with
   | .error x => .error x
   | .ok (d, l2) => .ok (⟨{ kindC 9 with id := d }, [], []⟩, l2)
  else .ok (⟨kindC k, [], []⟩, l1) := by
 unfold lookCm; rw [h]; rfl
theorem lookCm_noKind {l : List UInt8} {x : Nat} (h : numR 9 l = .error x) : lookCm l = .error x := by unfold lookCm; rw [h]
end Go.Proofs.YtiijepimkgaccaaGreat

/- The contract of tx.Read. -/
import Derived.Test.YtobmldegjajocaaCommandRateT23
import Derived.Test.YtobmldegjajocaaCommandRateT16
import Derived.Test.YtobmldegjajocaaCommandRateT19
import Derived.Test.YtobmldegjajocaaCommandRateT20
import Derived.Test.YtobmldegjajocaaCommandRateT21
import Derived.Test.YtobmldegjajocaaCommandRateT6
import Derived.Test.YtobmldegjajocaaCommandRateT4
set_option linter.unusedSimpArgs false
/- The contract of tx.Read. -/
namespace Go.Proofs.Ytobmldegjajocaa
open Go.RowKit Go.Shelf
set_option linter.unusedVariables false
theorem TGot.base {w : World} {Z Z2 n c n2 c2 : Nat} {A A2 : Option Addr} {t : Txn} (h : TGot w Z A n c A2 n2 c2 t) (hz : Z2 ≤ Z) : TGot w Z2 A n c A2 n2 c2 t := by
  obtain ⟨⟨l, e, h1⟩, h2⟩ := h
  exact ⟨⟨l, e, h1.base hz⟩, h2.base hz⟩
/-- What the closure leaves. -/
def TKept (g4 : Nat) (w w2 : World) (l : List UInt8) : Prop := w.grownBy w2 (some g4) ∧ ∀ t l', lookT l = .ok (t, l') → ∃ A n c A2 n2 c2, Blk w2 g4 26 (txV A n c A2 n2 c2 t.fee t.expiry) ∧ TGot w2 (w.heap.size + 1) A n c A2 n2 c2 t
set_option maxRecDepth 100000 in
set_option maxHeartbeats 4000000 in
theorem tread1_any {Bd g g4 : Nat} {l : List UInt8} (w w1 : World) (hg4 : g4 < w.heap.size) (hb : Blk w g4 26 (txV none 0 0 none 0 0 0 0)) (hw : Grow w w1) (hg : w.heap.size ≤ g) (he : EyeAt w1 (w.heap.size + 1) Bd g l) :
    Calls Try.prog 74 (#[.pointer (some ⟨g, 0, none⟩)] ++ #[.pointer (some ⟨g4, 0, none⟩)]) w1 fun e w2 => TKept g4 w w2 l ∧ w1.heap.size ≤ w2.heap.size ∧ w2.heap[w.heap.size]? = w1.heap[w.heap.size]? ∧
      ((∃ x, restOf (lookT l) = .error x ∧ e = .panicked (brk x)) ∨ (∃ l', restOf (lookT l) = .ok l' ∧ e = .returned (.tuple #[]) ∧ EyeAt w2 (w.heap.size + 1) Bd g l')) := by
  have HW := Lib.hid hw
  have HE := Lib.hid he
  have HV := Lib.hid (hb.grow hw)
  have hgl := he.lo
  have hlt := he.lt
  have HGG := Lib.hid (show g ≠ w.heap.size ∧ g4 ≠ g ∧ g4 ≠ w.heap.size ∧ w.heap.size ≤ g ∧ g4 < w.heap.size + 1 by omega)
  have HLT := Lib.hid (show w.heap.size < w1.heap.size by omega)
  clear hb hw he hgl hlt hg hg4
  show Calls _ _ #[_, _] _ _
  go_enter Try.func74, Try.ntmps74
  go_wp2_with fail
  refine (tlook_any _ HE.out).mono ?_
  rintro e w2 ⟨hg2, ⟨x, hx, rfl⟩ | ⟨t, l', A, n, c, A2, n2, c2, hx, rfl, hT, hE⟩⟩
  · have HG2 := Lib.hid hg2
    have HX := Lib.hid hx
    clear hg2 hx
    go_wp2_with fail
    refine ⟨by first | trivial | rfl, ⟨?_, fun t l' e2 => by rw [HX.out] at e2; cases e2⟩, HG2.out.size, ?_, .inl ⟨x, by rw [HX.out]; rfl, rfl⟩⟩
    · exact grownBy_new (grown_of_below HW.out _) (grownBy_trans (grownBy_refl _ _) HG2.out) HGG.out.2.2.2.1
    · exact HG2.out.block _ HLT.out (fun e => HGG.out.1 (Option.some.inj e).symm)
  · have HX := Lib.hid hx
    have HV2 := Lib.hid (HV.out.grown hg2 (fun e => HGG.out.2.1 (Option.some.inj e)))
    have HG2 := Lib.hid hg2
    have HE2 := Lib.hid hE
    have HT := Lib.hid hT
    have HC := Lib.hid (txV_cl (A := A) (n := n) (c := c) (A2 := A2) (n2 := n2) (c2 := c2) (fee := t.fee) (ex := t.expiry))
    obtain ⟨hv, hhv⟩ : ∃ q, q = txV A n c A2 n2 c2 t.fee t.expiry := ⟨_, rfl⟩
    have HHV := Lib.hid hhv
    rw [← hhv] at HC ⊢
    clear hg2 hx hE hhv hT HV HE
    go_wp2_with (first | (with_reducible refine wpl_storeb (o := ⟨none, .store _ _ _, _, _, _, _⟩) rfl rfl row_tx HV2.out rfl rfl len_tx HC.out.len HC.out.one ?_))
    intro w3 hb3 hg3 hs3
    have HB3 := Lib.hid hb3
    have HG3 := Lib.hid hg3
    clear hb3 hg3 hs3
    go_wp2_with fail
    refine bodyPost_end (results_none rfl _ _ _) rfl ?_
    refine ⟨⟨?_, fun t2 l2 e2 => ?_⟩, Nat.le_trans HG2.out.size HG3.out.size, ?_, .inr ⟨l', by rw [HX.out]; rfl, rfl, HE2.out.off HG3.out (.inl HGG.out.2.2.2.2)⟩⟩
    · exact grownBy_trans (grownBy_new (grown_of_below HW.out _) HG2.out HGG.out.2.2.2.1) HG3.out
    · rw [HX.out] at e2
      injection e2 with e2
      injection e2 with e3 e4
      subst e3
      exact ⟨A, n, c, A2, n2, c2, by rw [← HHV.out]; exact HB3.out, (HT.out.keep (fun b hb hlt => HG3.out.block b hlt (fun e => by injection e with e; have := HGG.out; have := HLT.out; omega))).base HLT.out⟩
    · rw [HG3.out.block _ (Nat.lt_of_lt_of_le HLT.out HG2.out.size) (fun e => HGG.out.2.2.1 (Option.some.inj e).symm), HG2.out.block _ HLT.out (fun e => HGG.out.1 (Option.some.inj e).symm)]
/-- So, and all lies in blocks of the call's own. -/
def TReadO (w w' : World) (l : List UInt8) (e : Ending) : Prop := ∃ A n c A2 n2 c2, ∃ ls : List (Value × Inp), e = .returned (.tuple #[.agg (txV A n c A2 n2 c2 (txnOf (readT l)).fee (txnOf (readT l)).expiry).toArray, .int .i64 (errOf (readT l) : Int)]) ∧
  InsO w' w.heap.size A n c ls ∧ ls.map Prod.snd = (txnOf (readT l)).ins ∧ OutsO w' w.heap.size A2 n2 c2 (txnOf (readT l)).outs ∧ Below w.heap.size w w'
theorem InsO.nil (w : World) (Z : Nat) : InsO w Z none 0 0 [] := ⟨own_nil0 _ _ _ _, (fun p hp => by cases hp), rfl⟩
theorem OutsO.nil (w : World) (Z : Nat) : OutsO w Z none 0 0 [] := ⟨own_nil0 _ _ _ _, (fun p hp => by cases hp), rfl⟩
set_option maxRecDepth 100000 in
set_option maxHeartbeats 4000000 in
theorem treado_any {A : Option Addr} {n c : Nat} {l : List UInt8} (w : World) (hs : Sl w w.heap.size 1 A n (l.map B)) (hn : n ≤ 1000000) : Calls Try.prog 39 #[.slice A n c] w fun e w' => TReadO w w' l e := by
  have HS := Lib.hid hs
  have HCZ := Lib.hid (txV_cl (A := none) (n := 0) (c := 0) (A2 := none) (n2 := 0) (c2 := 0) (fee := 0) (ex := 0))
  have T0 := Lib.hid bt_tx0
  have ZT := Lib.hid zero_tx
  obtain ⟨zt, hzt⟩ : ∃ q, q = txV none 0 0 none 0 0 0 0 := ⟨_, rfl⟩
  have HZT := Lib.hid hzt
  rw [← hzt] at HCZ T0 ZT
  clear hzt
  have HERR := Lib.hid (fun (w' : World) (er : Nat) (h0 : er ≠ 0) (h1 : readT l = .error er) (hb : Below w.heap.size w w') => show TReadO w w' l (.returned (.tuple #[.agg zt.toArray, .int .i64 (er : Int)])) from
    ⟨none, 0, 0, none, 0, 0, [], by rw [h1, HZT.out]; rfl, InsO.nil _ _, by rw [h1]; rfl, by rw [h1]; exact OutsO.nil _ _, hb⟩)
  obtain ⟨w_, hw⟩ : ∃ x, x = w := ⟨_, rfl⟩
  have HB := Lib.hid (show Below w.heap.size w w_ by rw [hw]; exact Below.refl _ _)
  suffices H : Calls Try.prog 39 #[.slice A n c] w_ fun e w' => TReadO w w' l e by rw [hw] at H; exact H
  clear hw hs
  go_enter Try.func39, Try.ntmps39
  go_wp2_with (first | (with_reducible refine wpl_alloc (o := ⟨some 2, _, _, _, _, _⟩) rfl rfl ZT.out ?_))
  intro w2_ hb2_ hb_ hsz2_
  have HV := Lib.hid (at_mk hb2_ HCZ.out.len)
  have HVG := Lib.hid HB.out.size
  generalize hg_ : w_.heap.size = g2 at HV HVG ⊢
  clear hb2_ hsz2_ hg_
  have hb_ := hb_
  clear hb_
  have HB_ := Lib.hid (HB.out.grow' hb_)
  clear HB
  have HB := HB_
  clear HB_
  clear hb_
  try clear w_
  rename World => w_
  go_wp2_with (first | (with_reducible refine wpl_alloc (o := ⟨some 4, _, _, _, _, _⟩) rfl rfl ZT.out ?_))
  intro w2_ hb2_ hb_ hsz2_
  have HH := Lib.hid (at_mk hb2_ HCZ.out.len)
  have HLT := Lib.hid HV.out.lt
  generalize hg_ : w_.heap.size = g4 at HH HLT ⊢
  clear hb2_ hsz2_ hg_
  have hb_ := hb_
  clear hb_
  have HB_ := Lib.hid (HB.out.grow' hb_)
  clear HB
  have HB := HB_
  clear HB_
  have HV_ := Lib.hid (HV.out.grow hb_)
  clear HV
  have HV := HV_
  clear HV_
  clear hb_
  try clear w_
  rename World => w_
  go_wp2_with fail
  refine (fread2_any A n c l 74 #[.pointer (some ⟨g4, 0, none⟩)] (restOf (lookT l)) (fun w2 => TKept g4 w_ w2 l) _ (HS.out.grow HB.out) hn (fun _ _ => rfl) (fun w1 Bd g hw hg he => tread1_any w_ w1 HH.out.lt (by rw [← HZT.out]; exact HH.out.blk) hw hg he)).mono ?_
  rintro e w5_ ⟨rfl, w2_, ⟨hk, hgot⟩, hgr⟩
  have HV_ := Lib.hid (show At w5_ g2 26 4 zt from ⟨(hgr.block g2 (Nat.lt_of_lt_of_le HV.out.lt hk.size) (fun e => by injection e with e; have := HV.out.lt; omega)).trans (Blk.grown HV.out.blk hk (fun e => by injection e with e; have := HLT.out; omega)), HV.out.len⟩)
  have HB_ := Lib.hid (show Below w.heap.size w w5_ from put_below (put_below HB.out (by have := HVG.out; have := HLT.out; omega) hk) HB.out.size hgr)
  have HGOT := Lib.hid (show ∀ t l', lookT l = .ok (t, l') → ∃ A n c A2 n2 c2, Blk w5_ g4 26 (txV A n c A2 n2 c2 t.fee t.expiry) ∧ TGot w5_ (w_.heap.size + 1) A n c A2 n2 c2 t from fun t l' h => by
    obtain ⟨A1, n1, c1, A2, n2, c2, h1, h2⟩ := hgot t l' h
    exact ⟨A1, n1, c1, A2, n2, c2, h1.grown hgr (fun e => by injection e with e; have := HH.out.lt; omega), h2.keep (fun b hb hlt => hgr.block b hlt (fun e => by injection e with e; omega))⟩)
  have HG2Z := Lib.hid (show g2 < w_.heap.size + 1 by have := HV.out.lt; omega)
  have HZW := Lib.hid (show w.heap.size ≤ w_.heap.size + 1 by have := HB.out.size; omega)
  generalize w_.heap.size + 1 = Z at HGOT HG2Z HZW
  clear hk hgot hgr HV HB HH
  have HV := HV_; have HB := HB_
  clear HV_ HB_
  try clear w2_
  try clear w_
  rename World => w_
  rcases readT_cases l with ⟨er, her, her0, hrd⟩ | ⟨t, her, hlk, hrd⟩
  · rw [her]
    have HRD := Lib.hid hrd
    have H0 := Lib.hid her0
    have d0 : ((er : Int) == 0) = false := by simp; omega
    have d1 : ((er : Int) != 0) = true := by simp; omega
    clear her her0 hrd HGOT
    go_wp2_with (first | (with_reducible refine wpl_stop (o := ⟨some 15, _, _, _, _, _⟩) ?_))
    refine stop_go ?_
    refine wpl_build rfl rfl T0.out ?_
    go_wp2_with (first | (with_reducible refine wpl_storeb (o := ⟨none, .store _ _ _, _, _, _, _⟩) rfl rfl row_tx HV.out.blk rfl rfl HV.out.len HCZ.out.len HCZ.out.one ?_))
    intro w2_ hb2_ hg2_ hsz2_
    have HV_ := Lib.hid hb2_
    have HB_ := Lib.hid (put_below HB.out HVG.out hg2_)
    clear hb2_ hg2_ hsz2_
    go_wp2_with fail
    refine ret_cell_tmp rfl row_tx HV_.out rfl HCZ.out.len rfl rfl ?_
    exact HERR.out _ er H0.out HRD.out HB_.out
  · rw [her]
    obtain ⟨A1, n1, c1, A2, n2, c2, k1, k2⟩ := HGOT.out t [] hlk
    have hok := lookT_ok hlk
    have HTO := Lib.hid hok.1
    have HRD := Lib.hid hrd
    have HH := Lib.hid k1
    obtain ⟨⟨ls, hls, hi⟩, ho⟩ := k2
    have HLS := Lib.hid hls
    have HI := Lib.hid hi; have HO := Lib.hid ho
    have HNI := Lib.hid (show n1 ≤ 16 by rw [← hi.2.2]; have := congrArg List.length hls; rw [List.length_map] at this; omega)
    have HNO := Lib.hid (show n2 ≤ 16 by rw [← ho.2.2]; omega)
    have HTC := Lib.hid (txV_cl (A := A1) (n := n1) (c := c1) (A2 := A2) (n2 := n2) (c2 := c2) (fee := t.fee) (ex := t.expiry))
    have HCK := Lib.hid (tcheck_any (l := ls) (os := t.outs) (fee := t.fee) (ex := t.expiry) w_ hi.at_ ho.at_ (by have := HNI.out; omega) (by have := HNO.out; omega) hok.1.2.2.1 hok.1.2.2.2)
    have hte : (⟨ls.map Prod.snd, t.outs, t.fee, t.expiry⟩ : Txn) = t := by rw [hls]
    rw [hte] at HCK
    have HCP := Lib.hid (checkT_pos hok.1)
    obtain ⟨ck, hck⟩ : ∃ q, q = checkT t := ⟨_, rfl⟩
    have HCE := Lib.hid hck
    rw [← hck] at HCK HCP
    obtain ⟨tv, htv⟩ : ∃ q, q = txV A1 n1 c1 A2 n2 c2 t.fee t.expiry := ⟨_, rfl⟩
    have HTV := Lib.hid htv
    rw [← htv] at HH HTC HCK
    clear hlk hrd her hok hls hi ho k1 HGOT hte hck htv
    go_wp2_with (first | (with_reducible refine wpl_loadb (o := ⟨some 11, _, _, _, _, _⟩) rfl rfl row_tx HH.out rfl HTC.out.len ?_))
    refine HCK.out.mono ?_
    rintro e w2_ ⟨rfl, hb_⟩
    have HI_ := Lib.hid (InsO.keep HI.out (fun b _ hlt => hb_.block b hlt)); have HO_ := Lib.hid (OutsO.keep HO.out (fun b _ hlt => hb_.block b hlt)); have HH_ := Lib.hid (HH.out.grow hb_)
    clear HI HO HH HCK
    have HI := HI_; have HO := HO_; have HH := HH_
    clear HI_ HO_ HH_
    have hb_ := hb_
    clear hb_
    have HB_ := Lib.hid (HB.out.grow' hb_)
    clear HB
    have HB := HB_
    clear HB_
    have HV_ := Lib.hid (HV.out.grow hb_)
    clear HV
    have HV := HV_
    clear HV_
    clear hb_
    try clear w_
    rename World => w_
    by_cases h0 : ck = 0
    · subst h0
      have HRD2 := Lib.hid (show readT l = .ok t by have h := HRD.out; rw [← HCE.out] at h; simpa using h)
      go_wp2_with (first | (with_reducible refine wpl_loadb (o := ⟨some 17, _, _, _, _, _⟩) rfl rfl row_tx HH.out rfl HTC.out.len ?_) | (with_reducible refine wpl_storeb (o := ⟨none, .store _ _ _, _, _, _, _⟩) rfl rfl row_tx HV.out.blk rfl rfl HV.out.len HTC.out.len HTC.out.one ?_))
      intro w2_ hb2_ hg2_ hsz2_
      have HV_ := Lib.hid hb2_
      have HB_ := Lib.hid (put_below HB.out HVG.out hg2_)
      have HI_ := Lib.hid (InsO.keep HI.out (fun b hb hlt => hg2_.block b hlt (fun e => by injection e with e; have := HG2Z.out; omega))); have HO_ := Lib.hid (OutsO.keep HO.out (fun b hb hlt => hg2_.block b hlt (fun e => by injection e with e; have := HG2Z.out; omega)))
      clear hb2_ hg2_ hsz2_
      go_wp2_with fail
      refine ret_cell_tmp rfl row_tx HV_.out rfl HTC.out.len rfl rfl ?_
      exact ⟨A1, n1, c1, A2, n2, c2, ls, by rw [HRD2.out, HTV.out]; rfl, HI_.out.base HZW.out, by rw [HRD2.out]; exact HLS.out, by rw [HRD2.out]; exact HO_.out.base HZW.out, HB_.out⟩
    · have d1 : (ck != 0) = true := by simpa using h0
      have HCN := Lib.hid (show ((checkT t).toNat : Int) = ck ∧ (checkT t).toNat ≠ 0 by have := HCP.out; rw [← HCE.out]; omega)
      have HRD2 := Lib.hid (show readT l = .error (checkT t).toNat by have h := HRD.out; rw [if_pos (by rw [← HCE.out]; exact h0)] at h; exact h)
      clear h0
      go_wp2_with (first | (with_reducible refine wpl_stop (o := ⟨some 15, _, _, _, _, _⟩) ?_))
      refine stop_go ?_
      refine wpl_build rfl rfl T0.out ?_
      go_wp2_with (first | (with_reducible refine wpl_storeb (o := ⟨none, .store _ _ _, _, _, _, _⟩) rfl rfl row_tx HV.out.blk rfl rfl HV.out.len HCZ.out.len HCZ.out.one ?_))
      intro w2_ hb2_ hg2_ hsz2_
      have HV_ := Lib.hid hb2_
      have HB_ := Lib.hid (put_below HB.out HVG.out hg2_)
      clear hb2_ hg2_ hsz2_
      go_wp2_with fail
      refine ret_cell_tmp rfl row_tx HV_.out rfl HCZ.out.len rfl rfl ?_
      rw [← HCN.out.1]
      exact HERR.out _ _ HCN.out.2 HRD2.out HB_.out
end Go.Proofs.Ytobmldegjajocaa
/- Texts that are being read (rows of byte slices of the call's own); what command.look leaves. -/
namespace Go.Proofs.Ytobmldegjajocaa
open Go.RowKit
set_option linter.unusedVariables false
section
variable {w w' : World} {Z n c : Nat} {A : Option Addr}
/-- A row of texts, all of blocks from Z on. -/
def BBO (w : World) (Z : Nat) (A : Option Addr) (n c : Nat) (ps : List (Value × List UInt8)) : Prop :=
  w.ownsRow Z 36 1 (.slice A n c) n (ps.map Prod.fst) ∧ (∀ p ∈ ps, ∃ A' c', p.1 = .slice A' p.2.length c' ∧ p.2.length ≤ c' ∧ w.ownsRow Z 5 1 (.slice A' p.2.length c') p.2.length (p.2.map B)) ∧ ps.length = n
theorem BBO.nil (w : World) (Z : Nat) : BBO w Z none 0 0 [] := ⟨own_nil0 _ _ _ _, (fun p hp => by cases hp), rfl⟩
theorem BBO.keep {ps : List (Value × List UInt8)} (h : BBO w Z A n c ps) (k : ∀ b, Z ≤ b → b < w.heap.size → w'.heap[b]? = w.heap[b]?) : BBO w' Z A n c ps :=
  ⟨own_sub h.1 k, fun p hp => by
    obtain ⟨A', c', e, hc, ho⟩ := h.2.1 p hp
    exact ⟨A', c', e, hc, own_sub ho k⟩, h.2.2⟩
theorem BBO.base {Z2 : Nat} {ps : List (Value × List UInt8)} (h : BBO w Z A n c ps) (hz : Z2 ≤ Z) : BBO w Z2 A n c ps :=
  ⟨own_base h.1 hz, fun p hp => by
    obtain ⟨A', c', e, hc, ho⟩ := h.2.1 p hp
    exact ⟨A', c', e, hc, own_base ho hz⟩, h.2.2⟩
/-- One more text behind. -/
theorem BBO.snoc {ps : List (Value × List UInt8)} {A4 : Option Addr} {c4 : Nat} {v : Value} {t : List UInt8} (h : BBO w Z A n c ps) (hg : w.grownBy w' (A.map Addr.block)) (ho : w'.ownsRow Z 36 1 (.slice A4 (n + 1) c4) (n + 1) (ps.map Prod.fst ++ [v]))
    (hs : ∃ A' c', v = .slice A' t.length c' ∧ t.length ≤ c' ∧ w.ownsRow Z 5 1 (.slice A' t.length c') t.length (t.map B)) : BBO w' Z A4 (n + 1) c4 (ps ++ [(v, t)]) := by
  have key : ∀ {m c' : Nat} {A' : Option Addr} {xs : List Value}, w.ownsRow Z 5 1 (.slice A' m c') m xs → w'.ownsRow Z 5 1 (.slice A' m c') m xs := fun k => own_kept k hg (own_rows_ne k h.1 (by decide))
  refine ⟨by rw [List.map_append]; exact ho, fun p hp => ?_, by simp [h.2.2]⟩
  rcases List.mem_append.1 hp with hp | hp
  · obtain ⟨A', c', e, hc, ho⟩ := h.2.1 p hp
    exact ⟨A', c', e, hc, key ho⟩
  · have : p = (v, t) := by simpa using hp
    subst this
    obtain ⟨A', c', e, hc, ho⟩ := hs
    exact ⟨A', c', e, hc, key ho⟩
/-- A text of the call's own. -/
def TxtO (w : World) (Z : Nat) (A : Option Addr) (c : Nat) (t : List UInt8) : Prop := w.ownsRow Z 5 1 (.slice A t.length c) t.length (t.map B) ∧ t.length ≤ c
theorem TxtO.nil (w : World) (Z : Nat) : TxtO w Z none 0 [] := ⟨own_nil0 _ _ _ _, Nat.le_refl _⟩
theorem TxtO.keep {t : List UInt8} (h : TxtO w Z A c t) (k : ∀ b, Z ≤ b → b < w.heap.size → w'.heap[b]? = w.heap[b]?) : TxtO w' Z A c t := ⟨own_sub h.1 k, h.2⟩
theorem TxtO.base {Z2 : Nat} {t : List UInt8} (h : TxtO w Z A c t) (hz : Z2 ≤ Z) : TxtO w Z2 A c t := ⟨own_base h.1 hz, h.2⟩
end
/-- What look leaves. -/
def LookedR (w w' : World) (Lo Bd g : Nat) (l : List UInt8) (e : Ending) : Prop := w.grownBy w' (some g) ∧ ((∃ x, lookCm l = .error x ∧ e = .panicked (brk x)) ∨
  (∃ p l' TA tc A n c ps, lookCm l = .ok (p, l') ∧ e = .returned (.tuple #[.agg (noCW.vs p.m).toArray, .agg #[.slice TA p.t.length tc, .slice A n c]]) ∧ TxtO w' w.heap.size TA tc p.t ∧ BBO w' w.heap.size A n c ps ∧ ps.map Prod.snd = p.cs ∧ EyeAt w' Lo Bd g l'))
theorem kindC_ok {k : Int} (h : I64 k) : (kindC k).ok := ⟨h, noCmd_ok.2⟩
/-- How a command's look goes on behind its kind. -/
theorem lookCm_kind {l l1 : List UInt8} {k : Nat} (h : numR 9 l = .ok (k, l1)) : lookCm l =
    if k = 0 then .error 25
    else if k = 1 then match numR 1099511627776 l1 with
      | .error x => .error x
      | .ok (s, l2) => match takeR 32 l2 with
        | .error x => .error x
        | .ok (d, l3) => match numR 4611686018427387904 l3 with
          | .error x => .error x
          | .ok (a, l4) => .ok (⟨{ kindC 1 with serial := (s : Int), dest := ⟨d, (a : Int)⟩ }, [], []⟩, l4)
    else if k = 2 ∨ k = 3 then match textR 4096 l1 with
      | .error x => .error x
      | .ok (t, l2) => .ok (⟨kindC k, t, []⟩, l2)
    else if k = 4 ∨ k = 5 ∨ k = 6 then match textR 4096 l1 with
      | .error x => .error x
      | .ok (t, l2) => match numR 16 l2 with
        | .error x => .error x
        | .ok (n, l3) => match lookN (textR 2048) n l3 with
          | .error x => .error x
          | .ok (cs, l4) => .ok (⟨kindC k, t, cs⟩, l4)
    else if k = 7 then match numR 1099511627776 l1 with
      | .error x => .error x
      | .ok (e, l2) => .ok (⟨{ kindC 7 with epoch := (e : Int) }, [], []⟩, l2)
    else if k = 9 then match takeR 32 l1 with
      | .error x => .error x
      | .ok (d, l2) => .ok (⟨{ kindC 9 with id := d }, [], []⟩, l2)
    else .ok (⟨kindC k, [], []⟩, l1) := by
  unfold lookCm; rw [h]; rfl
theorem lookCm_noKind {l : List UInt8} {x : Nat} (h : numR 9 l = .error x) : lookCm l = .error x := by unfold lookCm; rw [h]
end Go.Proofs.Ytobmldegjajocaa

/- The given card TxFormsCardSaid, out of the walk txForms_walk: for every input the law returns true, and each argument reads as it did; the tables of package sha are tied to the program's text. No condition. -/
import Derived.Test.YtphmefhnffoafaaDoorTxFormsB1
import Derived.Test.YtphmefhnffoafaaDoorTxFormsB2
import Derived.Test.YtphmefhnffoafaaDoorTxSameB4
import Derived.Test.YtphmefhnffoafaaDoorTxSameB11
import Derived.Test.YtphmefhnffoafaaDoorTxSameB8
import Derived.Test.YtphmefhnffoafaaDoorHeaderFollowsB2
import Derived.ShutString
import Derived.ChangeOld
import Derived.Below
set_option linter.unusedSimpArgs false
/- The contract of field.Read, said to the block: what a reading function laid stays. -/
namespace Go.Proofs.YtphmefhnffoafaaDoor
open Go.RowKit Go.Shelf
set_option linter.unusedVariables false
set_option maxRecDepth 100000 in
set_option maxHeartbeats 1000000 in
theorem fread2_any (A : Option Addr) (n c : Nat) (bs : List UInt8) (F : FuncId) (cap : Array Value) (res : Except Nat (List UInt8)) (Q : World → Prop) (w : World) (hs : Sl w w.heap.size 1 A n (bs.map B)) (hn : n ≤ 1000000)
    (hcf : ∀ (args : Array Value) (w : World), (callFunc F args).run Tryd.prog w = .ok (.enter F args) w)
    (hdo : ∀ w1 Bd g, Grow w w1 → w.heap.size ≤ g → EyeAt w1 (w.heap.size + 1) Bd g bs → Calls Tryd.prog F (#[.pointer (some ⟨g, 0, none⟩)] ++ cap) w1 fun e w2 => Q w2 ∧ w1.heap.size ≤ w2.heap.size ∧ w2.heap[w.heap.size]? = w1.heap[w.heap.size]? ∧
      ((∃ x, res = .error x ∧ e = .panicked (brk x)) ∨ (∃ l', res = .ok l' ∧ e = .returned (.tuple #[]) ∧ EyeAt w2 (w.heap.size + 1) Bd g l'))) :
    Calls Tryd.prog 80 #[.slice A n c, .func (.func F) #[] cap] w fun e w' => e = .returned (.int .i64 (eyeErr res : Int)) ∧ ∃ w2, Q w2 ∧ w2.grownBy w' (some w.heap.size) := by
  have HS := Lib.hid hs
  have HDO := Lib.hid hdo
  clear hs hdo
  have hmf : ∀ (fn : Fn) (first cap : Array Value) (w : World), (Instr.makeFunc fn first cap).run Tryd.prog w = .ok (.func fn first cap) w := fun _ _ _ _ => rfl
  obtain ⟨ge, hge⟩ : ∃ ge, ge = w.heap.size := ⟨_, rfl⟩
  have HGE := Lib.hid hge
  clear hge
  go_enter_defers Tryd.func80, Tryd.ntmps80
  go_wp2_with fail
  generalize hw1 : World.alloc w _ = w1
  obtain ⟨hX, hb, hs⟩ := alloc_eq hw1
  rw [← HGE.out] at hX hs ⊢
  have HE1 := Lib.hid hX
  have HG1 := Lib.hid (show Grow w w1 from hb)
  have HZ1 := Lib.hid hs
  have HS1 := Lib.hid ((HS.out.below HG1.out).more HG1.out.size)
  clear hX hb hs hw1
  refine (bclone_any A n c bs _ HS1.out hn).mono ?_
  rintro e w2 ⟨A2, c2, rfl, ho, hc2, hb2⟩
  have hbn : bs.length = n := by have := HS.out.len; simpa using this
  have HO2 := Lib.hid ho
  have HC2 := Lib.hid hc2
  have HE2 := Lib.hid (HE1.out.grow hb2)
  have HG2 := Lib.hid (HG1.out.grow' hb2)
  have HZ2 := Lib.hid (show ge + 1 ≤ w2.heap.size by have := hb2.size; have := HZ1.out; omega)
  clear ho hc2 hb2 HE1 HG1 HS1
  have go1 : ∀ (R : Ending → World → Prop) (w3 : World) (g : Nat), g = w2.heap.size → w3 = w2.alloc (.cells #[.slice A2 n c2] 168) →
      (∀ e w4, (Q w4 ∧ w3.heap.size ≤ w4.heap.size ∧ Blk w4 ge 54 [.int .i64 0] ∧ ((∃ x, res = .error x ∧ e = .panicked (brk x)) ∨ (∃ l', res = .ok l' ∧ e = .returned (.tuple #[]) ∧ EyeAt w4 (ge + 1) w3.heap.size g l'))) → R e w4) → Calls Tryd.prog F (#[.pointer (some ⟨g, 0, none⟩)] ++ cap) w3 R := by
    intro R w3 g hg hw3 hR
    obtain ⟨hX, hb, hs⟩ := alloc_eq hw3.symm
    have hE : EyeAt w3 (w.heap.size + 1) w3.heap.size g bs := by
      refine ⟨A2, c2, by rw [hbn, hg]; exact hX, by rw [hbn]; exact ((Sl.of_own HO2.out).below hb).more hb.size, by rw [hbn]; exact HC2.out, ?_, by omega, Nat.le_refl _, fun b hA => ?_⟩
      · have := HZ2.out; have := HGE.out; omega
      · have h1 := own_from HO2.out b hA
        have h2 := own_lt HO2.out b hA
        have := HZ1.out; have := HGE.out
        exact ⟨by omega, by omega⟩
    refine (HDO.out w3 _ g (HG2.out.grow' hb) (by have := HZ2.out; have := HGE.out; omega) hE).mono ?_
    rintro e w4 ⟨hQ, hsz, hk, hr⟩
    refine hR e w4 ⟨hQ, hsz, ?_, ?_⟩
    · unfold Blk
      rw [← HGE.out] at hk
      rw [hk]; exact HE2.out.grow hb
    · rw [← HGE.out] at hr; exact hr
  have GO := Lib.hid go1
  clear go1
  go_wp2_with fail
  refine GO.out _ _ _ rfl rfl ?_
  rintro e w4 ⟨hQ, hsz, hb4, ⟨x, hx, rfl⟩ | ⟨l', hl, rfl, hE⟩⟩
  · have HQ := Lib.hid hQ; have HB4 := Lib.hid hb4
    have HX := Lib.hid hx
    have HZ4 := Lib.hid (show ge < w4.heap.size from hb4.lt)
    clear hQ hb4 hsz hx
    go_wp2_with fail
    refine leaves_cons (f := 121) (args := #[.pointer (some ⟨ge, 0, none⟩)]) (by first | simp | decide) (by first | rfl | simp [go_sem]) ?_
    refine (catch_panicking ge x _ ⟨_, HB4.out⟩).mono ?_
    rintro e u' w5 ⟨rfl, rfl, hb5, hg5⟩
    have c5 := hb5.at_ (i := 0) rfl
    have hfin : eyeErr res = x := by rw [HX.out]; rfl
    simp only [Leaves, settle, List.dropWhile]
    refine ⟨_, door_cell c5, ?_, w4, HQ.out, ?_⟩
    · rw [hfin]
    · rw [← HGE.out]; exact hg5
  · have HQ := Lib.hid hQ; have HB4 := Lib.hid hb4; have HL := Lib.hid hl; have HE := Lib.hid hE
    clear hQ hb4 hsz hl hE
    go_wp2_with fail
    refine (eleft_any _ HE.out).mono ?_
    rintro e w5 ⟨rfl, rfl⟩
    have c0 := HB4.out.at_ (i := 0) rfl
    have f0 := HB4.out.frozen 0
    cases l' with
    | nil =>
      have d0 : decide ((0 : Int) < (([] : List UInt8).length : Int)) = false := rfl
      go_wp2_with fail
      refine leaves_cons (f := 121) (args := #[.pointer (some ⟨ge, 0, none⟩)]) (by simp) (by simp [go_sem]) ?_
      refine (catch_idle ge _).mono ?_
      rintro e u' w5 ⟨rfl, rfl, rfl⟩
      have hfin : eyeErr res = 0 := by rw [HL.out]; rfl
      simp only [Leaves, settle]
      refine ⟨_, door_cell (World.cell?_setCell_same _ _ _ c0), ?_, w4, HQ.out, by rw [← HGE.out]; exact grown_set w4 ge 0 _⟩
      first | (rw [hfin]; rfl) | rw [hfin]
    | cons y l2 =>
      have d0 : decide ((0 : Int) < ((y :: l2).length : Int)) = true := by rw [decide_eq_true_eq, List.length_cons]; omega
      go_wp2_with fail
      refine leaves_cons (f := 121) (args := #[.pointer (some ⟨ge, 0, none⟩)]) (by simp) (by simp [go_sem]) ?_
      refine (catch_idle ge _).mono ?_
      rintro e u' w5 ⟨rfl, rfl, rfl⟩
      have hfin : eyeErr res = 3 := by rw [HL.out]; rfl
      simp only [Leaves, settle]
      refine ⟨_, door_cell (World.cell?_setCell_same _ _ _ c0), ?_, w4, HQ.out, by rw [← HGE.out]; exact grown_set w4 ge 0 _⟩
      first | (rw [hfin]; rfl) | rw [hfin]
end Go.Proofs.YtphmefhnffoafaaDoor

/- The contract of tx.Read. -/
namespace Go.Proofs.YtphmefhnffoafaaDoor
open Go.RowKit Go.Shelf
set_option linter.unusedVariables false
theorem TGot.base {w : World} {Z Z2 n c n2 c2 : Nat} {A A2 : Option Addr} {t : Txn} (h : TGot w Z A n c A2 n2 c2 t) (hz : Z2 ≤ Z) : TGot w Z2 A n c A2 n2 c2 t := by
  obtain ⟨⟨l, e, h1⟩, h2⟩ := h
  exact ⟨⟨l, e, h1.base hz⟩, h2.base hz⟩
/-- What the closure leaves. -/
def TKept (g4 : Nat) (w w2 : World) (l : List UInt8) : Prop := w.grownBy w2 (some g4) ∧ ∀ t l', lookT l = .ok (t, l') → ∃ A n c A2 n2 c2, Blk w2 g4 50 (txV A n c A2 n2 c2 t.fee t.expiry) ∧ TGot w2 (w.heap.size + 1) A n c A2 n2 c2 t
set_option maxRecDepth 100000 in
set_option maxHeartbeats 4000000 in
theorem tread1_any {Bd g g4 : Nat} {l : List UInt8} (w w1 : World) (hg4 : g4 < w.heap.size) (hb : Blk w g4 50 (txV none 0 0 none 0 0 0 0)) (hw : Grow w w1) (hg : w.heap.size ≤ g) (he : EyeAt w1 (w.heap.size + 1) Bd g l) :
    Calls Tryd.prog 90 (#[.pointer (some ⟨g, 0, none⟩)] ++ #[.pointer (some ⟨g4, 0, none⟩)]) w1 fun e w2 => TKept g4 w w2 l ∧ w1.heap.size ≤ w2.heap.size ∧ w2.heap[w.heap.size]? = w1.heap[w.heap.size]? ∧
      ((∃ x, restOf (lookT l) = .error x ∧ e = .panicked (brk x)) ∨ (∃ l', restOf (lookT l) = .ok l' ∧ e = .returned (.tuple #[]) ∧ EyeAt w2 (w.heap.size + 1) Bd g l')) := by
  have HW := Lib.hid hw
  have HE := Lib.hid he
  have HV := Lib.hid (hb.grow hw)
  have hgl := he.lo
  have hlt := he.lt
  have HGG := Lib.hid (show g ≠ w.heap.size ∧ g4 ≠ g ∧ g4 ≠ w.heap.size ∧ w.heap.size ≤ g ∧ g4 < w.heap.size + 1 by omega)
  have HLT := Lib.hid (show w.heap.size < w1.heap.size by omega)
  clear hb hw he hgl hlt hg hg4
  show Calls _ _ #[_, _] _ _
  go_enter Tryd.func90, Tryd.ntmps90
  go_wp2_with fail
  refine (tlook_any _ HE.out).mono ?_
  rintro e w2 ⟨hg2, ⟨x, hx, rfl⟩ | ⟨t, l', A, n, c, A2, n2, c2, hx, rfl, hT, hE⟩⟩
  · have HG2 := Lib.hid hg2
    have HX := Lib.hid hx
    clear hg2 hx
    go_wp2_with fail
    refine ⟨by first | trivial | rfl, ⟨?_, fun t l' e2 => by rw [HX.out] at e2; cases e2⟩, HG2.out.size, ?_, .inl ⟨x, by rw [HX.out]; rfl, rfl⟩⟩
    · exact grownBy_new (grown_of_below HW.out _) (grownBy_trans (grownBy_refl _ _) HG2.out) HGG.out.2.2.2.1
    · exact HG2.out.block _ HLT.out (fun e => HGG.out.1 (Option.some.inj e).symm)
  · have HX := Lib.hid hx
    have HV2 := Lib.hid (HV.out.grown hg2 (fun e => HGG.out.2.1 (Option.some.inj e)))
    have HG2 := Lib.hid hg2
    have HE2 := Lib.hid hE
    have HT := Lib.hid hT
    have HC := Lib.hid (txV_cl (A := A) (n := n) (c := c) (A2 := A2) (n2 := n2) (c2 := c2) (fee := t.fee) (ex := t.expiry))
    obtain ⟨hv, hhv⟩ : ∃ q, q = txV A n c A2 n2 c2 t.fee t.expiry := ⟨_, rfl⟩
    have HHV := Lib.hid hhv
    rw [← hhv] at HC ⊢
    clear hg2 hx hE hhv hT HV HE
    go_wp2_with (first | (with_reducible refine wpl_storeb (o := ⟨none, .store _ _ _, _, _, _, _⟩) rfl rfl row_tx HV2.out rfl rfl len_tx HC.out.len HC.out.one ?_))
    intro w3 hb3 hg3 hs3
    have HB3 := Lib.hid hb3
    have HG3 := Lib.hid hg3
    clear hb3 hg3 hs3
    go_wp2_with fail
    refine bodyPost_end (results_none rfl _ _ _) rfl ?_
    refine ⟨⟨?_, fun t2 l2 e2 => ?_⟩, Nat.le_trans HG2.out.size HG3.out.size, ?_, .inr ⟨l', by rw [HX.out]; rfl, rfl, HE2.out.off HG3.out (.inl HGG.out.2.2.2.2)⟩⟩
    · exact grownBy_trans (grownBy_new (grown_of_below HW.out _) HG2.out HGG.out.2.2.2.1) HG3.out
    · rw [HX.out] at e2
      injection e2 with e2
      injection e2 with e3 e4
      subst e3
      exact ⟨A, n, c, A2, n2, c2, by rw [← HHV.out]; exact HB3.out, (HT.out.keep (fun b hb hlt => HG3.out.block b hlt (fun e => by injection e with e; have := HGG.out; have := HLT.out; omega))).base HLT.out⟩
    · rw [HG3.out.block _ (Nat.lt_of_lt_of_le HLT.out HG2.out.size) (fun e => HGG.out.2.2.1 (Option.some.inj e).symm), HG2.out.block _ HLT.out (fun e => HGG.out.1 (Option.some.inj e).symm)]
/-- A transaction that was read, and its error. -/
def TRead (w w' : World) (l : List UInt8) (e : Ending) : Prop := ∃ A n c A2 n2 c2, ∃ ls : List (Value × Inp), e = .returned (.tuple #[.agg (txV A n c A2 n2 c2 (txnOf (readT l)).fee (txnOf (readT l)).expiry).toArray, .int .i64 (errOf (readT l) : Int)]) ∧
  InsAt w' A n c ls ∧ ls.map Prod.snd = (txnOf (readT l)).ins ∧ OutsAt w' A2 n2 c2 (txnOf (readT l)).outs ∧ Below w.heap.size w w'
set_option maxRecDepth 100000 in
set_option maxHeartbeats 4000000 in
theorem tread_any {A : Option Addr} {n c : Nat} {l : List UInt8} (w : World) (hs : Sl w w.heap.size 1 A n (l.map B)) (hn : n ≤ 1000000) : Calls Tryd.prog 43 #[.slice A n c] w fun e w' => TRead w w' l e := by
  have HS := Lib.hid hs
  have HCZ := Lib.hid (txV_cl (A := none) (n := 0) (c := 0) (A2 := none) (n2 := 0) (c2 := 0) (fee := 0) (ex := 0))
  have T0 := Lib.hid bt_tx0
  have ZT := Lib.hid zero_tx
  obtain ⟨zt, hzt⟩ : ∃ q, q = txV none 0 0 none 0 0 0 0 := ⟨_, rfl⟩
  have HZT := Lib.hid hzt
  rw [← hzt] at HCZ T0 ZT
  clear hzt
  have HERR := Lib.hid (fun (w' : World) (er : Nat) (h0 : er ≠ 0) (h1 : readT l = .error er) (hb : Below w.heap.size w w') => show TRead w w' l (.returned (.tuple #[.agg zt.toArray, .int .i64 (er : Int)])) from
    ⟨none, 0, 0, none, 0, 0, [], by rw [h1, HZT.out]; rfl, insAt_nil, by rw [h1]; rfl, by rw [h1]; exact outsAt_nil, hb⟩)
  obtain ⟨w_, hw⟩ : ∃ x, x = w := ⟨_, rfl⟩
  have HB := Lib.hid (show Below w.heap.size w w_ by rw [hw]; exact Below.refl _ _)
  suffices H : Calls Tryd.prog 43 #[.slice A n c] w_ fun e w' => TRead w w' l e by rw [hw] at H; exact H
  clear hw hs
  go_enter Tryd.func43, Tryd.ntmps43
  go_wp2_with (first | (with_reducible refine wpl_alloc (o := ⟨some 2, _, _, _, _, _⟩) rfl rfl ZT.out ?_))
  intro w2_ hb2_ hb_ hsz2_
  have HV := Lib.hid (at_mk hb2_ HCZ.out.len)
  have HVG := Lib.hid HB.out.size
  generalize hg_ : w_.heap.size = g2 at HV HVG ⊢
  clear hb2_ hsz2_ hg_
  have hb_ := hb_
  clear hb_
  have HB_ := Lib.hid (HB.out.grow' hb_)
  clear HB
  have HB := HB_
  clear HB_
  clear hb_
  try clear w_
  rename World => w_
  go_wp2_with (first | (with_reducible refine wpl_alloc (o := ⟨some 4, _, _, _, _, _⟩) rfl rfl ZT.out ?_))
  intro w2_ hb2_ hb_ hsz2_
  have HH := Lib.hid (at_mk hb2_ HCZ.out.len)
  have HLT := Lib.hid HV.out.lt
  generalize hg_ : w_.heap.size = g4 at HH HLT ⊢
  clear hb2_ hsz2_ hg_
  have hb_ := hb_
  clear hb_
  have HB_ := Lib.hid (HB.out.grow' hb_)
  clear HB
  have HB := HB_
  clear HB_
  have HV_ := Lib.hid (HV.out.grow hb_)
  clear HV
  have HV := HV_
  clear HV_
  clear hb_
  try clear w_
  rename World => w_
  go_wp2_with fail
  refine (fread2_any A n c l 90 #[.pointer (some ⟨g4, 0, none⟩)] (restOf (lookT l)) (fun w2 => TKept g4 w_ w2 l) _ (HS.out.grow HB.out) hn (fun _ _ => rfl) (fun w1 Bd g hw hg he => tread1_any w_ w1 HH.out.lt (by rw [← HZT.out]; exact HH.out.blk) hw hg he)).mono ?_
  rintro e w5_ ⟨rfl, w2_, ⟨hk, hgot⟩, hgr⟩
  have HV_ := Lib.hid (show At w5_ g2 50 4 zt from ⟨(hgr.block g2 (Nat.lt_of_lt_of_le HV.out.lt hk.size) (fun e => by injection e with e; have := HV.out.lt; omega)).trans (Blk.grown HV.out.blk hk (fun e => by injection e with e; have := HLT.out; omega)), HV.out.len⟩)
  have HB_ := Lib.hid (show Below w.heap.size w w5_ from put_below (put_below HB.out (by have := HVG.out; have := HLT.out; omega) hk) HB.out.size hgr)
  have HGOT := Lib.hid (show ∀ t l', lookT l = .ok (t, l') → ∃ A n c A2 n2 c2, Blk w5_ g4 50 (txV A n c A2 n2 c2 t.fee t.expiry) ∧ TGot w5_ (w_.heap.size + 1) A n c A2 n2 c2 t from fun t l' h => by
    obtain ⟨A1, n1, c1, A2, n2, c2, h1, h2⟩ := hgot t l' h
    exact ⟨A1, n1, c1, A2, n2, c2, h1.grown hgr (fun e => by injection e with e; have := HH.out.lt; omega), h2.keep (fun b hb hlt => hgr.block b hlt (fun e => by injection e with e; omega))⟩)
  have HG2Z := Lib.hid (show g2 < w_.heap.size + 1 by have := HV.out.lt; omega)
  generalize w_.heap.size + 1 = Z at HGOT HG2Z
  clear hk hgot hgr HV HB HH
  have HV := HV_; have HB := HB_
  clear HV_ HB_
  try clear w2_
  try clear w_
  rename World => w_
  rcases readT_cases l with ⟨er, her, her0, hrd⟩ | ⟨t, her, hlk, hrd⟩
  · rw [her]
    have HRD := Lib.hid hrd
    have H0 := Lib.hid her0
    have d0 : ((er : Int) == 0) = false := by simp; omega
    have d1 : ((er : Int) != 0) = true := by simp; omega
    clear her her0 hrd HGOT
    go_wp2_with (first | (with_reducible refine wpl_stop (o := ⟨some 15, _, _, _, _, _⟩) ?_))
    refine stop_go ?_
    refine wpl_build rfl rfl T0.out ?_
    go_wp2_with (first | (with_reducible refine wpl_storeb (o := ⟨none, .store _ _ _, _, _, _, _⟩) rfl rfl row_tx HV.out.blk rfl rfl HV.out.len HCZ.out.len HCZ.out.one ?_))
    intro w2_ hb2_ hg2_ hsz2_
    have HV_ := Lib.hid hb2_
    have HB_ := Lib.hid (put_below HB.out HVG.out hg2_)
    clear hb2_ hg2_ hsz2_
    go_wp2_with fail
    refine ret_cell_tmp rfl row_tx HV_.out rfl HCZ.out.len rfl rfl ?_
    exact HERR.out _ er H0.out HRD.out HB_.out
  · rw [her]
    obtain ⟨A1, n1, c1, A2, n2, c2, k1, k2⟩ := HGOT.out t [] hlk
    have hok := lookT_ok hlk
    have HTO := Lib.hid hok.1
    have HRD := Lib.hid hrd
    have HH := Lib.hid k1
    obtain ⟨⟨ls, hls, hi⟩, ho⟩ := k2
    have HLS := Lib.hid hls
    have HI := Lib.hid hi; have HO := Lib.hid ho
    have HNI := Lib.hid (show n1 ≤ 16 by rw [← hi.2.2]; have := congrArg List.length hls; rw [List.length_map] at this; omega)
    have HNO := Lib.hid (show n2 ≤ 16 by rw [← ho.2.2]; omega)
    have HTC := Lib.hid (txV_cl (A := A1) (n := n1) (c := c1) (A2 := A2) (n2 := n2) (c2 := c2) (fee := t.fee) (ex := t.expiry))
    have HCK := Lib.hid (tcheck_any (l := ls) (os := t.outs) (fee := t.fee) (ex := t.expiry) w_ hi.at_ ho.at_ (by have := HNI.out; omega) (by have := HNO.out; omega) hok.1.2.2.1 hok.1.2.2.2)
    have hte : (⟨ls.map Prod.snd, t.outs, t.fee, t.expiry⟩ : Txn) = t := by rw [hls]
    rw [hte] at HCK
    have HCP := Lib.hid (checkT_pos hok.1)
    obtain ⟨ck, hck⟩ : ∃ q, q = checkT t := ⟨_, rfl⟩
    have HCE := Lib.hid hck
    rw [← hck] at HCK HCP
    obtain ⟨tv, htv⟩ : ∃ q, q = txV A1 n1 c1 A2 n2 c2 t.fee t.expiry := ⟨_, rfl⟩
    have HTV := Lib.hid htv
    rw [← htv] at HH HTC HCK
    clear hlk hrd her hok hls hi ho k1 HGOT hte hck htv
    go_wp2_with (first | (with_reducible refine wpl_loadb (o := ⟨some 11, _, _, _, _, _⟩) rfl rfl row_tx HH.out rfl HTC.out.len ?_))
    refine HCK.out.mono ?_
    rintro e w2_ ⟨rfl, hb_⟩
    have HI_ := Lib.hid (InsO.keep HI.out (fun b _ hlt => hb_.block b hlt)); have HO_ := Lib.hid (OutsO.keep HO.out (fun b _ hlt => hb_.block b hlt)); have HH_ := Lib.hid (HH.out.grow hb_)
    clear HI HO HH HCK
    have HI := HI_; have HO := HO_; have HH := HH_
    clear HI_ HO_ HH_
    have hb_ := hb_
    clear hb_
    have HB_ := Lib.hid (HB.out.grow' hb_)
    clear HB
    have HB := HB_
    clear HB_
    have HV_ := Lib.hid (HV.out.grow hb_)
    clear HV
    have HV := HV_
    clear HV_
    clear hb_
    try clear w_
    rename World => w_
    by_cases h0 : ck = 0
    · subst h0
      have HRD2 := Lib.hid (show readT l = .ok t by have h := HRD.out; rw [← HCE.out] at h; simpa using h)
      go_wp2_with (first | (with_reducible refine wpl_loadb (o := ⟨some 17, _, _, _, _, _⟩) rfl rfl row_tx HH.out rfl HTC.out.len ?_) | (with_reducible refine wpl_storeb (o := ⟨none, .store _ _ _, _, _, _, _⟩) rfl rfl row_tx HV.out.blk rfl rfl HV.out.len HTC.out.len HTC.out.one ?_))
      intro w2_ hb2_ hg2_ hsz2_
      have HV_ := Lib.hid hb2_
      have HB_ := Lib.hid (put_below HB.out HVG.out hg2_)
      have HI_ := Lib.hid (InsO.keep HI.out (fun b hb hlt => hg2_.block b hlt (fun e => by injection e with e; have := HG2Z.out; omega))); have HO_ := Lib.hid (OutsO.keep HO.out (fun b hb hlt => hg2_.block b hlt (fun e => by injection e with e; have := HG2Z.out; omega)))
      clear hb2_ hg2_ hsz2_
      go_wp2_with fail
      refine ret_cell_tmp rfl row_tx HV_.out rfl HTC.out.len rfl rfl ?_
      exact ⟨A1, n1, c1, A2, n2, c2, ls, by rw [HRD2.out, HTV.out]; rfl, HI_.out.at_, by rw [HRD2.out]; exact HLS.out, by rw [HRD2.out]; exact HO_.out.at_, HB_.out⟩
    · have d1 : (ck != 0) = true := by simpa using h0
      have HCN := Lib.hid (show ((checkT t).toNat : Int) = ck ∧ (checkT t).toNat ≠ 0 by have := HCP.out; rw [← HCE.out]; omega)
      have HRD2 := Lib.hid (show readT l = .error (checkT t).toNat by have h := HRD.out; rw [if_pos (by rw [← HCE.out]; exact h0)] at h; exact h)
      clear h0
      go_wp2_with (first | (with_reducible refine wpl_stop (o := ⟨some 15, _, _, _, _, _⟩) ?_))
      refine stop_go ?_
      refine wpl_build rfl rfl T0.out ?_
      go_wp2_with (first | (with_reducible refine wpl_storeb (o := ⟨none, .store _ _ _, _, _, _, _⟩) rfl rfl row_tx HV.out.blk rfl rfl HV.out.len HCZ.out.len HCZ.out.one ?_))
      intro w2_ hb2_ hg2_ hsz2_
      have HV_ := Lib.hid hb2_
      have HB_ := Lib.hid (put_below HB.out HVG.out hg2_)
      clear hb2_ hg2_ hsz2_
      go_wp2_with fail
      refine ret_cell_tmp rfl row_tx HV_.out rfl HCZ.out.len rfl rfl ?_
      rw [← HCN.out.1]
      exact HERR.out _ _ HCN.out.2 HRD2.out HB_.out
end Go.Proofs.YtphmefhnffoafaaDoor

/- The walk of TxForms. -/
namespace Go.Proofs.YtphmefhnffoafaaDoor
open Go.RowKit Go.Shelf
set_option linter.unusedVariables false
theorem great_nof {t : Txn} (h : ¬ greatT t = true) : t.ins.length ≤ 20 ∧ t.outs.length ≤ 20 ∧ ∀ i ∈ t.ins, i.secret.length ≤ 100 := by
  unfold greatT at h
  simp only [Bool.or_eq_true, decide_eq_true_iff, List.any_eq_true, not_or, not_exists, not_and] at h
  exact ⟨by omega, by omega, fun i hi => by have := h.2 i hi; omega⟩
theorem txn_okf {w : World} {A : Option Addr} {n c : Nat} {A2 : Option Addr} {n2 c2 : Nat} {fee ex : Int} {l : List (Value × Inp)} {os : List Outp} (hi : InsAt w A n c l) (ho : OutsAt w A2 n2 c2 os) (hf : U64 fee) (hx : I64 ex) : Txn.ok ⟨l.map Prod.snd, os, fee, ex⟩ := by
  refine ⟨fun i h => ?_, ho.2.1, hf, hx⟩
  obtain ⟨p, hp, rfl⟩ := List.mem_map.1 h
  exact (hi.2.1 p hp).2
theorem tidB_len (t : Txn) : (tidB t).length = 32 := by
  unfold tidB
  by_cases h : checkT t = 0
  · rw [if_pos h]; exact sha_length _
  · rw [if_neg h]; rfl
set_option maxRecDepth 100000 in
set_option maxHeartbeats 8000000 in
theorem txForms_walk (A : Option Addr) (n c : Nat) (A2 : Option Addr) (n2 c2 : Nat) (l : List (Value × Inp)) (os : List Outp) (fee ex : Int) (w : World)
    (hi : InsAt w A n c l) (ho : OutsAt w A2 n2 c2 os) (hf : U64 fee) (hx : I64 ex) (hm : c ≤ maxLen) (hm2 : c2 ≤ maxLen) (ht : Tabs w) :
    Calls Tryd.prog 10 #[.agg (txV A n c A2 n2 c2 fee ex).toArray] w fun e w' => e = .returned (.bool true) ∧ Below w.heap.size w w' := by
  have hn : n ≤ 9223372036854775807 := by have := hi.2.2.2; unfold maxLen at hm; omega
  have hn2 : n2 ≤ 9223372036854775807 := by have := ho.2.2.2; unfold maxLen at hm2; omega
  have HTC := Lib.hid (txV_cl (A := A) (n := n) (c := c) (A2 := A2) (n2 := n2) (c2 := c2) (fee := fee) (ex := ex))
  have G1 := Lib.hid (fun (w' : World) (hg : Grow w w') => rtgreat_any (A := A) (n := n) (c := c) (A2 := A2) (n2 := n2) (c2 := c2) (fee := fee) (ex := ex) w' (hi.grow hg) ho.2.2.1 hn hn2)
  obtain ⟨ta, hta⟩ : ∃ t : Txn, t = ⟨l.map Prod.snd, os, fee, ex⟩ := ⟨_, rfl⟩
  rw [← hta] at G1
  have hka : ta.ok := by rw [hta]; exact txn_okf hi ho hf hx
  obtain ⟨gz, hgz⟩ : ∃ z : Int, z = if greatT ta then 1 else 0 := ⟨_, rfl⟩
  rw [← hgz] at G1
  obtain ⟨tv, htv⟩ : ∃ q, q = txV A n c A2 n2 c2 fee ex := ⟨_, rfl⟩
  rw [← htv] at HTC G1 ⊢
  by_cases ga : greatT ta = true
  · rw [if_pos ga] at hgz
    subst hgz
    clear hta htv hi ho hka hn hn2 hm hm2 ht ga
    obtain ⟨w_, hw⟩ : ∃ x, x = w := ⟨_, rfl⟩
    have HB := Lib.hid (show Below w.heap.size w w_ by rw [hw]; exact Below.refl _ _)
    suffices H : Calls Tryd.prog 10 #[.agg tv.toArray] w_ fun e w' => e = .returned (.bool true) ∧ Below w.heap.size w w' by rw [hw] at H; exact H
    clear hw
    go_enter Tryd.func10, Tryd.ntmps10
    go_wp2_with (first | (with_reducible refine wpl_box (o := ⟨some 1, _, _, _, _, _⟩) rfl rfl rfl ?_))
    intro w2_ hb2_ hb_ hsz2_
    have HX_ := Lib.hid (at_mk hb2_ HTC.out.len)
    clear hb2_ hsz2_
    have HG_ := Lib.hid HB.out.size
    have HB_ := Lib.hid (HB.out.grow' hb_)
    clear HB
    have HB := HB_
    clear HB_
    generalize hg_ : w_.heap.size = g1 at HX_ HG_ ⊢
    clear hg_
    have HX_g := HG_
    clear HG_
    have HX := HX_
    clear hb_ HX_
    try clear w_
    rename World => w_
    go_wp2_with (first | (with_reducible refine wpl_loadb (o := ⟨_, .load _ _, _, _, _, _⟩) rfl rfl row_tx HX.out.blk rfl HX.out.len ?_) | (with_reducible refine wpl_loadw (o := ⟨_, .load _ _, _, _, _, _⟩) (by first | rfl | (go_simp; done) | fail) rfl row_tx HX.out.blk rfl HX.out.len ?_))
    refine (G1.out _ HB.out).mono ?_
    rintro e w_ ⟨rfl, hb_⟩
    have HB_ := Lib.hid (HB.out.grow' hb_)
    clear HB
    have HB := HB_
    clear HB_
    have HX_ := Lib.hid (HX.out.grow hb_)
    clear HX
    have HX := HX_
    clear HX_
    clear hb_
    go_wp2_with fail
    refine (awake7_any _).mono ?_
    rintro e w_ ⟨rfl, hb_⟩
    have HB_ := Lib.hid (HB.out.grow' hb_)
    clear HB
    have HB := HB_
    clear HB_
    clear hb_
    go_wp2_with fail
    go_ret
    exact ⟨rfl, HB.out⟩
  rw [if_neg ga] at hgz
  subst hgz
  obtain ⟨k1, k2, k3⟩ := great_nof ga
  have en : n ≤ 20 := by rw [hta] at k1; simp only [List.length_map] at k1; rw [hi.2.2.1] at k1; exact k1
  have en2 : n2 ≤ 20 := by rw [hta] at k2; have h := ho.2.2.1; simp only at k2; omega
  have HK1 := Lib.hid (fun (w' : World) (hg : Grow w w') => rtcheck_any (fee := fee) (ex := ex) w' (hi.grow hg) (ho.grow hg) (by omega) (by omega) hf hx)
  have HK2 := Lib.hid (fun (w' : World) (hg : Grow w w') => tcheck_any (fee := fee) (ex := ex) w' (hi.grow hg) (ho.grow hg) (by omega) (by omega) hf hx)
  have HP1 := Lib.hid (fun (w' : World) (hg : Grow w w') => tput_any (fee := fee) (ex := ex) w' (hi.grow hg) (ho.grow hg) (by omega) (by omega) hf hx)
  have HZ1 := Lib.hid (fun (w' : World) (hg : Grow w w') => tsize_any (fee := fee) (ex := ex) w' (hi.grow hg) (ho.grow hg) (by omega) (by omega) hf hx)
  obtain ⟨za, hza⟩ : ∃ q, Dig q (tidB ta) := ⟨(tidB ta).map B, rfl, tidB_len _⟩
  have HI1 := Lib.hid (fun (w' : World) (hg : Grow w w') => tid_any (fee := fee) (ex := ex) (by rw [← hta]; exact hza) w' (hi.grow hg) (ho.grow hg) (by omega) (by omega) hf hx (ht.grow hg))
  have HR1 := Lib.hid (fun (h : checkT ta = 0) (w' : World) (hg : Grow w w') => rtid_any (fee := fee) (ex := ex) (by rw [← hta]; exact h) (by rw [← hta]; exact hza) w' (hi.grow hg) (ho.grow hg) hf hx)
  have HP2 := Lib.hid (fun (h : checkT ta = 0) (w' : World) (hg : Grow w w') => rtput_any (fee := fee) (ex := ex) w' (hi.grow hg) (ho.grow hg)
    (by have r := right_of h; rw [hta] at r; simp only [List.length_map] at r; rw [hi.2.2.1] at r; exact r.1) (by have r := right_of h; rw [hta] at r; have q := ho.2.2.1; simp only at r; omega) hf (by have r := right_of h; rw [hta] at r; exact r.2.2.1)
    (fun p hp => by have r := right_of h; rw [hta] at r; exact r.2.2.2 p.2 (List.mem_map_of_mem hp)))
  have HSU := Lib.hid (fun (A6 : Option Addr) (n6 c6 : Nat) (B6 : Option Addr) (m6 d6 : Nat) (l6 : List (Value × Inp)) (h6 : l6.map Prod.snd = ta.ins) (w' : World) (h1 : InsAt w' A6 n6 c6 l6) (h2 : OutsAt w' B6 m6 d6 ta.outs) (hg : Grow w w') =>
    rtsame_any (res := true) (fee := ta.fee) (ex := ta.expiry) (fee2 := fee) (ex2 := ex) (l := l6) (l2 := l) (os := ta.outs) (os2 := os) (by rw [h6, ← hta]; simp) w' (by have e := h1.2.2.1; have e2 := congrArg List.length h6; rw [List.length_map] at e2; omega) (by have := h2.2.2.1; omega)
      (fun p hp => by have := k3 p.2 (by rw [← h6]; exact List.mem_map_of_mem hp); omega) h1 (hi.grow hg) h2 (ho.grow hg))
  rw [← hta] at HK1 HK2 HP1 HZ1
  rw [← htv] at HK1 HK2 HP1 HZ1 HI1 HR1 HP2 HSU
  rw [show (⟨l.map Prod.snd, os, fee, ex⟩ : Txn) = ta from hta.symm] at HP2
  obtain ⟨ca, hca⟩ : ∃ z, z = checkT ta := ⟨_, rfl⟩
  have HDZ := Lib.hid (show ca ≠ 0 → tidB ta = zeroD ∧ tformB ta = [] from fun h => by rw [hca] at h; exact ⟨by unfold tidB; rw [if_neg h], by unfold tformB; rw [if_neg h]⟩)
  have HD0 := Lib.hid (show ca = 0 → tformB ta = putTB ta ∧ readT (putTB ta) = .ok ta ∧ (putTB ta).length ≤ 3000 from fun h => by rw [hca] at h; exact ⟨by unfold tformB; rw [if_pos h], readT_put hka h, putTB_le hka h⟩)
  rw [← hca] at HK1 HK2 HP1 HR1 HP2
  obtain ⟨zz, hzz⟩ : ∃ q, Dig q zeroD := ⟨zeroD.map B, rfl, by simp [zeroD]⟩
  have BZ := Lib.hid (show Tryd.prog.built 23 [] = some zz.toArray by rw [hzz.1]; exact built_id0)
  have HZA := Lib.hid hza; have HZZ := Lib.hid hzz
  clear hta htv hi ho hka hn hn2 hm hm2 ht ga k1 k2 k3 en en2 hza hzz hca hf hx
  obtain ⟨w_, hw⟩ : ∃ x, x = w := ⟨_, rfl⟩
  have HB := Lib.hid (show Below w.heap.size w w_ by rw [hw]; exact Below.refl _ _)
  suffices H : Calls Tryd.prog 10 #[.agg tv.toArray] w_ fun e w' => e = .returned (.bool true) ∧ Below w.heap.size w w' by rw [hw] at H; exact H
  clear hw
  by_cases hc1 : ca = 0
  · subst hc1
    obtain ⟨e1, e2, e3⟩ := HD0.out rfl
    have HPU := Lib.hid (HP2.out rfl); have HRI := Lib.hid (HR1.out rfl)
    obtain ⟨xa, hxa⟩ : ∃ z, z = putTB ta := ⟨_, rfl⟩
    rw [e1, ← hxa] at HP1 HZ1
    rw [← hxa] at HPU e2 e3
    obtain ⟨la, hla⟩ : ∃ z, z = xa.length := ⟨_, rfl⟩
    rw [← hla] at HP1 HZ1 HPU e3
    have HLA := Lib.hid e3
    have HRT := Lib.hid e2
    clear e1 e2 e3 hxa hla HD0 HDZ HP2 HR1
    go_enter Tryd.func10, Tryd.ntmps10
    go_wp2_with (first | (with_reducible refine wpl_box (o := ⟨some 1, _, _, _, _, _⟩) rfl rfl rfl ?_))
    intro w2_ hb2_ hb_ hsz2_
    have HX_ := Lib.hid (at_mk hb2_ HTC.out.len)
    clear hb2_ hsz2_
    have HG_ := Lib.hid HB.out.size
    have HB_ := Lib.hid (HB.out.grow' hb_)
    clear HB
    have HB := HB_
    clear HB_
    generalize hg_ : w_.heap.size = g1 at HX_ HG_ ⊢
    clear hg_
    have HX_g := HG_
    clear HG_
    have HX := HX_
    clear hb_ HX_
    try clear w_
    rename World => w_
    go_wp2_with (first | (with_reducible refine wpl_loadb (o := ⟨_, .load _ _, _, _, _, _⟩) rfl rfl row_tx HX.out.blk rfl HX.out.len ?_) | (with_reducible refine wpl_loadw (o := ⟨_, .load _ _, _, _, _, _⟩) (by first | rfl | (go_simp; done) | fail) rfl row_tx HX.out.blk rfl HX.out.len ?_))
    refine (G1.out _ HB.out).mono ?_
    rintro e w_ ⟨rfl, hb_⟩
    have HB_ := Lib.hid (HB.out.grow' hb_)
    clear HB
    have HB := HB_
    clear HB_
    have HX_ := Lib.hid (HX.out.grow hb_)
    clear HX
    have HX := HX_
    clear HX_
    clear hb_
    clear G1
    go_wp2_with (first | (with_reducible refine wpl_loadb (o := ⟨_, .load _ _, _, _, _, _⟩) rfl rfl row_tx HX.out.blk rfl HX.out.len ?_) | (with_reducible refine wpl_loadw (o := ⟨_, .load _ _, _, _, _, _⟩) (by first | rfl | (go_simp; done) | fail) rfl row_tx HX.out.blk rfl HX.out.len ?_))
    refine (HK1.out _ HB.out).mono ?_
    rintro e w_ ⟨rfl, hb_⟩
    have HB_ := Lib.hid (HB.out.grow' hb_)
    clear HB
    have HB := HB_
    clear HB_
    have HX_ := Lib.hid (HX.out.grow hb_)
    clear HX
    have HX := HX_
    clear HX_
    clear hb_
    go_wp2_with (first | (with_reducible refine wpl_loadb (o := ⟨_, .load _ _, _, _, _, _⟩) rfl rfl row_tx HX.out.blk rfl HX.out.len ?_) | (with_reducible refine wpl_loadw (o := ⟨_, .load _ _, _, _, _, _⟩) (by first | rfl | (go_simp; done) | fail) rfl row_tx HX.out.blk rfl HX.out.len ?_))
    refine (HP1.out _ HB.out).mono ?_
    rintro e w2_ ⟨A5, c5, rfl, hs5, hc5, hb_⟩
    have HS5 := Lib.hid hs5
    clear hs5 hc5
    have hb_ := hb_
    clear hb_
    have HB_ := Lib.hid (HB.out.grow' hb_)
    clear HB
    have HB := HB_
    clear HB_
    have HX_ := Lib.hid (HX.out.grow hb_)
    clear HX
    have HX := HX_
    clear HX_
    clear hb_
    try clear w_
    rename World => w_
    go_wp2_with (first | (with_reducible refine wpl_loadb (o := ⟨_, .load _ _, _, _, _, _⟩) rfl rfl row_tx HX.out.blk rfl HX.out.len ?_) | (with_reducible refine wpl_loadw (o := ⟨_, .load _ _, _, _, _, _⟩) (by first | rfl | (go_simp; done) | fail) rfl row_tx HX.out.blk rfl HX.out.len ?_))
    refine (HK2.out _ HB.out).mono ?_
    rintro e w_ ⟨rfl, hb_⟩
    have HB_ := Lib.hid (HB.out.grow' hb_)
    clear HB
    have HB := HB_
    clear HB_
    have HX_ := Lib.hid (HX.out.grow hb_)
    clear HX
    have HX := HX_
    clear HX_
    have HS5_ := Lib.hid (HS5.out.grow hb_)
    clear HS5
    have HS5 := HS5_
    clear HS5_
    clear hb_
    go_wp2_with fail
    refine (tread_any _ HS5.out (by have := HLA.out; omega)).mono ?_
    rintro e w2_ ⟨A6, n6, c6, B6, m6, d6, l6, rfl, hi6, hl6, ho6, hb_⟩
    rw [HRT.out] at hl6 ho6 ⊢
    have HI6 := Lib.hid (show InsAt w2_ A6 n6 c6 l6 from hi6); have HO6 := Lib.hid (show OutsAt w2_ B6 m6 d6 ta.outs from ho6)
    have HSS := Lib.hid (HSU.out A6 n6 c6 B6 m6 d6 l6 hl6)
    have HS5_ := Lib.hid (HS5.out.grow hb_)
    clear hi6 hl6 ho6 HSU HS5
    have hb_ := hb_
    clear hb_
    have HB_ := Lib.hid (HB.out.grow' hb_)
    clear HB
    have HB := HB_
    clear HB_
    have HX_ := Lib.hid (HX.out.grow hb_)
    clear HX
    have HX := HX_
    clear HX_
    clear hb_
    try clear w_
    rename World => w_
    have HUC := Lib.hid (txV_cl (A := A6) (n := n6) (c := c6) (A2 := B6) (n2 := m6) (c2 := d6) (fee := ta.fee) (ex := ta.expiry))
    rw [show (txnOf (.ok ta)).fee = ta.fee from rfl, show (txnOf (.ok ta)).expiry = ta.expiry from rfl, show errOf (.ok ta : Except Nat Txn) = 0 from rfl]
    obtain ⟨uv, huv⟩ : ∃ q, q = txV A6 n6 c6 B6 m6 d6 ta.fee ta.expiry := ⟨_, rfl⟩
    rw [← huv] at HUC HSS ⊢
    clear huv
    go_wp2_with (first | (with_reducible refine wpl_alloc (o := ⟨some 6, _, _, _, _, _⟩) rfl rfl zero_tx ?_))
    intro w1_ hb1_ hbw1_ hsz1_
    have HB1_ := Lib.hid (at_mk hb1_ len_tx)
    have HBW1_ := Lib.hid hbw1_
    have HZ1_ := Lib.hid hsz1_
    clear hb1_ hbw1_ hsz1_
    go_wp2_with (first | (with_reducible refine wpl_storeb (o := ⟨none, .store _ _ _, _, _, _, _⟩) rfl rfl row_tx HB1_.out.blk rfl rfl HB1_.out.len HUC.out.len HUC.out.one ?_))
    intro w2_ hb2_ hg2_ hsz2_
    have hb_ := var_grow HBW1_.out HZ1_.out hg2_
    have HX_ := Lib.hid (at_mk hb2_ HUC.out.len)
    clear hb2_ hg2_ hsz2_ HB1_ HBW1_ HZ1_
    have HB_ := Lib.hid (HB.out.grow' hb_)
    clear HB
    have HB := HB_
    clear HB_
    have HX_ := Lib.hid (HX.out.grow hb_)
    clear HX
    have HX := HX_
    clear HX_
    have HS5__ := Lib.hid (HS5_.out.grow hb_)
    clear HS5_
    have HS5_ := HS5__
    clear HS5__
    have HI6_ := Lib.hid (HI6.out.grow hb_)
    clear HI6
    have HI6 := HI6_
    clear HI6_
    have HO6_ := Lib.hid (HO6.out.grow hb_)
    clear HO6
    have HO6 := HO6_
    clear HO6_
    generalize hg_ : w_.heap.size = g3 at HX_ ⊢
    clear hg_
    have HU := HX_
    clear hb_ HX_
    clear w1_
    try clear w_
    rename World => w_
    have q1 := HZA.out.eql_b HZA.out (d := true) (by simp)
    have HEQ : Hid (decide (xa = xa) = true) := Lib.hid (by simp)
    have HSB := Lib.hid (fun (A7 : Option Addr) (c7 : Nat) w h1 h2 => bytes1_any (A := A5) (n := la) (c := c5) (A2 := A7) (n2 := la) (c2 := c7) (xs := xa) (ys := xa) HEQ.out w h1 h2 (by have := HLA.out; omega))
    try go_wp2_with fail
    repeat' (first | (with_reducible refine wp_flow (id := 10) [0,0,2,7,15,31,63,31,255,511,1023,2047,4095,8191,4095,20479,65535,131071,262143,524287,1048575,2097151,4194303,8388607,8388607,33554431,67108863,134217727,268435455,536870911,1073741823] [0,0,3,3,0,0,3,0,3,0,0,0,0,3,0,0,0,0,0,0,0,0,0,0,0,3,0,0,3,0,0] (fun i => match i with | 2 => spB la xa | 3 => spV (.bool true) | 6 => spV (.agg za.toArray) | 8 => spV (.agg za.toArray) | 13 => spV (.int .i64 (la : Int)) | 25 => spV (.bool true) | 28 => spV (.bool true) | _ => spV undef) (by kernel_rfl) (by kernel_rfl) ?_) | go_values | go_skip | go_guarded | go_step | go_upon | go_back)
    intro w_ hd_
    have hb_ := hd_.grow
    have HB_ := Lib.hid (HB.out.grow' hb_)
    clear HB
    have HB := HB_
    clear HB_
    have HX_ := Lib.hid (HX.out.grow hb_)
    clear HX
    have HX := HX_
    clear HX_
    have HU_ := Lib.hid (HU.out.grow hb_)
    clear HU
    have HU := HU_
    clear HU_
    have HS5__ := Lib.hid (HS5_.out.grow hb_)
    clear HS5_
    have HS5_ := HS5__
    clear HS5__
    have HI6_ := Lib.hid (HI6.out.grow hb_)
    clear HI6
    have HI6 := HI6_
    clear HI6_
    have HO6_ := Lib.hid (HO6.out.grow hb_)
    clear HO6
    have HO6 := HO6_
    clear HO6_
    clear hb_ hd_
    show wpL _ _ _ _ _ _ _ [0,1,2,3,4,5,6,7,8,9,10,11,12,13,14,15,16,17,18,19,20,21,22,23,24,25,26,27,28,29,30] _ _
    repeat (first | (refine fl_loadb rfl (by decide) (by first | exact wanted_none rfl | (go_simp; done) | fail) rfl row_tx HX.out.blk (by first | rfl | (go_simp; done) | rfl) HX.out.len (fun K hK => ?_); go_simp; refine hK _ ?_; clear hK K) | (refine fl_loadb rfl (by decide) (by first | exact wanted_none rfl | (go_simp; done) | fail) rfl row_tx HU.out.blk (by first | rfl | (go_simp; done) | rfl) HU.out.len (fun K hK => ?_); go_simp; refine hK _ ?_; clear hK K) | (refine fl_skip rfl (by first | (go_simp; done) | fail) (fun K hK => ?_); go_simp; refine hK _ ?_; clear hK K) | (refine fl_calm rfl (by decide) (by first | exact wanted_none rfl | (go_simp; done) | fail) (fun w_ _ _ => by first | (go_simp; rfl) | (go_simp; done) | rfl) (fun K hK => ?_); go_simp; refine hK _ ?_; clear hK K))
    refine fl_calls rfl (by kernel_rfl) rfl (by first | exact wanted_none rfl | (go_simp; done) | fail) (fun w_ => by first | (go_simp; exact ⟨rfl, rfl⟩) | (go_simp; rfl) | (go_simp; exact ⟨⟨rfl, rfl, rfl⟩, rfl⟩)) (fun w2_ hg_ hL_ => ?_) (fun A7 c7 K hK => ?_)
    · skip
      replace HB := Lib.hid (HB.out.grow' hg_)
      exact (HPU.out _ HB.out).mono fun e w' ⟨A', c', h1, h2, h3, h4⟩ => ⟨A', c', h1, ⟨h2, h3⟩, h4⟩
    go_simp
    refine hK _ ?_
    clear hK K
    repeat (first | (refine fl_loadb rfl (by decide) (by first | exact wanted_none rfl | (go_simp; done) | fail) rfl row_tx HX.out.blk (by first | rfl | (go_simp; done) | rfl) HX.out.len (fun K hK => ?_); go_simp; refine hK _ ?_; clear hK K) | (refine fl_loadb rfl (by decide) (by first | exact wanted_none rfl | (go_simp; done) | fail) rfl row_tx HU.out.blk (by first | rfl | (go_simp; done) | rfl) HU.out.len (fun K hK => ?_); go_simp; refine hK _ ?_; clear hK K) | (refine fl_skip rfl (by first | (go_simp; done) | fail) (fun K hK => ?_); go_simp; refine hK _ ?_; clear hK K) | (refine fl_calm rfl (by decide) (by first | exact wanted_none rfl | (go_simp; done) | fail) (fun w_ _ _ => by first | (go_simp; rfl) | (go_simp; done) | rfl) (fun K hK => ?_); go_simp; refine hK _ ?_; clear hK K))
    refine fl_callv rfl (by kernel_rfl) rfl (by first | exact wanted_none rfl | (go_simp; done) | fail) (fun w_ => by first | (go_simp; exact ⟨rfl, rfl⟩) | (go_simp; rfl) | (go_simp; exact ⟨⟨rfl, rfl, rfl⟩, rfl⟩)) (fun w2_ hg_ hL_ => ?_) (fun K hK => ?_)
    · skip
      replace HS5_ := Lib.hid (HS5_.out.grow hg_)
      have HS7 := Lib.hid (flA.get (k := 0) hL_ rfl (by kernel_rfl))
      exact HSB.out A7 c7 _ HS5_.out HS7.out.1
    go_simp
    refine hK _ ?_
    clear hK K
    repeat (first | (refine fl_loadb rfl (by decide) (by first | exact wanted_none rfl | (go_simp; done) | fail) rfl row_tx HX.out.blk (by first | rfl | (go_simp; done) | rfl) HX.out.len (fun K hK => ?_); go_simp; refine hK _ ?_; clear hK K) | (refine fl_loadb rfl (by decide) (by first | exact wanted_none rfl | (go_simp; done) | fail) rfl row_tx HU.out.blk (by first | rfl | (go_simp; done) | rfl) HU.out.len (fun K hK => ?_); go_simp; refine hK _ ?_; clear hK K) | (refine fl_skip rfl (by first | (go_simp; done) | fail) (fun K hK => ?_); go_simp; refine hK _ ?_; clear hK K) | (refine fl_calm rfl (by decide) (by first | exact wanted_none rfl | (go_simp; done) | fail) (fun w_ _ _ => by first | (go_simp; rfl) | (go_simp; done) | rfl) (fun K hK => ?_); go_simp; refine hK _ ?_; clear hK K))
    refine fl_callv rfl (by kernel_rfl) rfl (by first | exact wanted_none rfl | (go_simp; done) | fail) (fun w_ => by first | (go_simp; exact ⟨rfl, rfl⟩) | (go_simp; rfl) | (go_simp; exact ⟨⟨rfl, rfl, rfl⟩, rfl⟩)) (fun w2_ hg_ hL_ => ?_) (fun K hK => ?_)
    · skip
      replace HB := Lib.hid (HB.out.grow' hg_)
      exact (HI1.out _ HB.out)
    go_simp
    refine hK _ ?_
    clear hK K
    repeat (first | (refine fl_loadb rfl (by decide) (by first | exact wanted_none rfl | (go_simp; done) | fail) rfl row_tx HX.out.blk (by first | rfl | (go_simp; done) | rfl) HX.out.len (fun K hK => ?_); go_simp; refine hK _ ?_; clear hK K) | (refine fl_loadb rfl (by decide) (by first | exact wanted_none rfl | (go_simp; done) | fail) rfl row_tx HU.out.blk (by first | rfl | (go_simp; done) | rfl) HU.out.len (fun K hK => ?_); go_simp; refine hK _ ?_; clear hK K) | (refine fl_skip rfl (by first | (go_simp; done) | fail) (fun K hK => ?_); go_simp; refine hK _ ?_; clear hK K) | (refine fl_calm rfl (by decide) (by first | exact wanted_none rfl | (go_simp; done) | fail) (fun w_ _ _ => by first | (go_simp; rfl) | (go_simp; done) | rfl) (fun K hK => ?_); go_simp; refine hK _ ?_; clear hK K))
    refine fl_callv rfl (by kernel_rfl) rfl (by first | exact wanted_none rfl | (go_simp; done) | fail) (fun w_ => by first | (go_simp; exact ⟨rfl, rfl⟩) | (go_simp; rfl) | (go_simp; exact ⟨⟨rfl, rfl, rfl⟩, rfl⟩)) (fun w2_ hg_ hL_ => ?_) (fun K hK => ?_)
    · skip
      replace HB := Lib.hid (HB.out.grow' hg_)
      exact (HRI.out _ HB.out)
    go_simp
    refine hK _ ?_
    clear hK K
    repeat (first | (refine fl_loadb rfl (by decide) (by first | exact wanted_none rfl | (go_simp; done) | fail) rfl row_tx HX.out.blk (by first | rfl | (go_simp; done) | rfl) HX.out.len (fun K hK => ?_); go_simp; refine hK _ ?_; clear hK K) | (refine fl_loadb rfl (by decide) (by first | exact wanted_none rfl | (go_simp; done) | fail) rfl row_tx HU.out.blk (by first | rfl | (go_simp; done) | rfl) HU.out.len (fun K hK => ?_); go_simp; refine hK _ ?_; clear hK K) | (refine fl_skip rfl (by first | (go_simp; done) | fail) (fun K hK => ?_); go_simp; refine hK _ ?_; clear hK K) | (refine fl_calm rfl (by decide) (by first | exact wanted_none rfl | (go_simp; done) | fail) (fun w_ _ _ => by first | (go_simp; rfl) | (go_simp; done) | rfl) (fun K hK => ?_); go_simp; refine hK _ ?_; clear hK K))
    refine fl_callv rfl (by kernel_rfl) rfl (by first | exact wanted_none rfl | (go_simp; done) | fail) (fun w_ => by first | (go_simp; exact ⟨rfl, rfl⟩) | (go_simp; rfl) | (go_simp; exact ⟨⟨rfl, rfl, rfl⟩, rfl⟩)) (fun w2_ hg_ hL_ => ?_) (fun K hK => ?_)
    · skip
      replace HB := Lib.hid (HB.out.grow' hg_)
      exact (HZ1.out _ HB.out)
    go_simp
    refine hK _ ?_
    clear hK K
    repeat (first | (refine fl_loadb rfl (by decide) (by first | exact wanted_none rfl | (go_simp; done) | fail) rfl row_tx HX.out.blk (by first | rfl | (go_simp; done) | rfl) HX.out.len (fun K hK => ?_); go_simp; refine hK _ ?_; clear hK K) | (refine fl_loadb rfl (by decide) (by first | exact wanted_none rfl | (go_simp; done) | fail) rfl row_tx HU.out.blk (by first | rfl | (go_simp; done) | rfl) HU.out.len (fun K hK => ?_); go_simp; refine hK _ ?_; clear hK K) | (refine fl_skip rfl (by first | (go_simp; done) | fail) (fun K hK => ?_); go_simp; refine hK _ ?_; clear hK K) | (refine fl_calm rfl (by decide) (by first | exact wanted_none rfl | (go_simp; done) | fail) (fun w_ _ _ => by first | (go_simp; rfl) | (go_simp; done) | rfl) (fun K hK => ?_); go_simp; refine hK _ ?_; clear hK K))
    refine fl_callv rfl (by kernel_rfl) rfl (by first | exact wanted_none rfl | (go_simp; done) | fail) (fun w_ => by first | (go_simp; exact ⟨rfl, rfl⟩) | (go_simp; rfl) | (go_simp; exact ⟨⟨rfl, rfl, rfl⟩, rfl⟩)) (fun w2_ hg_ hL_ => ?_) (fun K hK => ?_)
    · skip
      replace HI6 := Lib.hid (HI6.out.grow hg_)
      replace HO6 := Lib.hid (HO6.out.grow hg_)
      replace HB := Lib.hid (HB.out.grow' hg_)
      exact (HSS.out _ HI6.out HO6.out HB.out)
    go_simp
    refine hK _ ?_
    clear hK K
    repeat (first | (refine fl_loadb rfl (by decide) (by first | exact wanted_none rfl | (go_simp; done) | fail) rfl row_tx HX.out.blk (by first | rfl | (go_simp; done) | rfl) HX.out.len (fun K hK => ?_); go_simp; refine hK _ ?_; clear hK K) | (refine fl_loadb rfl (by decide) (by first | exact wanted_none rfl | (go_simp; done) | fail) rfl row_tx HU.out.blk (by first | rfl | (go_simp; done) | rfl) HU.out.len (fun K hK => ?_); go_simp; refine hK _ ?_; clear hK K) | (refine fl_skip rfl (by first | (go_simp; done) | fail) (fun K hK => ?_); go_simp; refine hK _ ?_; clear hK K) | (refine fl_calm rfl (by decide) (by first | exact wanted_none rfl | (go_simp; done) | fail) (fun w_ _ _ => by first | (go_simp; rfl) | (go_simp; done) | rfl) (fun K hK => ?_); go_simp; refine hK _ ?_; clear hK K))
    refine fl_callv rfl (by kernel_rfl) rfl (by first | exact wanted_none rfl | (go_simp; done) | fail) (fun w_ => by first | (go_simp; exact ⟨rfl, rfl⟩) | (go_simp; rfl) | (go_simp; exact ⟨⟨rfl, rfl, rfl⟩, rfl⟩)) (fun w2_ hg_ hL_ => ?_) (fun K hK => ?_)
    · skip
      exact awake7_any _
    go_simp
    refine hK _ ?_
    clear hK K
    repeat (first | (refine fl_loadb rfl (by decide) (by first | exact wanted_none rfl | (go_simp; done) | fail) rfl row_tx HX.out.blk (by first | rfl | (go_simp; done) | rfl) HX.out.len (fun K hK => ?_); go_simp; refine hK _ ?_; clear hK K) | (refine fl_loadb rfl (by decide) (by first | exact wanted_none rfl | (go_simp; done) | fail) rfl row_tx HU.out.blk (by first | rfl | (go_simp; done) | rfl) HU.out.len (fun K hK => ?_); go_simp; refine hK _ ?_; clear hK K) | (refine fl_skip rfl (by first | (go_simp; done) | fail) (fun K hK => ?_); go_simp; refine hK _ ?_; clear hK K) | (refine fl_calm rfl (by decide) (by first | exact wanted_none rfl | (go_simp; done) | fail) (fun w_ _ _ => by first | (go_simp; rfl) | (go_simp; done) | rfl) (fun K hK => ?_); go_simp; refine hK _ ?_; clear hK K))
    refine fl_done ?_
    intro w2_ hg_ hL_
    replace HB := Lib.hid (HB.out.grow' hg_)
    replace HX := Lib.hid (HX.out.grow hg_)
    clear hg_ hL_
    try clear w_
    rename World => w_
    go_wp2_with fail
    go_ret
    exact ⟨rfl, HB.out⟩
  · obtain ⟨e1, e2⟩ := HDZ.out hc1
    rw [e2] at HP1 HZ1
    rw [e1] at HZA
    have q1 := HZA.out.eql_b HZZ.out (d := true) (by simp)
    have z1 : (ca != 0) = true := by simp [hc1]
    have z2 : (ca == 0) = false := by simp [hc1]
    have z3 : decide (ca = 0) = false := by simp [hc1]
    clear e1 e2 HD0 HDZ HP2 HR1 HSU
    go_enter Tryd.func10, Tryd.ntmps10
    go_wp2_with (first | (with_reducible refine wpl_box (o := ⟨some 1, _, _, _, _, _⟩) rfl rfl rfl ?_))
    intro w2_ hb2_ hb_ hsz2_
    have HX_ := Lib.hid (at_mk hb2_ HTC.out.len)
    clear hb2_ hsz2_
    have HG_ := Lib.hid HB.out.size
    have HB_ := Lib.hid (HB.out.grow' hb_)
    clear HB
    have HB := HB_
    clear HB_
    generalize hg_ : w_.heap.size = g1 at HX_ HG_ ⊢
    clear hg_
    have HX_g := HG_
    clear HG_
    have HX := HX_
    clear hb_ HX_
    try clear w_
    rename World => w_
    go_wp2_with (first | (with_reducible refine wpl_loadb (o := ⟨_, .load _ _, _, _, _, _⟩) rfl rfl row_tx HX.out.blk rfl HX.out.len ?_) | (with_reducible refine wpl_loadw (o := ⟨_, .load _ _, _, _, _, _⟩) (by first | rfl | (go_simp; done) | fail) rfl row_tx HX.out.blk rfl HX.out.len ?_))
    refine (G1.out _ HB.out).mono ?_
    rintro e w_ ⟨rfl, hb_⟩
    have HB_ := Lib.hid (HB.out.grow' hb_)
    clear HB
    have HB := HB_
    clear HB_
    have HX_ := Lib.hid (HX.out.grow hb_)
    clear HX
    have HX := HX_
    clear HX_
    clear hb_
    clear G1
    go_wp2_with (first | (with_reducible refine wpl_loadb (o := ⟨_, .load _ _, _, _, _, _⟩) rfl rfl row_tx HX.out.blk rfl HX.out.len ?_) | (with_reducible refine wpl_loadw (o := ⟨_, .load _ _, _, _, _, _⟩) (by first | rfl | (go_simp; done) | fail) rfl row_tx HX.out.blk rfl HX.out.len ?_))
    refine (HK1.out _ HB.out).mono ?_
    rintro e w_ ⟨rfl, hb_⟩
    have HB_ := Lib.hid (HB.out.grow' hb_)
    clear HB
    have HB := HB_
    clear HB_
    have HX_ := Lib.hid (HX.out.grow hb_)
    clear HX
    have HX := HX_
    clear HX_
    clear hb_
    go_wp2_with (first | (with_reducible refine wpl_loadb (o := ⟨_, .load _ _, _, _, _, _⟩) rfl rfl row_tx HX.out.blk rfl HX.out.len ?_) | (with_reducible refine wpl_loadw (o := ⟨_, .load _ _, _, _, _, _⟩) (by first | rfl | (go_simp; done) | fail) rfl row_tx HX.out.blk rfl HX.out.len ?_))
    refine (HP1.out _ HB.out).mono ?_
    rintro e w2_ ⟨A5, c5, rfl, hs5, hc5, hb_⟩
    clear hs5 hc5
    have hb_ := hb_
    clear hb_
    have HB_ := Lib.hid (HB.out.grow' hb_)
    clear HB
    have HB := HB_
    clear HB_
    have HX_ := Lib.hid (HX.out.grow hb_)
    clear HX
    have HX := HX_
    clear HX_
    clear hb_
    try clear w_
    rename World => w_
    go_wp2_with (first | (with_reducible refine wpl_loadb (o := ⟨_, .load _ _, _, _, _, _⟩) rfl rfl row_tx HX.out.blk rfl HX.out.len ?_) | (with_reducible refine wpl_loadw (o := ⟨_, .load _ _, _, _, _, _⟩) (by first | rfl | (go_simp; done) | fail) rfl row_tx HX.out.blk rfl HX.out.len ?_))
    refine (HK2.out _ HB.out).mono ?_
    rintro e w_ ⟨rfl, hb_⟩
    have HB_ := Lib.hid (HB.out.grow' hb_)
    clear HB
    have HB := HB_
    clear HB_
    have HX_ := Lib.hid (HX.out.grow hb_)
    clear HX
    have HX := HX_
    clear HX_
    clear hb_
    go_wp2_with (first | (with_reducible refine wpl_loadb (o := ⟨_, .load _ _, _, _, _, _⟩) rfl rfl row_tx HX.out.blk rfl HX.out.len ?_) | (with_reducible refine wpl_loadw (o := ⟨_, .load _ _, _, _, _, _⟩) (by first | rfl | (go_simp; done) | fail) rfl row_tx HX.out.blk rfl HX.out.len ?_))
    refine (HI1.out _ HB.out).mono ?_
    rintro e w_ ⟨rfl, hb_⟩
    have HB_ := Lib.hid (HB.out.grow' hb_)
    clear HB
    have HB := HB_
    clear HB_
    have HX_ := Lib.hid (HX.out.grow hb_)
    clear HX
    have HX := HX_
    clear HX_
    clear hb_
    go_wp2_with (first | (with_reducible refine wpl_stop (o := ⟨some 36, _, _, _, _, _⟩) ?_))
    refine stop_go ?_
    refine wpl_buildg (by first | rfl | (go_simp; done)) rfl BZ.out ?_
    go_wp2_with (first | (with_reducible refine wpl_loadb (o := ⟨_, .load _ _, _, _, _, _⟩) rfl rfl row_tx HX.out.blk rfl HX.out.len ?_) | (with_reducible refine wpl_loadw (o := ⟨_, .load _ _, _, _, _, _⟩) (by first | rfl | (go_simp; done) | fail) rfl row_tx HX.out.blk rfl HX.out.len ?_))
    refine (HZ1.out _ HB.out).mono ?_
    rintro e w_ ⟨rfl, hb_⟩
    have HB_ := Lib.hid (HB.out.grow' hb_)
    clear HB
    have HB := HB_
    clear HB_
    have HX_ := Lib.hid (HX.out.grow hb_)
    clear HX
    have HX := HX_
    clear HX_
    clear hb_
    go_wp2_with fail
    refine (awake7_any _).mono ?_
    rintro e w_ ⟨rfl, hb_⟩
    have HB_ := Lib.hid (HB.out.grow' hb_)
    clear HB
    have HB := HB_
    clear HB_
    clear hb_
    go_wp2_with fail
    go_ret
    exact ⟨rfl, HB.out⟩
end Go.Proofs.YtphmefhnffoafaaDoor

/- The given card TxFormsCardSaid, out of the walk txForms_walk: for every input the law returns true, and each argument reads as it did; the tables of package sha are tied to the program's text. No condition. -/
namespace Go.Proofs.YtphmefhnffoafaaDoor.lawTxForms
open Go.ChangeShapes Go.WideShapes Go.ChangeAt Go.RowKit
open Go.ChangeMaps (open_string shut_string)
set_option linter.unusedVariables false

theorem laidOut : laidOutB Tryd.prog = true := laid_out
set_option maxRecDepth 100000 in
theorem contract (H : Type) (enc : TypeId × Value → H) (W : World) (base : Nat) (args : Array Value) (ds gs : List (DataW H)) (before : List MemPlace)
    (hval0 : ∀ (j : Nat) t v, Tryd.f10.params[j]? = some t → args[j]? = some v → Value.okWide Tryd.prog W .any base t v)
    (hW : DataW.Whole enc Tryd.prog Tryd.f10.params.toList Rows.txFormsSpec.vars false W args.toList ds gs before) (hL : laidMetH Tryd.prog Rows.txFormsRow.laid W) :
    Calls Tryd.prog 10 args W fun e W' => ∃ v, e = .returned v ∧ Rows.txFormsSpec.post enc Tryd.prog Tryd.f10 false true false false W args v W' := by
  have hval : ∀ (j : Nat) t v, Tryd.f10.params[j]? = some t → args[j]? = some v → Value.okWide Tryd.prog W .any base t v := hval0
  have hW' := hW
  obtain ⟨p, q, hA0, hV, rfl, hfz, hnd⟩ := hW
  have hA : DataW.TrodAll enc Tryd.prog W 0 (fun _ => true) true Tryd.f10.params.toList args.toList ds p := hA0
  rw [Tryd.params10] at hA hval
  obtain ⟨v0, vs0, d0, ds0, p0, q0, hargs, rfl, rfl, h0, r0⟩ := trodAll_cons hA
  obtain ⟨rfl, rfl, rfl⟩ := trodAll_nil r0
  obtain rfl : args = #[v0] := by cases args; simp_all
  obtain ⟨rfl, rfl⟩ := trodVars_none hV
  have k0 := h0
  have lt0 : ∀ x ∈ p0, x.block < W.heap.size := by obtain ⟨m, hm⟩ := k0; exact DataW.trod_lt m _ _ _ hm
  obtain ⟨x0_0, x0_1, x0_2, x0_3, x0_4, x0_5, x0_6, x0_7, x0_8, x0_9, rfl, f0_0, f0_1, f0_2, f0_3, f0_4, f0_5⟩ := open_tx (hval 0 50 v0 rfl rfl) h0
  have htabs : Tabs W := tabs_of hL
  clear hA0 hval0 hL
  refine (txForms_walk x0_0 x0_1 x0_2 x0_3 x0_4 x0_5 x0_6 x0_7 x0_8 x0_9 W f0_0 f0_1 f0_2 f0_3 f0_4 f0_5 htabs).mono fun e W' ⟨he, bel⟩ => ?_
  subst he
  exact ⟨_, rfl, _, _, _, [], _, [], hW', trodAll_mk1 (shut_bool Tryd.underlying4 _), (trodAll_cons_mk (Below.trod laidOut (by kernel_rfl) (of_decide_eq_true (by kernel_rfl)) k0 bel lt0) trodAll_mk0), rfl, bel.frame _, fun h => by cases h⟩

theorem laid_met (os : Os) : laidMet Tryd.prog Rows.txFormsRow.laid ((laidWorld os).forCall (fun _ _ => 0) ⟨#[], #[.agg (txV none 0 0 none 0 0 0 0).toArray], []⟩).memory :=
  laidMet_of_run' 8 (by kernel_rfl) (by kernel_rfl)
theorem reads (os : Os) {H : Type} (enc : TypeId × Value → H) : ∃ ds places, DataW.whole enc Tryd.prog ((laidWorld os).forCall (fun _ _ => 0) ⟨#[], #[.agg (txV none 0 0 none 0 0 0 0).toArray], []⟩).memory Tryd.f10.params.toList Rows.txFormsSpec.vars false #[.agg (txV none 0 0 none 0 0 0 0).toArray].toList 8 = some (ds, [], places) := by
  obtain ⟨⟨ds, gs, pl⟩, h, e⟩ := Option.map_eq_some_iff.1 (show (DataW.whole enc Tryd.prog ((laidWorld os).forCall (fun _ _ => 0) ⟨#[], #[.agg (txV none 0 0 none 0 0 0 0).toArray], []⟩).memory Tryd.f10.params.toList Rows.txFormsSpec.vars false #[.agg (txV none 0 0 none 0 0 0 0).toArray].toList 8).map (fun x => x.2.1) = some [] by kernel_rfl)
  simp only at e
  subst e
  exact ⟨ds, pl, h⟩

set_option maxRecDepth 100000 in
theorem lifted (os : Os) (started : os.Started) (H : Type) (enc : TypeId × Value → H) (F : Stop.Interp) :
    ReturnsInHanded {} Tryd.checked os 10 .any ((OpenSpec.ofChange Rows.txFormsSpec).preRow enc Tryd.prog Tryd.f10 Rows.txFormsRow.domain false Rows.txFormsRow.laid) (((OpenSpec.ofChange Rows.txFormsSpec).at F).post enc Tryd.prog Tryd.f10 false true false false) := by
  obtain ⟨ds, places, hx⟩ := reads os enc
  refine returnsInHanded_of_row (C := Tryd.checked) (s := OpenSpec.ofChange Rows.txFormsSpec) own_knob started (by kernel_rfl) Tryd.func10
    (witness_row_at (enc := enc) (C := Tryd.checked) false (laidWorld os) #[.agg (txV none 0 0 none 0 0 0 0).toArray] rfl (by kernel_rfl) (by kernel_rfl) (by kernel_rfl)
      (OpenSpec.preRow_of_cond 8 hx (by kernel_rfl) (fun k hk => by cases hk) (by kernel_rfl) (laid_met os))) ?_
  intro W base args ds gs before hval hW _ _ _ hL _ _
  exact contract H enc W base args ds gs before hval hW hL

theorem said : Rows.TxFormsSaid :=
  OpenClaim.holds_of_cond 10 Tryd.f10 rfl rfl rfl rfl rfl rfl rfl ⟨rfl, rfl, rfl, rfl, rfl⟩ rfl rfl rfl rfl rfl (by kernel_rfl) Tryd.func10 (by kernel_rfl)
    (of_decide_eq_true (by kernel_rfl)) (by unfold Func.isWrapper; first | (rw [if_pos (by decide +kernel)]; kernel_rfl) | (rw [if_neg (by decide +kernel)]; exact ⟨rfl, rfl⟩))
    (fun os started H enc _ F => by rw [OpenClaim.pre_eq_preRow]; exact lifted os started H enc F)

theorem plain (f : FuncId) (fn : Func) (hf : Tryd.pinned.checked.prog.funcNamed "seisin/seisinlaw07.TxForms" = some f) (hfn : Tryd.pinned.checked.prog.funcs[f]? = some fn) :
    true = Tryd.pinned.checked.prog.looks [] ∧ ∀ (j : Nat) t, fn.params[j]? = some t → Tryd.pinned.checked.prog.wantsStandIn t = false := by
  obtain rfl : f = 10 := Option.some.inj ((show Tryd.prog.funcNamed "seisin/seisinlaw07.TxForms" = some 10 by kernel_rfl).symm.trans hf) |>.symm
  obtain rfl : fn = Tryd.f10 := (Option.some.inj (Tryd.func10.symm.trans hfn)).symm
  refine ⟨by kernel_rfl, fun j t ht => ?_⟩
  rw [Tryd.params10] at ht
  have hm : t ∈ [50] := by simpa using Array.mem_of_getElem? ht
  have hall : ([50].all fun u => !Tryd.prog.wantsStandIn u) = true := by kernel_rfl
  exact (show Tryd.prog.wantsStandIn t = false by simpa using List.all_eq_true.1 hall t hm)

theorem proved : Rows.TxFormsCardSaid :=
  Claim7.holds_tied_plain_at .later [] _ _ _ _ said (fun _ h => by cases h) (by kernel_rfl) (fun _ h => by cases h) txForms_row_tie rfl ⟨rfl, rfl⟩ (by kernel_rfl) rfl plain (by kernel_rfl)
#print axioms proved
end Go.Proofs.YtphmefhnffoafaaDoor.lawTxForms

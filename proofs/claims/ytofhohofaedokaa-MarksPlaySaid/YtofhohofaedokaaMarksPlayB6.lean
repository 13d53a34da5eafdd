/- slices.SortedFunc(seq, compare), against whatever iterator value; what a map's key is. Printed by mkkeys.py. -/
import Derived.Test.YtofhohofaedokaaMarksPlayB5
import Derived.Test.YtofhohofaedokaaMarksPlayB3
import Derived.Test.YtofhohofaedokaaMarksPlayB4
import Derived.Test.YtofhohofaedokaaMarksPlayB2
import Derived.Test.YtofhohofaedokaaRows
import Derived.Deep.QuietTactic
import Derived.BigQuiet
import Derived.StillTailTactics
set_option linter.unusedSimpArgs false
/- slices.SortedFunc(seq, compare), against whatever iterator value; what a map's key is. Printed by mkkeys.py. -/
namespace Go.Proofs.Ytofhohofaedokaa
open Go.RowKit Go.Maps Go.Sort Go.Shelf
set_option linter.unusedVariables false
noncomputable def decK (v : Value) : KeyS := Classical.epsilon fun p => encKV p = v
theorem decK_enc (p : KeyS) : decK (encKV p) = p := encKV_inj (Classical.epsilon_spec (p := fun q => encKV q = encKV p) ⟨p, rfl⟩)
noncomputable def dkK (en : MapEntry) : KeyS := decK en.key
theorem sortK_eq {a b : List KeyS} (h : a.Perm b) : sortK a = sortK b := by
  have tr : ∀ x y z : KeyS, (!(ltOf cfKey) y x) = true → (!(ltOf cfKey) z y) = true → (!(ltOf cfKey) z x) = true := fun x y z h1 h2 => by
    simp only [Bool.not_eq_true'] at *
    exact swo_key.ntrans z y x h2 h1
  have to : ∀ x y : KeyS, ((!(ltOf cfKey) y x) || (!(ltOf cfKey) x y)) = true := fun x y => by
    by_cases hc : ltOf cfKey y x = true
    · have : ltOf cfKey x y = false := by
        cases hh : ltOf cfKey x y with
        | false => rfl
        | true => have := swo_key.trans y x y hc hh; rw [swo_key.irrefl] at this; cases this
      simp [hc, this]
    · simp [Bool.not_eq_true _ ▸ hc]
  unfold sortK
  refine List.Perm.eq_of_pairwise (le := fun x y => (!(ltOf cfKey) y x) = true) (fun x y _ _ h1 h2 => ?_) (List.pairwise_mergeSort tr to a) (List.pairwise_mergeSort tr to b) (((List.mergeSort_perm a _).trans h).trans (List.mergeSort_perm b _).symm)
  simp only [Bool.not_eq_true'] at h1 h2
  exact tot_key x y h2 h1
set_option maxRecDepth 100000 in
set_option maxHeartbeats 1000000 in
theorem sfdK_any (g : Nat) (lb : Array Value) (eg : ∀ args w, (callFunc g args).run Try.prog w = .ok (.enter g args) w)
    (S : List KeyS → Prop) (N : Nat) (hN : N ≤ 1000000) (w : World) (hseq : SeqGives Fence.wide 1 Try.prog g lb encKV S N w) :
    Calls Try.prog 37 #[.func (.func g) #[] lb, .func (.func 39) #[] #[]] w fun e w' => ∃ (v : Value) (ss : List KeyS), e = .returned v ∧ S ss ∧ w'.ownsRow w.heap.size 64 33 v ss.length ((sortK ss).flatMap encKey) ∧ (v = .slice none 0 0 ↔ ss = []) ∧ Below w.heap.size w w' := by
  have h1 := callsIn_wide.1 (colk_in Fence.wide 3 trivial trivial rfl (by omega) g lb trivial eg _ N hN w hseq.bounded)
  have HH := Lib.hid h1
  clear h1 hseq
  go_enter Try.func37, Try.ntmps37
  go_wp2_with fail
  refine HH.out.mono ?_
  rintro e w1 ⟨v, ss, rfl, ⟨hS, hlen⟩, hrow, hnil, hb⟩
  have HROW := Lib.hid hrow; have HNIL := Lib.hid hnil; have HB := Lib.hid hb; have HS := Lib.hid hS
  rcases hrow.2 with ⟨rfl, hz⟩ | ⟨gb, cap, cur, rfl, hbase, hgb, r1, r2, r3, r4⟩
  · have hss : ss = [] := List.eq_nil_of_length_eq_zero hz
    subst hss
    clear hrow hnil hb hS hz hlen
    go_wp2_with fail
    refine (sort_key_none none 0 _ w1).mono ?_
    rintro e w2 ⟨rfl, rfl⟩
    go_wp2_with fail
    go_ret
    exact ⟨.slice none 0 0, [], rfl, HS.out, by have := HROW.out; simpa [sortK] using this, by simp, HB.out⟩
  · have HBS := Lib.hid hbase
    have HSO := Lib.hid (sort_key w1 (by omega) HROW.out)
    clear hrow hnil hb hS hbase hgb r1 r2 r3 r4 hlen
    obtain ⟨k, hk⟩ : ∃ k, k = ss.length := ⟨_, rfl⟩
    rw [← hk] at HSO ⊢
    have HKL := Lib.hid hk
    clear hk
    go_wp2_with fail
    refine HSO.out.mono ?_
    rintro e w2 ⟨rfl, hr2, hg2⟩
    have HR2 := Lib.hid hr2; have HG2 := Lib.hid hg2
    clear hr2 hg2
    go_wp2_with fail
    go_ret
    refine ⟨_, ss, rfl, HS.out, ?_, ?_, HB.out.grown HG2.out HB.out.size (fun j hj => by cases hj; exact HBS.out)⟩
    · have := HR2.out; rw [HKL.out] at this ⊢; exact this
    · have := HNIL.out; rw [HKL.out]; exact this
end Go.Proofs.Ytofhohofaedokaa

/- maps.Keys over a map from keys to marks: the iterator's value gives the keys, each once, in some order. Printed by mkkeys.py. -/
namespace Go.Proofs.Ytofhohofaedokaa
open Go.RowKit Go.Maps Go.Sort Go.Shelf
set_option linter.unusedVariables false
set_option maxRecDepth 100000 in
set_option maxHeartbeats 2000000 in
theorem kkM1_in (F : Fence) (n : Nat) (h10 : F.fn 54) (hro : F.round = none) (hn : 1 ≤ n) (l Bm b clock : Nat) (es : Array MapEntry) (hE : ∀ en ∈ es.toList, ∃ p : KeyS, en.key = encKV p) (hk : MapOK Try.prog 64 es clock) (J : List KeyS → World → Prop)
    (hY : ∀ pre x W, J pre W → pre.length < es.size → YieldAt F (n - 1) Try.prog l #[encKV x] W fun e W' => e = .returned (.bool true) ∧ J (pre ++ [x]) W' ∧ KeepsWalks W W')
    (W : World) (hJ : AbidesFrom W.heap.size J) (hm : W.cell? ⟨Bm, 0, none⟩ = some (.map (some b))) (hb : W.heap[b]? = some (.map es clock)) (h0 : J [] W) :
    CallsIn F n Try.prog 54 #[.func (.yield l) #[] #[], .pointer (some ⟨Bm, 0, none⟩)] W fun e W' => (∃ v, e = .returned v) ∧ ∃ ss : List KeyS, ss.Perm (es.toList.map dkK) ∧ J ss W' := by
  have HK := Lib.hid hk; have HE := Lib.hid hE; have HY := Lib.hid hY; have HJ := Lib.hid hJ; have HZL := Lib.hid (show (encKey default).length = 33 from encKey_len default)
  clear hk hE hY hJ
  obtain ⟨sz, hsz⟩ : ∃ sz, sz = W.heap.size := ⟨_, rfl⟩
  have HSZ := Lib.hid hsz
  clear hsz
  refine callsIn_of_wp Try.func54 rfl h10 ?_ hro
  simp only [Try.ntmps54, List.size_toArray, List.length_cons, List.length_nil, Nat.reduceAdd, Nat.reduceSub, Array.replicate_succ, Array.replicate_zero, List.push_toArray, List.append_toArray, List.nil_append, List.cons_append]
  gi_wp2_with (first
    | (gi_at_range; refine wpi_range (o := ⟨some 5, _, _, _, _, _⟩) _ rfl rfl Try.underlying58 rfl hb HK.out ?_; intro w0 hrg0 hg0 hs0)
    | gi_in)
  rw [← HSZ.out] at hrg0 ⊢
  have hJ0 : J [] w0 := HJ.out [] W w0 none h0 hg0 (fun r e => by cases e)
  clear h0 hg0 hs0
  have HR0 := Lib.hid hrg0; have HJ0 := Lib.hid hJ0
  clear hrg0 hJ0 hb hm
  go_frame
  gi_loopw [3] (fun _ wr => ∃ vs, Hid (ItAt wr b sz es clock vs ∧ J (vs.map dkK) wr)) (fun _ wr => itLeft wr b sz)
  case atStart => exact ⟨[], Lib.hid ⟨HR0.out, HJ0.out⟩⟩
  case round =>
    obtain ⟨vs, HREL⟩ := hrel
    gi_wp2_with (first
      | (gi_at_next; refine wpi_next (o := ⟨some 6, _, _, _, _, _⟩) _ rfl rfl rfl HREL.out.1 HK.out ?_ ?_)
      | gi_in)
    · intro hperm
      have HP := Lib.hid hperm
      clear hperm
      gi_wp2
      go_end0
      exact ⟨⟨_, rfl⟩, _, HP.out.map _, HREL.out.2⟩
    · intro en w2 hen hit2 hlt hg2 hs2 hent
      obtain ⟨x, hx⟩ := HE.out en (Array.mem_toList_iff.2 hen)
      have hdk : dkK en = x := by unfold dkK; rw [hx, decK_enc]
      have hJ2 : J (vs.map dkK) w2 := HJ.out _ wr w2 (some sz) HREL.out.2 hg2 (fun r e => by cases e; exact ⟨Nat.le_of_eq HSZ.out.symm, HREL.out.1.walk⟩)
      have HI2 := Lib.hid hit2; have HJ2 := Lib.hid hJ2; have HD := Lib.hid hdk; have HLT := Lib.hid hlt
      have hlen := HI2.out.left_eq
      have hlen0 := HREL.out.1.left_eq
      have HM := Lib.hid (show itLeft w2 b sz < itLeft wr b sz by rw [hlen, hlen0]; simp only [List.length_append, List.length_singleton]; omega)
      rw [hx] at hent
      unfold encKV at hent hx
      have HX := Lib.hid hx; have HLX := Lib.hid (encKey_len x); have HOX := Lib.hid (encKey_one x)
      obtain ⟨xs, hxs⟩ : ∃ xs, xs = encKey x := ⟨_, rfl⟩
      have HXE := Lib.hid hxs
      rw [← hxs] at hent HLX HOX HX
      rw [HX.out]
      clear hen hit2 hg2 hs2 hx hdk hJ2 hlen hlen0 hlt hxs
      gi_wp2_with (first | (with_reducible refine wpi_alloc (o := ⟨some 3, _, _, _, _, _⟩) rfl rfl zero_key ?_) | gi_in)
      intro V1 hb1 hV1
      have HB1 := Lib.hid hb1
      have HG1 := Lib.hid (show w2.grownBy V1 none by rw [hV1]; exact World.grownBy_alloc _ _ none)
      have HK1 := Lib.hid (show KeepsWalks w2 V1 by rw [hV1]; exact KeepsWalks.alloc _ _)
      clear hb1 hV1 hent
      obtain ⟨gv, hgv⟩ : ∃ g, g = w2.heap.size := ⟨_, rfl⟩
      rw [← hgv] at HB1 ⊢
      have HGV := Lib.hid hgv
      clear hgv
      gi_wp2_with (first | (with_reducible refine wpi_storeb (o := ⟨none, .store _ _ _, _, _, _, _⟩) rfl rfl row_mkey HB1.out rfl rfl HZL.out HLX.out HOX.out ?_) | gi_in)
      intro V2 hb2 hg2 hsz2
      have HB2 := Lib.hid hb2
      have HG2 := Lib.hid (show w2.grownBy V2 none from grownBy_drop (grownBy_trans0 (grownBy_up HG1.out) hg2) (Nat.le_of_eq HGV.out.symm))
      have HK2 := Lib.hid (show KeepsWalks w2 V2 from HK1.out.trans (KeepsWalks.of_grownBy hg2 (fun j o hj ho => by cases hj; rw [HB1.out] at ho; cases ho; rfl)))
      clear hb2 hg2 hsz2 HB1 HG1 HK1
      have HJ3 := Lib.hid (show J (vs.map dkK) V2 from HJ.out _ w2 V2 none HJ2.out HG2.out (fun r e => by cases e))
      have HI3 := Lib.hid (HI2.out.of_walks HK2.out)
      have hpl : (vs.map dkK).length < es.size := by rw [List.length_map]; exact HLT.out
      obtain ⟨fn, tmps, assign, body, hy, hR⟩ := HY.out (vs.map dkK) x V2 HJ3.out hpl
      unfold encKV at hy
      rw [← HXE.out] at hy
      clear hpl
      gi_wp2_with (first | (with_reducible refine wpi_loadb (o := ⟨some 11, _, _, _, _, _⟩) rfl rfl row_mkey HB2.out rfl HLX.out ?_) | gi_in)
      refine hR.mono ?_
      rintro e W3 ⟨rfl, hJ4, hk4⟩
      have HI4 := Lib.hid (HI3.out.of_walks hk4)
      have HR4 := Lib.hid (show ItAt W3 b sz es clock (vs ++ [en]) ∧ J ((vs ++ [en]).map dkK) W3 from ⟨HI4.out, by rw [List.map_append, List.map_cons, List.map_nil, HD.out]; exact hJ4⟩)
      clear hJ4 hk4 hR hy
      gi_wp2
      have HM4 := Lib.hid (show itLeft W3 b sz = itLeft w2 b sz by rw [HI4.out.left_eq, HI2.out.left_eq])
      go_roundw
      case rel => exact ⟨_, HR4⟩
      case measure => rw [HM4.out]; exact HM.out
/-- maps.Keys(m). -/
theorem kkM_any (m : Option Nat) (w : World) :
    Calls Try.prog 38 #[.map m] w fun e w' => e = .returned (.func (.func 54) #[] #[.pointer (some ⟨w.heap.size, 0, none⟩)]) ∧ w'.cell? ⟨w.heap.size, 0, none⟩ = some (.map m) ∧ Below w.heap.size w w' ∧ w.heap.size < w'.heap.size := by
  go_enter Try.func38, Try.ntmps38
  go_wp2
  go_ret
  refine ⟨rfl, ?_, (Below.refl _ w).alloc (Nat.le_refl _) _, by simp⟩
  unfold World.cell?
  rw [heap_alloc_new]
  rfl
theorem kkM_gives (n : Nat) (hn : 1 ≤ n) (Bm b clock : Nat) (es : Array MapEntry) (hE : ∀ en ∈ es.toList, ∃ p : KeyS, en.key = encKV p) (hk : MapOK Try.prog 64 es clock) (w : World) (hBm : Bm < w.heap.size)
    (hm : w.cell? ⟨Bm, 0, none⟩ = some (.map (some b))) (hb : w.heap[b]? = some (.map es clock)) :
    SeqGives Fence.wide n Try.prog 54 #[.pointer (some ⟨Bm, 0, none⟩)] encKV (fun ss => ss.Perm (es.toList.map dkK)) es.size w := fun l J W hW hJ hY h0 =>
  kkM1_in Fence.wide n trivial rfl hn l Bm b clock es hE hk J hY W hJ ((hW.cell (p := ⟨Bm, 0, none⟩) hBm).trans hm) ((hW.block b (Array.getElem?_eq_some_iff.1 hb).1).trans hb) h0
end Go.Proofs.Ytofhohofaedokaa

/- A region that draws its order, walked along a plan: operations that leave the world are taken as soon as they can be, those that act stand in the order that the edges force (or fork). No program in sight.
   Classes: 0 an operation that looks at no world; 1 a read that stands whatever may still happen (Fut); 2 a read behind which all that act wait; 3 an operation that acts; 4 one that acts within Fut. -/
namespace Go.Proofs.Ytofhohofaedokaa
open Go.RowKit

inductive Plan where
  | done
  | get (i : Nat) (t : Plan)
  | act (i : Nat) (t : Plan)
  | fork (i : Nat) (s t : Plan)

def noQ : Exit → Act → World → Prop := fun _ _ _ => False
def plCls (cl : List Nat) (i : Nat) : Nat := cl.getD i 3
def plOkc : Nat → Nat → Bool
  | 0, _ => true
  | 1, c => decide (c ≤ 2) || c == 4
  | 2, c => decide (c ≤ 2)
  | _, _ => false

section
variable (P : Program) (md : Region.Mode) (ops : Array Oper) (Fut : World → World → Prop) (cl : List Nat) (Q : Exit → Act → World → Prop)

def plFree (i : Nat) (listed : Array Bool) : Bool :=
  (List.range ops.size).all fun j => j == i || listed.getD j true || (ancs md ops ops.size j).contains i || plOkc (plCls cl i) (plCls cl j)
def planB : Nat → Plan → List Nat → Array Bool → Bool
  | _, .done, hs, listed => hs.isEmpty && (Region.ready md ops listed).isEmpty
  | 0, _, _, _ => false
  | f + 1, .get i t, hs, listed => hs.isEmpty && decide (plCls cl i ≤ 2) && (Region.ready md ops listed).contains i && Region.free md ops listed i && plFree md ops cl i listed && planB f t [] (listed.setIfInBounds i true)
  | f + 1, .act i t, hs, listed => decide (3 ≤ plCls cl i) && (Region.ready md ops listed).all (fun j => (i :: hs).contains j) && !(Region.ready md ops listed).isEmpty && planB f t [] (listed.setIfInBounds i true)
  | f + 1, .fork i s t, hs, listed => decide (3 ≤ plCls cl i) && planB f s [] (listed.setIfInBounds i true) && planB (f + 1) t (i :: hs) listed

def plOK (c : Nat) (o : Oper) (a : Act) (w : World) (v : Value) : Prop :=
  match c with
  | 0 => ∀ w', (execOp a.eval o).run P w' = .ok (.value v) w'
  | 1 => ∀ w', Fut w w' → (execOp a.eval o).run P w' = .ok (.value v) w'
  | _ => (execOp a.eval o).run P w = .ok (.value v) w
def wpActs (i : Nat) (K : Act → World → Prop) (a : Act) (w : World) : Prop :=
  match ops[i]? with
  | none => False
  | some o => if Region.wanted o (yielded ops a.tmps) then o.wp P a w (fun a' w' => (plCls cl i = 4 → Fut w w') ∧ K a' w') noQ else K (a.put o.dst undef) w
/-- The walk along the plan. -/
def wpS : Plan → Act → World → Prop
  | .done, a, w => Q .normal a w
  | .get i t, a, w => match ops[i]? with
    | none => False
    | some o => if Region.wanted o (yielded ops a.tmps) then ∃ v, plOK P Fut (plCls cl i) o a w v ∧ wpS t (a.put o.dst v) w else wpS t (a.put o.dst undef) w
  | .act i t, a, w => wpActs P ops Fut cl i (wpS t) a w
  | .fork i s t, a, w => wpActs P ops Fut cl i (wpS s) a w ∧ wpS t a w
def wpOpF (i : Nat) (K : Act → World → Prop) (a : Act) (w : World) : Prop :=
  match ops[i]? with
  | none => False
  | some o => if Region.wanted o (yielded ops a.tmps) then
      (if plCls cl i ≤ 2 then ∃ v, (execOp a.eval o).run P w = .ok (.value v) w ∧ K (a.put o.dst v) w else o.wp P a w (fun a' w' => (plCls cl i = 4 → Fut w w') ∧ K a' w') noQ)
    else K (a.put o.dst undef) w
def wpAnyF : Nat → Array Bool → Act → World → Prop
  | 0, listed, a, w => Region.ready md ops listed = [] ∧ Q .normal a w
  | f + 1, listed, a, w => (Region.ready md ops listed = [] → Q .normal a w) ∧ ∀ i ∈ Region.ready md ops listed, wpOpF P ops Fut cl i (wpAnyF f (listed.setIfInBounds i true)) a w
end

section
variable {P : Program} {md : Region.Mode} {ops : Array Oper} {Fut : World → World → Prop} {cl : List Nat} {Q : Exit → Act → World → Prop}

theorem oper_wp_no {o : Oper} {a : Act} {w : World} {K K' : Act → World → Prop} {Q : Exit → Act → World → Prop} (h : ∀ a w, K a w → K' a w) (hh : o.wp P a w K noQ) : o.wp P a w K' Q := by
  unfold Oper.wp at *
  generalize (execOp a.eval o).run P w = r at *
  cases r with
  | ok n w' =>
    cases n <;> simp only [Oper.upon] at hh ⊢
    case value => exact h _ _ hh
    case skip => exact h _ _ hh
    case defer => exact h _ _ hh
    case enter f args =>
      refine Calls.mono hh fun e w'' he => ?_
      cases e with
      | returned u => exact h _ _ he
      | panicked c => exact he.elim
      | outgrown => obtain ⟨_, _, hf⟩ := he; exact hf.elim
    case row => exact Rows.mono hh fun _ _ he => h _ _ he
  | halt x w' =>
    cases x <;> simp only [Oper.upon] at hh ⊢
    case panic u => exact hh.elim
theorem wpOpF_mono {i : Nat} {K K' : Act → World → Prop} {a : Act} {w : World} (h : ∀ a w, K a w → K' a w) (hh : wpOpF P ops Fut cl i K a w) : wpOpF P ops Fut cl i K' a w := by
  unfold wpOpF at *
  cases ho : ops[i]? with
  | none => rw [ho] at hh; exact hh
  | some o =>
    rw [ho] at hh
    simp only at hh ⊢
    split
    · rename_i hw
      rw [if_pos hw] at hh
      split
      · rename_i hc; rw [if_pos hc] at hh; obtain ⟨v, h1, h2⟩ := hh; exact ⟨v, h1, h _ _ h2⟩
      · rename_i hc; rw [if_neg hc] at hh; exact oper_wp_no (fun a w h1 => ⟨h1.1, h _ _ h1.2⟩) hh
    · rename_i hw; rw [if_neg hw] at hh; exact h _ _ hh
theorem wpOp_of_F {i : Nat} {K : Act → World → Prop} {a : Act} {w : World} (hh : wpOpF P ops Fut cl i K a w) : wpOp P ops Q i K a w := by
  unfold wpOpF at hh
  unfold wpOp
  cases ho : ops[i]? with
  | none => rw [ho] at hh; exact hh.elim
  | some o =>
    rw [ho] at hh
    simp only at hh ⊢
    split
    · rename_i hw
      rw [if_pos hw] at hh
      left
      split at hh
      · obtain ⟨v, h1, h2⟩ := hh
        unfold Oper.wp; rw [h1]; exact h2
      · exact oper_wp_no (fun a w h1 => h1.2) hh
    · rename_i hw; rw [if_neg hw] at hh; exact hh
theorem wpAny_of_F : ∀ (f : Nat) (listed : Array Bool) (a : Act) (w : World), wpAnyF P md ops Fut cl Q f listed a w → wpAny P md ops Q f listed a w
  | 0, _, _, _, h => h
  | f + 1, _, _, _, h => ⟨h.1, fun i hi => wpOp_of_F (wpOpF_mono (fun a w h1 => wpAny_of_F f _ a w h1) (h.2 i hi))⟩

/-- Another operation, moved ahead of one that leaves the world. -/
theorem wpOpF_put {j : Nat} {oi oj : Oper} {v : Value} (hj : ops[j]? = some oj) (hap : oi.apart ops oj = true) (hsi : ∀ cs b, oi.op ≠ .select cs b) (hsj : ∀ cs b, oj.op ≠ .select cs b)
    {K : Act → World → Prop} {a : Act} {w : World} (h : wpOpF P ops Fut cl j K (a.put oi.dst v) w) :
    wpOpF P ops Fut cl j (fun a' w' => (execOp a'.eval oi = execOp a.eval oi ∧ Region.wanted oi (yielded ops a'.tmps) = Region.wanted oi (yielded ops a.tmps)) ∧ (plCls cl j ≤ 2 → w' = w) ∧ (plCls cl j = 4 → w' = w ∨ Fut w w') ∧ K (a'.put oi.dst v) w') a w := by
  obtain ⟨h1, h2, h3⟩ := Oper.apart_spec hap
  have keep : ∀ (a : Act) u, execOp (a.put oj.dst u).eval oi = execOp a.eval oi ∧ Region.wanted oi (yielded ops (a.put oj.dst u).tmps) = Region.wanted oi (yielded ops a.tmps) := fun a u => ⟨execOp_put oi hsi a oj.dst u h3, wanted_put oi a oj.dst u h3⟩
  unfold wpOpF at *
  rw [hj] at h ⊢
  simp only at h ⊢
  rw [wanted_put oj a oi.dst v h1] at h
  split
  · rename_i hw
    rw [if_pos hw] at h
    rw [execOp_put oj hsj a oi.dst v h1] at h
    split
    · rename_i hc
      rw [if_pos hc] at h
      obtain ⟨u, e1, e2⟩ := h
      exact ⟨u, e1, keep a u, fun _ => by trivial, fun _ => .inl (by trivial), by rw [← Act.put_comm a v u h2]; exact e2⟩
    · rename_i hc
      rw [if_neg hc] at h
      unfold Oper.wp at *
      rw [execOp_put oj hsj a oi.dst v h1] at h
      generalize (execOp a.eval oj).run P w = r at *
      cases r with
      | ok n w' =>
        cases n <;> simp only [Oper.upon] at h ⊢
        case value u => exact ⟨h.1, keep a u, fun e => absurd e hc, fun e => .inr (h.1 e), by rw [← Act.put_comm a v u h2]; exact h.2⟩
        case skip => exact ⟨h.1, keep a undef, fun e => absurd e hc, fun e => .inr (h.1 e), by rw [← Act.put_comm a v undef h2]; exact h.2⟩
        case defer d =>
          refine ⟨h.1, keep { a with defers := d :: a.defers } undef, fun e => absurd e hc, fun e => .inr (h.1 e), ?_⟩
          rw [← Act.put_comm _ v undef h2, ← Act.put_defers]
          exact h.2
        case enter f args =>
          refine Calls.mono h fun e w'' he => ?_
          cases e with
          | returned u => exact ⟨he.1, keep a u, fun e => absurd e hc, fun e => .inr (he.1 e), by rw [← Act.put_comm a v u h2]; exact he.2⟩
          | panicked c => exact he
          | outgrown => exact he
        case row row args => exact Rows.mono h fun u w'' he => ⟨he.1, keep a u, fun e => absurd e hc, fun e => .inr (he.1 e), by rw [← Act.put_comm a v u h2]; exact he.2⟩
      | halt x w' =>
        cases x <;> simp only [Oper.upon] at h ⊢
        case panic u => exact h.elim
  · rename_i hw
    rw [if_neg hw] at h
    exact ⟨keep a undef, fun _ => by trivial, fun _ => .inl (by trivial), by rw [← Act.put_comm a v undef h2]; exact h⟩

/-- An operation that leaves the world may be taken first. -/
theorem wpAnyF_first {i : Nat} {oi : Oper} {v : Value} (hi : ops[i]? = some oi) (hsel : ∀ (j : Nat) (o : Oper) cs b, ops[j]? = some o → o.op ≠ .select cs b) (hc : plCls cl i ≤ 2) (hrefl : ∀ w, Fut w w) (htr : ∀ w1 w2 w3, Fut w1 w2 → Fut w2 w3 → Fut w1 w3) :
    ∀ (f : Nat) (listed : Array Bool) (a : Act) (w : World), PClosed md ops listed →
      (∀ j oj, ops[j]? = some oj → j ≠ i → listed.getD j true = false → i ∉ ancs md ops ops.size j → oi.apart ops oj = true ∧ plOkc (plCls cl i) (plCls cl j) = true) →
      i ∈ Region.ready md ops listed → (if Region.wanted oi (yielded ops a.tmps) then plOK P Fut (plCls cl i) oi a w v else v = undef) →
      wpAnyF P md ops Fut cl Q f (listed.setIfInBounds i true) (a.put oi.dst v) w → wpAnyF P md ops Fut cl Q (f + 1) listed a w := by
  have own : ∀ (a : Act) (w : World) (K : Act → World → Prop), (if Region.wanted oi (yielded ops a.tmps) then plOK P Fut (plCls cl i) oi a w v else v = undef) → K (a.put oi.dst v) w → wpOpF P ops Fut cl i K a w := by
    intro a w K hy hK
    unfold wpOpF
    rw [hi]
    simp only
    split
    · rename_i hw
      rw [if_pos hw] at hy
      try rw [if_pos hc]
      refine ⟨v, ?_, hK⟩
      unfold plOK at hy
      split at hy
      · exact hy w
      · exact hy w (hrefl w)
      · exact hy
    · rename_i hw
      rw [if_neg hw] at hy
      rw [← hy]; exact hK
  intro f
  induction f with
  | zero =>
    intro listed a w _ _ hr hy H
    refine ⟨fun h => (by rw [h] at hr; cases hr), fun j hj => ?_⟩
    by_cases hji : j = i
    · subst hji; exact own a w _ hy H
    · have := ready_mono hj hji
      rw [H.1] at this
      cases this
  | succ f ih =>
    intro listed a w hcl hfree hr hy H
    refine ⟨fun h => (by rw [h] at hr; cases hr), fun j hj => ?_⟩
    by_cases hji : j = i
    · subst hji; exact own a w _ hy H
    · have h1 := H.2 j (ready_mono hj hji)
      obtain ⟨hjun, oj, hoj, hall⟩ := mem_ready.1 hj
      have hnot : i ∉ ancs md ops ops.size j := fun hm => by
        have := ancs_listed hcl ops.size j (fun oi' hoi' => by rw [hoj] at hoi'; cases hoi'; exact hall) i hm
        rw [getD_tf (mem_ready.1 hr).1] at this
        cases this
      obtain ⟨hap, hok⟩ := hfree j oj hoj hji hjun hnot
      have h2 := wpOpF_put hoj hap (fun cs b => hsel i oi cs b hi) (fun cs b => hsel j oj cs b hoj) h1
      refine wpOpF_mono (fun a' w' h3 => ?_) h2
      obtain ⟨⟨k1, k2⟩, k3, k4, k5⟩ := h3
      refine ih (listed.setIfInBounds j true) a' w' (closed_set hcl hj) (fun k ok hk hki hun hno => hfree k ok hk hki ?_ hno) (ready_mono hr (Ne.symm hji)) ?_ ?_
      · by_cases hjk : j = k
        · subst hjk; exact hjun
        · rw [getD_ne true hjk] at hun; exact hun
      · rw [k2]
        split
        · rename_i hw
          rw [if_pos hw] at hy
          unfold plOK at hy ⊢
          rw [k1]
          split at hy
          · exact hy
          · rename_i hc1
            rw [hc1] at hok
            simp only [plOkc, Bool.or_eq_true, decide_eq_true_eq, beq_iff_eq] at hok
            intro w'' hf
            rcases hok with hok | hok
            · rw [k3 hok] at hf; exact hy w'' hf
            · rcases k4 hok with e | e
              · rw [e] at hf; exact hy w'' hf
              · exact hy w'' (htr _ _ _ e hf)
          · rename_i n1 n2
            have h22 : plCls cl i = 2 := by
              have : plCls cl i ≠ 0 := n1
              have : plCls cl i ≠ 1 := n2
              omega
            rw [h22] at hok
            simp only [plOkc, decide_eq_true_eq] at hok
            rw [k3 hok]; exact hy
        · rename_i hw
          rw [if_neg hw] at hy
          exact hy
      · rw [Array.setIfInBounds_comm _ _ hji]
        exact k5

theorem wpOpF_of_acts {i : Nat} {K : Act → World → Prop} {a : Act} {w : World} (hc : 3 ≤ plCls cl i) (h : wpActs P ops Fut cl i K a w) : wpOpF P ops Fut cl i K a w := by
  unfold wpActs at h
  unfold wpOpF
  cases ho : ops[i]? with
  | none => rw [ho] at h; exact h
  | some o =>
    rw [ho] at h
    simp only at h ⊢
    rw [if_neg (show ¬ plCls cl i ≤ 2 by omega)]
    exact h
theorem wpAnyF_of_plan (hs : Region.noSelect ops = true) (hrefl : ∀ w, Fut w w) (htr : ∀ w1 w2 w3, Fut w1 w2 → Fut w2 w3 → Fut w1 w3) :
    ∀ (p : Plan) (f : Nat) (hds : List Nat) (listed : Array Bool) (a : Act) (w : World), PClosed md ops listed → planB md ops cl f p hds listed = true →
      (∀ i ∈ hds, i ∈ Region.ready md ops listed → ∀ g, f = g + 1 → wpOpF P ops Fut cl i (wpAnyF P md ops Fut cl Q g (listed.setIfInBounds i true)) a w) → wpS P ops Fut cl Q p a w → wpAnyF P md ops Fut cl Q f listed a w
  | .done, f, hds, listed, a, w, hcl, hB, hh, h => by
    have hr : Region.ready md ops listed = [] := by
      cases f <;> (simp only [planB, Bool.and_eq_true] at hB; simpa using hB.2)
    cases f with
    | zero => exact ⟨hr, h⟩
    | succ f => exact ⟨fun _ => h, fun i hi => by rw [hr] at hi; cases hi⟩
  | .get i t, f, hds, listed, a, w, hcl, hB, hh, h => by
    cases f with
    | zero => simp [planB] at hB
    | succ f =>
      simp only [planB, Bool.and_eq_true, decide_eq_true_eq] at hB
      obtain ⟨⟨⟨⟨⟨_, h1⟩, h2⟩, h3⟩, h4⟩, h5⟩ := hB
      have hr : i ∈ Region.ready md ops listed := by simpa using h2
      unfold wpS at h
      cases ho : ops[i]? with
      | none => rw [ho] at h; exact h.elim
      | some o =>
        rw [ho] at h
        simp only at h
        have hfree : ∀ j oj, ops[j]? = some oj → j ≠ i → listed.getD j true = false → i ∉ ancs md ops ops.size j → o.apart ops oj = true ∧ plOkc (plCls cl i) (plCls cl j) = true := by
          intro j oj hoj hne hun hno
          have hj : j < ops.size := (Array.getElem?_eq_some_iff.1 hoj).1
          constructor
          · refine Region.free_spec ho h3 j oj hoj hne hun fun e he hb heq => hno ?_
            obtain ⟨n, hn⟩ : ∃ n, ops.size = n + 1 := ⟨ops.size - 1, by omega⟩
            rw [hn]
            unfold ancs
            refine List.mem_flatMap.2 ⟨e.on, ?_, by rw [heq]; exact List.mem_cons_self⟩
            rw [hoj]
            exact List.mem_map.2 ⟨e, List.mem_filter.2 ⟨by simpa using he, hb⟩, rfl⟩
          · unfold plFree at h4
            have := List.all_eq_true.1 h4 j (List.mem_range.2 hj)
            simp only [Bool.or_eq_true, beq_iff_eq] at this
            rcases this with ((e | e) | e) | e
            · exact absurd e hne
            · rw [hun] at e; cases e
            · exact absurd (by simpa using e) hno
            · exact e
        have next : ∀ v, (if Region.wanted o (yielded ops a.tmps) then plOK P Fut (plCls cl i) o a w v else v = undef) → wpS P ops Fut cl Q t (a.put o.dst v) w → wpAnyF P md ops Fut cl Q (f + 1) listed a w := fun v hy hk =>
          wpAnyF_first ho (Region.noSelect_spec hs) h1 hrefl htr f listed a w hcl hfree hr hy (wpAnyF_of_plan hs hrefl htr t f [] _ _ w (closed_set hcl hr) h5 (fun j hj => by cases hj) hk)
        split at h
        · rename_i hw
          obtain ⟨v, hv, hk⟩ := h
          exact next v (by rw [if_pos hw]; exact hv) hk
        · rename_i hw
          exact next undef (by rw [if_neg hw]) h
  | .act i t, f, hds, listed, a, w, hcl, hB, hh, h => by
    cases f with
    | zero => simp [planB] at hB
    | succ f =>
      simp only [planB, Bool.and_eq_true, decide_eq_true_eq] at hB
      obtain ⟨⟨⟨h1, h2⟩, h3⟩, h4⟩ := hB
      refine ⟨fun e => by rw [e] at h3; simp at h3, fun j hj => ?_⟩
      have hm := List.all_eq_true.1 h2 j hj
      have hm : j = i ∨ j ∈ hds := by simpa using hm
      rcases hm with e | e
      · subst e
        refine wpOpF_of_acts h1 ?_
        unfold wpS at h
        unfold wpActs at h ⊢
        cases ho : ops[j]? with
        | none => rw [ho] at h; exact h
        | some o =>
          rw [ho] at h
          simp only at h ⊢
          split
          · rename_i hw
            rw [if_pos hw] at h
            exact oper_wp_no (fun a w h1 => ⟨h1.1, wpAnyF_of_plan hs hrefl htr t f [] _ _ _ (closed_set hcl hj) h4 (fun j hj => by cases hj) h1.2⟩) h
          · rename_i hw
            rw [if_neg hw] at h
            exact wpAnyF_of_plan hs hrefl htr t f [] _ _ _ (closed_set hcl hj) h4 (fun j hj => by cases hj) h
      · exact hh j e hj f rfl
  | .fork i s t, f, hds, listed, a, w, hcl, hB, hh, h => by
    cases f with
    | zero => simp [planB] at hB
    | succ f =>
      simp only [planB, Bool.and_eq_true, decide_eq_true_eq] at hB
      obtain ⟨⟨h1, h2⟩, h3⟩ := hB
      unfold wpS at h
      refine wpAnyF_of_plan hs hrefl htr t (f + 1) (i :: hds) listed a w hcl h3 (fun j hj hr g hg => ?_) h.2
      obtain rfl : f = g := by omega
      rcases List.mem_cons.1 hj with e | e
      · subst e
        refine wpOpF_of_acts h1 ?_
        have h0 := h.1
        unfold wpActs at h0 ⊢
        cases ho : ops[j]? with
        | none => rw [ho] at h0; exact h0
        | some o =>
          rw [ho] at h0
          simp only at h0 ⊢
          split
          · rename_i hw
            rw [if_pos hw] at h0
            exact oper_wp_no (fun a w h1 => ⟨h1.1, wpAnyF_of_plan hs hrefl htr s f [] _ _ _ (closed_set hcl hr) h2 (fun j hj => by cases hj) h1.2⟩) h0
          · rename_i hw
            rw [if_neg hw] at h0
            exact wpAnyF_of_plan hs hrefl htr s f [] _ _ _ (closed_set hcl hr) h2 (fun j hj => by cases hj) h0
      · exact hh j e hr f rfl

/-- What may happen: memory is made; nothing that was there turns. -/
def Grow (w w' : World) : Prop := Below w.heap.size w w'
theorem Grow.refl (w : World) : Grow w w := Below.refl _ _
theorem Grow.trans (w1 w2 w3 : World) (h : Grow w1 w2) (k : Grow w2 w3) : Grow w1 w3 := below_chain h k
theorem Drawn.grow {w w' : World} (h : Drawn w w') : Grow w w' := h.all
theorem _root_.Go.RowKit.Below.grow' {w0 w w' : World} (h : Below w0.heap.size w0 w) (k : Grow w w') : Below w0.heap.size w0 w' := below_step h h.size k
theorem Sl.grow {w w' : World} {sz n : Nat} {A : Option Addr} {xs : List Value} (h : Sl w w.heap.size sz A n xs) (k : Grow w w') : Sl w' w'.heap.size sz A n xs := (h.below k).more k.size
theorem Blk.grow {w w' : World} {g : Nat} {t : TypeId} {cs : List Value} (h : Blk w g t cs) (k : Grow w w') : Blk w' g t cs := h.call k
theorem _root_.Go.World.ownsRow.grow {w w' : World} {base : Nat} {e : TypeId} {sz n c : Nat} {A : Option Addr} {xs : List Value} (h : w.ownsRow base e sz (.slice A n c) n xs) (k : Grow w w') : w'.ownsRow base e sz (.slice A n c) n xs := own_below h k
/-- A new block: the world under a letter. -/
theorem alloc_new (w : World) (cs : Array Value) (T : TypeId) : Blk (w.alloc (.cells cs T)) w.heap.size T cs.toList ∧ Grow w (w.alloc (.cells cs T)) ∧ (w.alloc (.cells cs T)).heap.size = w.heap.size + 1 :=
  ⟨by have := heap_alloc_new w (.cells cs T); simpa [Blk] using this, (Below.refl _ _).alloc (Nat.le_refl _) _, by simp⟩
theorem alloc_eq {w w2 : World} {cs : Array Value} {T : TypeId} (h : w.alloc (.cells cs T) = w2) : Blk w2 w.heap.size T cs.toList ∧ Grow w w2 ∧ w2.heap.size = w.heap.size + 1 := by
  subst h; exact alloc_new w cs T
theorem Sl.to1 {w : World} {B n k : Nat} {A : Option Addr} {xs : List Value} (h : Sl w B 1 A n xs) (hk : k ≤ n) : Sl w B 1 A k (xs.take k) := by
  refine ⟨by rw [List.length_take, h.len]; omega, fun hn => ?_⟩
  obtain ⟨b, off, e, hb, hc⟩ := h.2 (by omega)
  refine ⟨b, off, e, hb, fun j u hu => hc j u ?_⟩
  rw [List.getElem?_take] at hu
  split at hu
  · exact hu
  · cases hu
theorem Sl.from1 {w : World} {B n k c : Nat} {A : Option Addr} {xs : List Value} (h : Sl w B 1 A n xs) (hk : k ≤ n) (hc : n ≤ c) : Sl w B 1 (if c = k then A else Option.map (fun x => x.add k) A) (n - k) (xs.drop k) := by
  have h1 := h.cut (k := k) (m := n - k) (cap := c) (by omega) hc
  rw [Nat.mul_one, Nat.mul_one] at h1
  rw [List.take_of_length_le (by rw [List.length_drop, h.len]; exact Nat.le_refl _)] at h1
  exact h1
def planOf (l : List Oper) (cl : List Nat) (p : Plan) : Bool := Region.noSelect l.toArray && planB .any l.toArray cl l.length p [] (Array.replicate l.length false)
/-- The law. -/
theorem wp_plan {id : Nat} {a : Act} {w : World} {l : List Oper} (Fut : World → World → Prop) (cl : List Nat) (p : Plan) (hm : P.follows .mixedOrders = true) (hB : planOf l cl p = true) (hrefl : ∀ w, Fut w w) (htr : ∀ w1 w2 w3, Fut w1 w2 → Fut w2 w3 → Fut w1 w3)
    (h : ∀ w2, Drawn w w2 → wpS P l.toArray Fut cl Q p a w2) : (Code.region id l.toArray true).wp P Q a w := by
  replace h := h w.drew (Drawn.one w)
  simp only [planOf, Bool.and_eq_true] at hB
  refine wp_region_any hm (wpAny_of_F (Fut := Fut) (cl := cl) _ _ _ _ ?_)
  have h0 := wpAnyF_of_plan (Q := Q) (md := .any) hB.1 hrefl htr p l.length [] (Array.replicate l.length false) a w.drew (fun j oj _ hj => by
    rw [Array.getD_eq_getD_getElem?, Array.getElem?_replicate] at hj
    split at hj <;> simp at hj) hB.2 (fun j hj => by cases hj) h
  simpa using h0

/-! ### Steps -/
variable {l : List Oper} {o : Oper} {i : Nat} {t s : Plan} {a : Act} {w : World}
theorem pl_done (h : Q .normal a w) : wpS P ops Fut cl Q .done a w := h
/-- An operation that looks at no world. -/
theorem pl_calm {v : Value} (hi : ops[i]? = some o) (hc : plCls cl i = 0) (hw : Region.wanted o (yielded ops a.tmps) = true) (h : ∀ w', (execOp a.eval o).run P w' = .ok (.value v) w')
    (hk : ∀ K : Act → World → Prop, (∀ a w, wpS P ops Fut cl Q t a w → K a w) → K (a.put o.dst v) w) : wpS P ops Fut cl Q (.get i t) a w := by
  unfold wpS; rw [hi]; simp only; rw [if_pos hw, hc]; exact ⟨v, h, hk _ fun _ _ h => h⟩
theorem pl_read {v : Value} (hi : ops[i]? = some o) (hc : plCls cl i = 1) (hw : Region.wanted o (yielded ops a.tmps) = true) (h : ∀ w', Fut w w' → (execOp a.eval o).run P w' = .ok (.value v) w')
    (hk : ∀ K : Act → World → Prop, (∀ a w, wpS P ops Fut cl Q t a w → K a w) → K (a.put o.dst v) w) : wpS P ops Fut cl Q (.get i t) a w := by
  unfold wpS; rw [hi]; simp only; rw [if_pos hw, hc]; exact ⟨v, h, hk _ fun _ _ h => h⟩
theorem pl_now {v : Value} (hi : ops[i]? = some o) (hc : plCls cl i = 2) (hw : Region.wanted o (yielded ops a.tmps) = true) (h : (execOp a.eval o).run P w = .ok (.value v) w)
    (hk : ∀ K : Act → World → Prop, (∀ a w, wpS P ops Fut cl Q t a w → K a w) → K (a.put o.dst v) w) : wpS P ops Fut cl Q (.get i t) a w := by
  unfold wpS; rw [hi]; simp only; rw [if_pos hw, hc]; exact ⟨v, h, hk _ fun _ _ h => h⟩
theorem pl_skip (hi : ops[i]? = some o) (hw : Region.wanted o (yielded ops a.tmps) = false)
    (hk : ∀ K : Act → World → Prop, (∀ a w, wpS P ops Fut cl Q t a w → K a w) → K (a.put o.dst undef) w) : wpS P ops Fut cl Q (.get i t) a w := by
  unfold wpS; rw [hi]; simp only; rw [if_neg (by rw [hw]; simp)]; exact hk _ fun _ _ h => h
theorem pl_skipa (hi : ops[i]? = some o) (hw : Region.wanted o (yielded ops a.tmps) = false)
    (hk : ∀ K : Act → World → Prop, (∀ a w, wpS P ops Fut cl Q t a w → K a w) → K (a.put o.dst undef) w) : wpS P ops Fut cl Q (.act i t) a w := by
  unfold wpS wpActs; rw [hi]; simp only; rw [if_neg (by rw [hw]; simp)]; exact hk _ fun _ _ h => h
/-- Only the way that goes on. -/
def toK (K : Act → World → Prop) : Exit → Act → World → Prop
  | .normal, a, w => K a w
  | _, _, _ => False
theorem acts_of_list {K : Act → World → Prop} (hi : ops[i]? = some o) (h : wpList P ops (toK fun a' w' => (plCls cl i = 4 → Fut w w') ∧ K a' w') [o] a w) (hw : Region.wanted o (yielded ops a.tmps) = true) : wpActs P ops Fut cl i K a w := by
  unfold wpActs; rw [hi]; simp only; rw [if_pos hw]
  unfold wpList at h
  rw [if_pos hw] at h
  have e : (fun a' w' => wpList P ops (toK fun a' w' => (plCls cl i = 4 → Fut w w') ∧ K a' w') [] a' w') = fun a' w' => (plCls cl i = 4 → Fut w w') ∧ K a' w' := rfl
  rcases h with h | ⟨_, _, _, hf⟩
  · unfold Oper.wp at h ⊢
    generalize (execOp a.eval o).run P w = r at *
    cases r with
    | ok n w' =>
      cases n <;> simp only [Oper.upon] at h ⊢
      case value => exact h
      case skip => exact h
      case defer => exact h
      case enter f args =>
        refine Calls.mono h fun e w'' he => ?_
        cases e with
        | returned u => exact he
        | panicked c => exact he.elim
        | outgrown => obtain ⟨_, _, hf⟩ := he; exact hf.elim
      case row => exact h
    | halt x w' =>
      cases x <;> simp only [Oper.upon] at h ⊢
      case panic u => exact h.elim
  · exact hf.elim
/-- An operation that acts: walked as a list of one. -/
theorem pl_act (hi : ops[i]? = some o) (hw : Region.wanted o (yielded ops a.tmps) = true)
    (hk : ∀ K : Act → World → Prop, (∀ a' w', (plCls cl i = 4 → Fut w w') → wpS P ops Fut cl Q t a' w' → K a' w') → wpList P ops (toK K) [o] a w) : wpS P ops Fut cl Q (.act i t) a w := by
  unfold wpS
  exact acts_of_list hi (hk _ fun _ _ h1 h2 => ⟨h1, h2⟩) hw
theorem pl_fork (hi : ops[i]? = some o) (hw : Region.wanted o (yielded ops a.tmps) = true)
    (hk : ∀ K : Act → World → Prop, (∀ a' w', (plCls cl i = 4 → Fut w w') → wpS P ops Fut cl Q s a' w' → K a' w') → wpList P ops (toK K) [o] a w) (ht : wpS P ops Fut cl Q t a w) : wpS P ops Fut cl Q (.fork i s t) a w := by
  unfold wpS
  exact ⟨acts_of_list hi (hk _ fun _ _ h1 h2 => ⟨h1, h2⟩) hw, ht⟩
/-- A cell read; what may happen besides makes memory alone. -/
theorem pl_load {T : TypeId} {x : Operand} {p : Addr} {v : Value} (hi : ops[i]? = some o) (hc : plCls cl i = 1) (hw : Region.wanted o (yielded ops a.tmps) = true) (ho : o.op = .load T x) (hx : a.eval x = .pointer (some p))
    (hT : (match P.underlying T with | some (.struct _) | some (.array _ _) => false | some _ => true | none => false) = true) (hv : w.cell? p = some v)
    (hk : ∀ K : Act → World → Prop, (∀ a w, wpS P ops Grow cl Q t a w → K a w) → K (a.put o.dst v) w) : wpS P ops Grow cl Q (.get i t) a w := by
  refine pl_read hi hc hw (fun w' hf => ?_) hk
  have hv' : w'.cell? p = some v := by
    have := World.block_lt_of_cell? w p hv
    rw [hf.cell this]; exact hv
  unfold execOp
  simp only [ho, hx, Instr.loadAt, Instr.sureAddr, Sem.run_bind, Sem.run_pure, Result.andThen_ok]
  cases hd : P.underlying T with
  | none => rw [hd] at hT; cases hT
  | some d =>
    rw [hd] at hT
    have hagg : (isAgg T).run P w' = .ok false w' := by
      unfold isAgg
      rw [Sem.run_bind, run_underlying hd w']
      cases d <;> simp_all
    simp [loadVar, hagg, load, Sem.run, hv']
theorem pl_loadnow {T : TypeId} {x : Operand} {p : Addr} {v : Value} (hi : ops[i]? = some o) (hc : plCls cl i = 2) (hw : Region.wanted o (yielded ops a.tmps) = true) (ho : o.op = .load T x) (hx : a.eval x = .pointer (some p))
    (hT : (match P.underlying T with | some (.struct _) | some (.array _ _) => false | some _ => true | none => false) = true) (hv : w.cell? p = some v)
    (hk : ∀ K : Act → World → Prop, (∀ a w, wpS P ops Fut cl Q t a w → K a w) → K (a.put o.dst v) w) : wpS P ops Fut cl Q (.get i t) a w := by
  refine pl_now hi hc hw ?_ hk
  unfold execOp
  simp only [ho, hx, Instr.loadAt, Instr.sureAddr, Sem.run_bind, Sem.run_pure, Result.andThen_ok]
  cases hd : P.underlying T with
  | none => rw [hd] at hT; cases hT
  | some d =>
    rw [hd] at hT
    have hagg : (isAgg T).run P w = .ok false w := by
      unfold isAgg
      rw [Sem.run_bind, run_underlying hd w]
      cases d <;> simp_all
    simp [loadVar, hagg, load, Sem.run, hv]
/-- A whole block read. -/
theorem pl_loadb {T : TypeId} {x : Operand} {n : Nat} {g : Nat} {T' : TypeId} {cs : List Value} (hi : ops[i]? = some o) (hc : plCls cl i = 1) (hw : Region.wanted o (yielded ops a.tmps) = true) (ho : o.op = .load T x) (hT : RowT P T n)
    (hb : Blk w g T' cs) (hx : a.eval x = .pointer (some ⟨g, 0, none⟩)) (hn : cs.length = n)
    (hk : ∀ K : Act → World → Prop, (∀ a w, wpS P ops Grow cl Q t a w → K a w) → K (a.put o.dst (.agg cs.toArray)) w) : wpS P ops Grow cl Q (.get i t) a w := by
  refine pl_read hi hc hw (fun w' hf => ?_) hk
  obtain ⟨d, hu, hd, hi⟩ := hT
  have hrun := run_loadVar_row (P := P) w' g T' T cs.toArray (0, 0) d (hb.call hf) hu (by revert hd; cases d <;> simp) (by rw [hi]; simp [hn])
  unfold execOp
  simp only [ho, hx, Instr.loadAt, Instr.sureAddr, Sem.run_bind, Sem.run_pure, Result.andThen_ok, hrun]
theorem pl_loadbnow {T : TypeId} {x : Operand} {n : Nat} {g : Nat} {T' : TypeId} {cs : List Value} (hi : ops[i]? = some o) (hc : plCls cl i = 2) (hw : Region.wanted o (yielded ops a.tmps) = true) (ho : o.op = .load T x) (hT : RowT P T n)
    (hb : Blk w g T' cs) (hx : a.eval x = .pointer (some ⟨g, 0, none⟩)) (hn : cs.length = n)
    (hk : ∀ K : Act → World → Prop, (∀ a w, wpS P ops Fut cl Q t a w → K a w) → K (a.put o.dst (.agg cs.toArray)) w) : wpS P ops Fut cl Q (.get i t) a w := by
  refine pl_now hi hc hw ?_ hk
  obtain ⟨d, hu, hd, hi⟩ := hT
  have hrun := run_loadVar_row (P := P) w g T' T cs.toArray (0, 0) d hb hu (by revert hd; cases d <;> simp) (by rw [hi]; simp [hn])
  unfold execOp
  simp only [ho, hx, Instr.loadAt, Instr.sureAddr, Sem.run_bind, Sem.run_pure, Result.andThen_ok, hrun]
end
attribute [irreducible] wpS wpActs
end Go.Proofs.Ytofhohofaedokaa

/- Blocks that hold n cells, cells of one word, a row of one struct, one cell written. No program in sight. -/
namespace Go.Proofs.Ytofhohofaedokaa
open Go.RowKit
set_option linter.unusedVariables false
set_option linter.unusedSimpArgs false
theorem wanted_none {o : Oper} {y : Nat → Option Bool} (h : o.guard = none) : Region.wanted o y = true := by unfold Region.wanted; rw [h]
/-- A block that holds n cells. -/
def At (w : World) (g : Nat) (T : TypeId) (n : Nat) (xs : List Value) : Prop := Blk w g T xs ∧ xs.length = n
theorem at_mk {w : World} {g : Nat} {T : TypeId} {n : Nat} {xs : List Value} (h : Blk w g T xs) (hn : xs.length = n) : At w g T n xs := ⟨h, hn⟩
theorem At.blk {w : World} {g : Nat} {T : TypeId} {n : Nat} {xs : List Value} (h : At w g T n xs) : Blk w g T xs := h.1
theorem At.len {w : World} {g : Nat} {T : TypeId} {n : Nat} {xs : List Value} (h : At w g T n xs) : xs.length = n := h.2
theorem At.grow {w w' : World} {g : Nat} {T : TypeId} {n : Nat} {xs : List Value} (h : At w g T n xs) (k : Grow w w') : At w' g T n xs := ⟨h.1.grow k, h.2⟩
theorem At.sl {w : World} {g : Nat} {T : TypeId} {n : Nat} {xs : List Value} (h : At w g T n xs) : Sl w w.heap.size 1 (some ⟨g, 0, none⟩) n xs := h.1.sl (by rw [h.2]; omega)
theorem At.lt {w : World} {g : Nat} {T : TypeId} {n : Nat} {xs : List Value} (h : At w g T n xs) : g < w.heap.size := h.1.lt
theorem At.off {w w' : World} {g g2 : Nat} {T : TypeId} {n : Nat} {xs : List Value} (h : At w g T n xs) (k : w.grownBy w' (some g2)) (hne : g ≠ g2) : At w' g T n xs := ⟨h.1.grown k (by simpa using hne), h.2⟩
theorem var_grow {w w1 w2 : World} (h1 : Below w.heap.size w w1) (hz : w1.heap.size = w.heap.size + 1) (hg : w1.grownBy w2 (some w.heap.size)) : Grow w w2 :=
  h1.grown hg (by omega) (by intro g hg; cases hg; exact Nat.le_refl _)
theorem put_below {w0 w w2 : World} {g : Nat} (h : Below w0.heap.size w0 w) (hg : w0.heap.size ≤ g) (k : w.grownBy w2 (some g)) : Below w0.heap.size w0 w2 :=
  h.grown k h.size (by intro q hq; cases hq; exact hg)
/-- n cells, each one. -/
def Cl (n : Nat) (xs : List Value) : Prop := xs.length = n ∧ ∀ u ∈ xs, u.oneCell' = true
theorem Cl.len {n : Nat} {xs : List Value} (h : Cl n xs) : xs.length = n := h.1
theorem Cl.one {n : Nat} {xs : List Value} (h : Cl n xs) : ∀ u ∈ xs, u.oneCell' = true := h.2
section
variable {P : Program} {ops : Array Oper} {rest : List Oper} {o : Oper} {a : Act} {w : World} {Q : Exit → Act → World → Prop}
theorem wpl_store1 (hgd : o.guard = none) {T : TypeId} {x y : Operand} (ho : o.op = .store T x y) {g i : Nat} {t : TypeId} {cs : List Value} {v : Value} (hb : Blk w g t cs) (hx : a.eval x = .pointer (some ⟨g, i, none⟩)) (hy : a.eval y = v)
    (hT : (P.info? T).map (·.size) = some 1) (hv : v.cells = #[v]) (h1 : v.oneCell' = true) (hi : i < cs.length)
    (h : ∀ w', Blk w' g t (cs.set i v) → w.grownBy w' (some g) → w'.heap.size = w.heap.size → wpList P ops Q rest (a.put o.dst undef) w') : wpList P ops Q (o :: rest) a w := by
  refine wpList_plain hgd fun K hK => ?_
  have hc := hb.at_ (List.getElem?_eq_getElem hi)
  have hf := hb.frozen i
  have hrun : (Instr.storeAt T (.pointer (some ⟨g, i, none⟩)) v).run P w = .ok () (w.setCell ⟨g, i, none⟩ v) := by
    obtain ⟨inf, hi2, hs⟩ := Option.map_eq_some_iff.1 hT
    have e0 : Addr.add ⟨g, i, none⟩ 0 = ⟨g, i, none⟩ := by rw [Addr.add_lit]; rfl
    have e1 : (store ⟨g, i, none⟩ v).run P w = .ok () (w.setCell ⟨g, i, none⟩ v) := by rw [run_store _ _ _ _ _ h1]; simp [stored, hc, hf]
    simp [Instr.storeAt, Instr.sureAddr, storeVar, sizeOf, typeInfo, hi2, hs, hv, storeCells, e0, e1]
  unfold Oper.wp execOp
  simp only [ho, hx, hy, Sem.run_bind, hrun, Result.andThen_ok, Sem.run_pure]
  exact hK _ _ (h _ (hb.set_ i v) (grown_set w g i v) (by simp))
end
theorem run_row1 {P : Program} {w : World} {t e : TypeId} {sz bytes : Nat} (HE : ElemT P t e sz bytes) {ys : List Value} (hl : ys.length = sz) (h24 : sz ≤ 16777216) :
    (Instr.buildSlice t 1 #[(0, .agg ys.toArray)]).run P w = .ok (.slice (some ⟨w.heap.size, 0, none⟩) 1 1) (w.alloc (.cells ys.toArray e)) := by
  obtain ⟨i, z, hi, hz, hsz, hby, hzs, h0⟩ := HE.hi
  have h1 : ¬ (16777216 < i.size) := by omega
  have h2 : ¬ (i.size = 0) := by omega
  have hf : Instr.fill (fun k => some (k * i.size, i.size)) ((Array.range i.size).map fun k => z.cells[k % z.cells.size]!) [(0, .agg ys.toArray)] = some ys.toArray := by
    obtain ⟨cs, hcs⟩ : ∃ cs : List Value, cs = ((Array.range i.size).map fun k => z.cells[k % z.cells.size]!).toList := ⟨_, rfl⟩
    have e1 : ((Array.range i.size).map fun k => z.cells[k % z.cells.size]!) = cs.toArray := by rw [hcs]
    have hcl : cs.length = i.size := by rw [hcs]; simp
    rw [e1, fill_cons (off := 0) (s := i.size) (cs := ys) (by simp) rfl (by omega) (by omega), fill_nil]
    congr 2
    unfold splice
    rw [List.drop_of_length_le (by omega)]; simp
  simp [Instr.buildSlice, run_underlying HE.ht, sizeOf, typeInfo, zeroValue, hi, hz, h1, h2, hf, newRow]
theorem wpl_row1 {P : Program} {w : World} {ops : Array Oper} {rest : List Oper} {o : Oper} {a : Act} {Q : Exit → Act → World → Prop} (hgd : o.guard = none) {t : TypeId} {x : Operand} (ho : o.op = .buildSlice t 1 #[(0, x)]) {e : TypeId} {sz bytes : Nat} (HE : ElemT P t e sz bytes) {ys : List Value}
    (hx : a.eval x = .agg ys.toArray) (hl : ys.length = sz) (h24 : sz ≤ 16777216)
    (h : ∀ w', Blk w' w.heap.size e ys → Grow w w' → w'.heap.size = w.heap.size + 1 → wpList P ops Q rest (a.put o.dst (.slice (some ⟨w.heap.size, 0, none⟩) 1 1)) w') : wpList P ops Q (o :: rest) a w := by
  refine wpList_plain hgd fun K hK => ?_
  have hr := run_row1 (P := P) (w := w) HE hl h24
  obtain ⟨n1, n2, n3⟩ := alloc_new w ys.toArray e
  unfold Oper.wp execOp
  simp only [ho, List.map_toArray, List.map_cons, List.map_nil, hx, Sem.run_bind, hr, Result.andThen_ok, Sem.run_pure]
  exact hK _ _ (h _ n1 n2 n3)
theorem wpl_buildw {P : Program} {ops : Array Oper} {rest : List Oper} {o : Oper} {a : Act} {w : World} {Q : Exit → Act → World → Prop} (hw : Region.wanted o (yielded ops a.tmps) = true) {t : TypeId} {parts : Array (Nat × Operand)} (ho : o.op = .build t parts) {cells : List Value} (h : P.built t (parts.toList.map fun (i, x) => (i, a.eval x)) = some cells.toArray)
    (hk : wpList P ops Q rest (a.put o.dst (.agg cells.toArray)) w) : wpList P ops Q (o :: rest) a w := by
  refine wpl_wanted hw fun K hK => ?_
  unfold Oper.wp
  rw [exec_build ho h w]
  exact hK _ _ hk
theorem wpl_loadmw {P : Program} {ops : Array Oper} {rest : List Oper} {o : Oper} {a : Act} {w : World} {Q : Exit → Act → World → Prop} (hw : Region.wanted o (yielded ops a.tmps) = true) {T : TypeId} {x : Operand} (ho : o.op = .load T x) {n : Nat} (hT : RowT P T n) {b off : Nat} {cs : List Value} (hc : ∀ j u, cs[j]? = some u → w.cell? ⟨b, off + j, none⟩ = some u) (hx : a.eval x = .pointer (some ⟨b, off, none⟩)) (hn : cs.length = n)
    (h : wpList P ops Q rest (a.put o.dst (.agg cs.toArray)) w) : wpList P ops Q (o :: rest) a w := by
  refine wpl_wanted hw fun K hK => ?_
  obtain ⟨d, hu, hd, hi⟩ := hT
  have hrun := run_loadVar_mid (P := P) w b off T cs d hc hu (by cases d <;> simp_all) (by rw [hi, hn])
  unfold Oper.wp execOp
  simp only [ho, hx, Instr.loadAt, Instr.sureAddr, Sem.run_bind, Sem.run_pure, Result.andThen_ok, hrun]
  exact hK _ _ h
def MidAt (w : World) (b off : Nat) (cs : List Value) : Prop := ∀ j u, cs[j]? = some u → w.cell? ⟨b, off + j, none⟩ = some u
theorem MidAt.grow {w w' : World} {b off : Nat} {cs : List Value} (h : MidAt w b off cs) (k : Grow w w') : MidAt w' b off cs := fun j u hu => bcell k (h j u hu)
end Go.Proofs.Ytofhohofaedokaa

/- marks.right: marks with their paths (printed by mkmk.py out of XMark). -/
namespace Go.Proofs.Ytofhohofaedokaa
open Go.RowKit
set_option linter.unusedVariables false

structure Mrk where
  e : Ent
  h : Hdr
  tag : List UInt8
  expiry : Int
  pA : Option Addr
  pn : Nat
  pc : Nat
def Mrk.ok (m : Mrk) : Prop := m.e.ok ∧ m.h.ok ∧ m.tag.length = 32 ∧ I64 m.expiry ∧ m.pn ≤ 1000000
def markV (m : Mrk) : List Value := entV m.e ++ (.slice m.pA m.pn m.pc :: (hdrV m.h ++ (m.tag.map B ++ [.int .i64 m.expiry])))
def markA (m : Mrk) : Value := .agg (markV m).toArray
theorem markV_length {m : Mrk} (h : m.ok) : (markV m).length = 138 := by
  simp [markV, entV_length h.1, hdrV_length h.2.1, h.2.2.1]
theorem mark_ent {m : Mrk} (h : m.ok) {j : Nat} {u : Value} (hu : (entV m.e)[j]? = some u) : (markV m)[j]? = some u := by
  have hj : j < (entV m.e).length := (List.getElem?_eq_some_iff.1 hu).1
  unfold markV; rw [List.getElem?_append_left hj]; exact hu
theorem mark_path {m : Mrk} (h : m.ok) : (markV m)[37]? = some (.slice m.pA m.pn m.pc) := by
  unfold markV; rw [List.getElem?_append_right (by rw [entV_length h.1]; omega), entV_length h.1]; rfl
theorem mark_hdr {m : Mrk} (h : m.ok) {j : Nat} {u : Value} (hu : (hdrV m.h)[j]? = some u) : (markV m)[38 + j]? = some u := by
  have hj : j < (hdrV m.h).length := (List.getElem?_eq_some_iff.1 hu).1
  unfold markV
  rw [List.getElem?_append_right (by rw [entV_length h.1]; omega), entV_length h.1, show 38 + j - 37 = j + 1 by omega, List.getElem?_cons_succ, List.getElem?_append_left hj]
  exact hu
theorem mark_exp {m : Mrk} (h : m.ok) : (markV m)[137]? = some (.int .i64 m.expiry) := by
  unfold markV
  rw [List.getElem?_append_right (by rw [entV_length h.1]; omega), entV_length h.1, List.getElem?_cons_succ, List.getElem?_append_right (by rw [hdrV_length h.2.1]; omega), hdrV_length h.2.1, List.getElem?_append_right (by rw [List.length_map, h.2.2.1]; omega), List.length_map, h.2.2.1]
  rfl
theorem markV_one (m : Mrk) : ∀ u ∈ markV m, u.oneCell' = true := by
  intro u hu
  unfold markV entV hdrV at hu
  simp only [List.mem_append, List.mem_cons, List.mem_map, List.not_mem_nil, or_false] at hu
  rcases hu with (rfl | rfl | ⟨_, _, rfl⟩ | rfl | rfl | rfl) | rfl | (rfl | rfl | rfl | ⟨_, _, rfl⟩ | ⟨_, _, rfl⟩) | ⟨_, _, rfl⟩ | rfl <;> rfl
def noMrk : Mrk := ⟨noEnt, noHdr, List.replicate 32 0, 0, none, 0, 0⟩
theorem noMrk_ok : noMrk.ok := ⟨noEnt_ok, noHdr_ok, by simp [noMrk], by simp [noMrk, I64], by simp [noMrk]⟩
theorem row_mark : RowT Try.prog 38 138 := ⟨_, Try.underlying38, by kernel_rfl, by kernel_rfl⟩
theorem zero_mark : (Try.prog.info? 38).map (·.zero) = some (some (.agg (markV noMrk).toArray)) := by kernel_rfl

theorem isEp_any (n : Int) (w : World) : Calls Try.prog 30 #[.int .i64 n] w fun e w' => e = .returned (.bool (inB n 0 1099511627776)) ∧ w = w' := by
  unfold inB
  by_cases h : 0 ≤ n
  · rw [show decide (0 ≤ n) = true by simpa using h, Bool.true_and]
    go_enter Try.func30, Try.ntmps30
    go_wp2
    go_ret
    exact ⟨rfl, rfl⟩
  · rw [show decide (0 ≤ n) = false by simpa using h, Bool.false_and]
    have h2 : decide (0 ≤ n) = false := by simpa using h
    go_enter Try.func30, Try.ntmps30
    go_wp2
    go_ret
    exact ⟨rfl, rfl⟩

def rightM (m : Mrk) : Bool := rightE m.e && rightH m.h && decide (m.pn ≤ 32) && inB m.expiry 0 1099511627776
set_option maxRecDepth 100000 in
set_option maxHeartbeats 1000000 in
theorem mright_any (m : Mrk) (w : World) (h : m.ok) : Calls Try.prog 20 #[markA m] w fun e w' => e = .returned (.bool (rightM m)) ∧ Below w.heap.size w w' := by
  have h1 := fun w => eright_any m.e w h.1
  have h2 := fun w => hright_any m.h w h.2.1
  have h3 := fun w => isEp_any m.expiry w
  unfold rightM
  have he := fun (j : Nat) u (hu : (entV m.e)[j]? = some u) => mark_ent h hu
  have hh := fun (j : Nat) u (hu : (hdrV m.h)[j]? = some u) => mark_hdr h hu
  have hp := mark_path h
  have hx := mark_exp h
  have le := entV_length h.1
  have lh := hdrV_length h.2.1
  unfold markA
  generalize markV m = xs at *
  generalize entV m.e = es at *
  generalize hdrV m.h = hs at *
  generalize rightE m.e = b1 at *
  generalize rightH m.h = b2 at *
  generalize inB m.expiry 0 1099511627776 = b3 at *
  obtain ⟨b4, hb4⟩ : ∃ q, q = decide (m.pn ≤ 32) := ⟨_, rfl⟩
  rw [← hb4]
  generalize m.pA = pA at *
  generalize m.pn = pn at *
  generalize m.pc = pc at *
  generalize m.expiry = ex at *
  have H1 := Lib.hid h1; have H2 := Lib.hid h2; have H3 := Lib.hid h3
  have HE := Lib.hid he; have HH := Lib.hid hh; have HP := Lib.hid hp; have HX := Lib.hid hx; have LE := Lib.hid le; have LH := Lib.hid lh
  obtain ⟨g, hg⟩ : ∃ g, g = w.heap.size := ⟨_, rfl⟩
  have HG := Lib.hid hg
  clear h1 h2 h3 he hh hp hx le lh hg h
  go_enter Try.func20, Try.ntmps20
  go_wp2_with (first | (with_reducible refine wpl_box (o := ⟨some 1, _, _, _, _, _⟩) rfl rfl rfl ?_))
  intro w1 hb1 hbw1 hsz1
  rw [← HG.out] at hb1 hbw1 hsz1 ⊢
  have B1 := Lib.hid hb1
  have HB := Lib.hid hbw1
  have HZ := Lib.hid (show g ≤ w1.heap.size by omega)
  clear hb1 hbw1 hsz1
  have ME := Lib.hid (show ∀ j u, es[j]? = some u → w1.cell? ⟨g, 0 + j, none⟩ = some u from fun j u hu => by rw [Nat.zero_add]; exact B1.out.at_ (HE.out j u hu))
  go_wp2_with (first | (with_reducible refine wpl_loadm (o := ⟨some 5, _, _, _, _, _⟩) rfl rfl row_entry ME.out rfl LE.out ?_))
  refine (H1.out _).mono ?_
  rintro e w2 ⟨rfl, hb2⟩
  have B2 := Lib.hid (B1.out.call hb2)
  have HB2 := Lib.hid (HB.out.trans (hb2.mono HZ.out))
  have HZ2 := Lib.hid (Nat.le_trans HZ.out hb2.size)
  clear hb2
  cases b1
  · go_wp2_with fail
    go_ret
    exact ⟨rfl, by rw [← HG.out]; exact HB2.out⟩
  have MH := Lib.hid (show ∀ j u, hs[j]? = some u → w2.cell? ⟨g, 38 + j, none⟩ = some u from fun j u hu => B2.out.at_ (HH.out j u hu))
  go_wp2_with (first | (with_reducible refine wpl_loadmw (o := ⟨some _, .load _ _, _, _, _, _⟩) (by first | rfl | (go_simp; done) | fail) rfl row_header MH.out rfl LH.out ?_))
  refine (H2.out _).mono ?_
  rintro e w3 ⟨rfl, hb3⟩
  have B3 := Lib.hid (B2.out.call hb3)
  have HB3 := Lib.hid (HB2.out.trans (hb3.mono HZ2.out))
  clear hb3
  cases b2
  · go_wp2_with fail
    go_ret
    exact ⟨rfl, by rw [← HG.out]; exact HB3.out⟩
  have c37 := B3.out.at_ HP.out
  have c137 := B3.out.at_ HX.out
  have HB4 := Lib.hid hb4
  clear hb4
  cases b4
  · have h32 : ¬ pn ≤ 32 := of_decide_eq_false HB4.out.symm
    have d1 : decide ((pn : Int) ≤ 32) = false := by simp; omega
    have d2 : ((pn : Int) ≤ 32) = False := eq_false (by omega)
    clear h32
    go_wp2_with fail
    go_ret
    exact ⟨rfl, by rw [← HG.out]; exact HB3.out⟩
  have h32 : pn ≤ 32 := of_decide_eq_true HB4.out.symm
  have d1 : decide ((pn : Int) ≤ 32) = true := by simp; omega
  have d2 : ((pn : Int) ≤ 32) = True := eq_true (by omega)
  clear h32
  go_wp2_with fail
  refine (H3.out _).mono ?_
  rintro e w4 ⟨rfl, rfl⟩
  go_wp2_with fail
  go_ret
  exact ⟨rfl, by rw [← HG.out]; exact HB3.out⟩
theorem mold_any (x y : Int) (w : World) (hx : I64 x) (hy : I64 y) : Calls Try.prog 17 #[.int .i64 x, .int .i64 y] w fun e w' => e = .returned (.bool (inB x 0 1099511627776 && inB y 0 1099511627776 && decide (x + 2 < y))) ∧ w = w' := by
  have H1 := Lib.hid (fun w => isEp_any x w)
  have H2 := Lib.hid (fun w => isEp_any y w)
  have hb := fun h => (show inB x 0 1099511627776 = true → 0 ≤ x ∧ x ≤ 1099511627776 by unfold inB; simp) h
  generalize inB x 0 1099511627776 = b1 at *
  generalize inB y 0 1099511627776 = b2 at *
  go_enter Try.func17, Try.ntmps17
  go_wp2_with fail
  refine (H1.out _).mono ?_
  rintro e w1 ⟨rfl, rfl⟩
  cases b1
  · go_wp2_with fail
    go_ret
    exact ⟨rfl, rfl⟩
  have hx2 := hb rfl
  go_wp2_with fail
  refine (H2.out _).mono ?_
  rintro e w1 ⟨rfl, rfl⟩
  cases b2
  · go_wp2_with fail
    go_ret
    exact ⟨rfl, rfl⟩
  go_wp2_with fail
  go_ret
  exact ⟨rfl, rfl⟩
end Go.Proofs.Ytofhohofaedokaa

/- Contracts of the small functions of package sha. -/
namespace Go.Proofs.Ytofhohofaedokaa
open Go.RowKit
attribute [local go_sem ↓ high] add_w
attribute [local go_sem high] xor_w and_w or_w not_w shr_w shl_w wrap_b8
set_option linter.unusedVariables false

theorem neg_and (n : Nat) (h : 1 ≤ n) (h3 : n ≤ 31) : bits BinOp.and IntKind.u64 (IntKind.u64.wrap (-(n : Int))) 31 = ((32 - n : Nat) : Int) := by
  have : ∀ n : Fin 32, 1 ≤ n.val → bits BinOp.and IntKind.u64 (IntKind.u64.wrap (-(n.val : Int))) 31 = ((32 - n.val : Nat) : Int) := by decide +kernel
  exact this ⟨n, by omega⟩ h

theorem shl_nat (x : UInt32) (k : Nat) (hk : k ≤ 31) : w32 x * 2 ^ k % 4294967296 = w32 (x <<< UInt32.ofNat k) := by
  unfold w32
  rw [UInt32.toNat_shiftLeft, UInt32.toNat_ofNat', Nat.shiftLeft_eq, show k % 2 ^ 32 % 32 = k by omega]
  simp
theorem shr_nat (x : UInt32) (k : Nat) (hk : k ≤ 31) : w32 x / 2 ^ k = w32 (x >>> UInt32.ofNat k) := by
  unfold w32
  rw [UInt32.toNat_shiftRight, UInt32.toNat_ofNat', Nat.shiftRight_eq_div_pow, show k % 2 ^ 32 % 32 = k by omega]
  simp
theorem bits_or_w (a b : UInt32) : bits BinOp.or IntKind.u32 (w32 a) (w32 b) = w32 (a ||| b) := by
  have h := or_w a b
  rw [intBits_or] at h
  injection h with h
  injection h

/-- A byte of a slice at place k. -/
theorem Sl.byte {w : World} {Bd n : Nat} {A : Option Addr} {bs : List UInt8} (h : Sl w Bd 1 A n (bs.map B)) {k : Nat} (hk : k < n) : ∃ b off, A = some ⟨b, off, none⟩ ∧ b < Bd ∧ k < bs.length ∧ w.cell? ⟨b, off + k, none⟩ = some (.int .u8 (b8 (bs[k]?.getD 0))) := by
  obtain ⟨b, off, u, e, hb, hu, hc⟩ := h.at_ hk
  rw [List.getElem?_map] at hu
  obtain ⟨z, h1, rfl⟩ := Option.map_eq_some_iff.1 hu
  exact ⟨b, off, e, hb, (List.getElem?_eq_some_iff.1 h1).1, by rw [hc, h1]; rfl⟩

theorem W0 : Value.int .u32 0 = W 0 := rfl

theorem row_id : RowT Try.prog 28 32 := ⟨_, Try.underlying28, by kernel_rfl, by kernel_rfl⟩
theorem zero_id : (Try.prog.info? 28).map (·.zero) = some (some (.agg (List.replicate 32 (B 0)).toArray)) := by kernel_rfl

end Go.Proofs.Ytofhohofaedokaa

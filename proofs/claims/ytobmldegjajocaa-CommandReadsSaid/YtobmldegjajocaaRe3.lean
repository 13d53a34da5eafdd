/- A region that draws its order, walked along a plan: operations that leave the world are taken as soon as they can be, those that act stand in the order that the edges force (or fork). No program in sight.
  Classes: 0 an operation that looks at no world; 1 a read that stands whatever may still happen (Fut); 2 a read behind which all that act wait; 3 an operation that acts; 4 one that acts within Fut. -/
import Derived.Test.YtobmldegjajocaaRe2
import Derived.Below
set_option linter.unusedSimpArgs false
set_option linter.unusedVariables false
set_option maxRecDepth 100000
set_option maxHeartbeats 16000000
namespace Go.Proofs.Ytobmldegjajocaa
open Go.RowKit
inductive Plan where
 | done
 | get (i : Nat) (t : Plan)
 | act (i : Nat) (t : Plan)
 | fork (i : Nat) (s t : Plan)
def noQ : Exit → Act → World → Prop := fun _ _ _ => False
def plCls (cl : List Nat) (i : Nat) : Nat := cl.getD i 3
def plOkc : Nat → Nat → Bool
 | 0, _ => true
 | 1, c => decide (c ≤ 2) || c == 4
 | 2, c => decide (c ≤ 2)
 | _, _ => false
section
variable (P : Program) (md : Region.Mode) (ops : Array Oper) (Fut : World → World → Prop) (cl : List Nat) (Q : Exit → Act → World → Prop)
def plFree (i : Nat) (listed : Array Bool) : Bool :=
 (List.range ops.size).all fun j => j == i || listed.getD j true || (ancs md ops ops.size j).contains i || plOkc (plCls cl i) (plCls cl j)
def planB : Nat → Plan → List Nat → Array Bool → Bool
 | _, .done, hs, listed => hs.isEmpty && (Region.ready md ops listed).isEmpty
 | 0, _, _, _ => false
 | f + 1, .get i t, hs, listed => hs.isEmpty && decide (plCls cl i ≤ 2) && (Region.ready md ops listed).contains i && Region.free md ops listed i && plFree md ops cl i listed && planB f t [] (listed.setIfInBounds i true)
 | f + 1, .act i t, hs, listed => decide (3 ≤ plCls cl i) && (Region.ready md ops listed).all (fun j => (i :: hs).contains j) && !(Region.ready md ops listed).isEmpty && planB f t [] (listed.setIfInBounds i true)
 | f + 1, .fork i s t, hs, listed => decide (3 ≤ plCls cl i) && planB f s [] (listed.setIfInBounds i true) && planB (f + 1) t (i :: hs) listed
def plOK (c : Nat) (o : Oper) (a : Act) (w : World) (v : Value) : Prop :=
 match c with
 | 0 => ∀ w', (execOp a.eval o).run P w' = .ok (.value v) w'
 | 1 => ∀ w', Fut w w' → (execOp a.eval o).run P w' = .ok (.value v) w'
 | _ => (execOp a.eval o).run P w = .ok (.value v) w
def wpActs (i : Nat) (K : Act → World → Prop) (a : Act) (w : World) : Prop :=
 match ops[i]? with
 | none => False
 | some o => if Region.wanted o (yielded ops a.tmps) then o.wp P a w (fun a' w' => (plCls cl i = 4 → Fut w w') ∧ K a' w') noQ else K (a.put o.dst undef) w
def wpS : Plan → Act → World → Prop
 | .done, a, w => Q .normal a w
 | .get i t, a, w => match ops[i]? with
  | none => False
  | some o => if Region.wanted o (yielded ops a.tmps) then ∃ v, plOK P Fut (plCls cl i) o a w v ∧ wpS t (a.put o.dst v) w else wpS t (a.put o.dst undef) w
 | .act i t, a, w => wpActs P ops Fut cl i (wpS t) a w
 | .fork i s t, a, w => wpActs P ops Fut cl i (wpS s) a w ∧ wpS t a w
def wpOpF (i : Nat) (K : Act → World → Prop) (a : Act) (w : World) : Prop :=
 match ops[i]? with
 | none => False
 | some o => if Region.wanted o (yielded ops a.tmps) then
   (if plCls cl i ≤ 2 then ∃ v, (execOp a.eval o).run P w = .ok (.value v) w ∧ K (a.put o.dst v) w else o.wp P a w (fun a' w' => (plCls cl i = 4 → Fut w w') ∧ K a' w') noQ)
  else K (a.put o.dst undef) w
def wpAnyF : Nat → Array Bool → Act → World → Prop
 | 0, listed, a, w => Region.ready md ops listed = [] ∧ Q .normal a w
 | f + 1, listed, a, w => (Region.ready md ops listed = [] → Q .normal a w) ∧ ∀ i ∈ Region.ready md ops listed, wpOpF P ops Fut cl i (wpAnyF f (listed.setIfInBounds i true)) a w
end
section
variable {P : Program} {md : Region.Mode} {ops : Array Oper} {Fut : World → World → Prop} {cl : List Nat} {Q : Exit → Act → World → Prop}
theorem oper_wp_no {o : Oper} {a : Act} {w : World} {K K' : Act → World → Prop} {Q : Exit → Act → World → Prop} (h : ∀ a w, K a w → K' a w) (hh : o.wp P a w K noQ) : o.wp P a w K' Q := by
 unfold Oper.wp at *;generalize (execOp a.eval o).run P w = r at *;cases r with
 | ok n w' =>
  cases n <;> simp only [Oper.upon] at hh ⊢
  case value => exact h _ _ hh
  case skip => exact h _ _ hh
  case defer => exact h _ _ hh
  case enter f args =>
   refine Calls.mono hh fun e w'' he => ?_
   cases e with
   | returned u => exact h _ _ he
   | panicked c => exact he.elim
   | outgrown => obtain ⟨_, _, hf⟩ := he; exact hf.elim
  case row => exact Rows.mono hh fun _ _ he => h _ _ he
 | halt x w' =>
  cases x <;> simp only [Oper.upon] at hh ⊢
  case panic u => exact hh.elim
theorem wpOpF_mono {i : Nat} {K K' : Act → World → Prop} {a : Act} {w : World} (h : ∀ a w, K a w → K' a w) (hh : wpOpF P ops Fut cl i K a w) : wpOpF P ops Fut cl i K' a w := by
 unfold wpOpF at *;cases ho : ops[i]? with
 | none => rw [ho] at hh; exact hh
 | some o =>
  rw [ho] at hh;simp only at hh ⊢;split
  ·rename_i hw;rw [if_pos hw] at hh;split
   ·rename_i hc; rw [if_pos hc] at hh; obtain ⟨v, h1, h2⟩ := hh; exact ⟨v, h1, h _ _ h2⟩
   ·rename_i hc; rw [if_neg hc] at hh; exact oper_wp_no (fun a w h1 => ⟨h1.1, h _ _ h1.2⟩) hh
  ·rename_i hw; rw [if_neg hw] at hh; exact h _ _ hh
theorem wpOp_of_F {i : Nat} {K : Act → World → Prop} {a : Act} {w : World} (hh : wpOpF P ops Fut cl i K a w) : wpOp P ops Q i K a w := by
 unfold wpOpF at hh;unfold wpOp;cases ho : ops[i]? with
 | none => rw [ho] at hh; exact hh.elim
 | some o =>
  rw [ho] at hh;simp only at hh ⊢;split
  ·rename_i hw;rw [if_pos hw] at hh
   left
   split at hh
   ·obtain ⟨v, h1, h2⟩ := hh;unfold Oper.wp; rw [h1]; exact h2
   ·exact oper_wp_no (fun a w h1 => h1.2) hh
  ·rename_i hw; rw [if_neg hw] at hh; exact hh
theorem wpAny_of_F : ∀ (f : Nat) (listed : Array Bool) (a : Act) (w : World), wpAnyF P md ops Fut cl Q f listed a w → wpAny P md ops Q f listed a w
 | 0, _, _, _, h => h
 | f + 1, _, _, _, h => ⟨h.1, fun i hi => wpOp_of_F (wpOpF_mono (fun a w h1 => wpAny_of_F f _ a w h1) (h.2 i hi))⟩
theorem wpOpF_put {j : Nat} {oi oj : Oper} {v : Value} (hj : ops[j]? = some oj) (hap : oi.apart ops oj = true) (hsi : ∀ cs b, oi.op ≠ .select cs b) (hsj : ∀ cs b, oj.op ≠ .select cs b)
  {K : Act → World → Prop} {a : Act} {w : World} (h : wpOpF P ops Fut cl j K (a.put oi.dst v) w) :
  wpOpF P ops Fut cl j (fun a' w' => (execOp a'.eval oi = execOp a.eval oi ∧ Region.wanted oi (yielded ops a'.tmps) = Region.wanted oi (yielded ops a.tmps)) ∧ (plCls cl j ≤ 2 → w' = w) ∧ (plCls cl j = 4 → w' = w ∨ Fut w w') ∧ K (a'.put oi.dst v) w') a w := by
 obtain ⟨h1, h2, h3⟩ := Oper.apart_spec hap;have keep : ∀ (a : Act) u, execOp (a.put oj.dst u).eval oi = execOp a.eval oi ∧ Region.wanted oi (yielded ops (a.put oj.dst u).tmps) = Region.wanted oi (yielded ops a.tmps) := fun a u => ⟨execOp_put oi hsi a oj.dst u h3, wanted_put oi a oj.dst u h3⟩
 unfold wpOpF at *;rw [hj] at h ⊢;simp only at h ⊢;rw [wanted_put oj a oi.dst v h1] at h;split
 ·rename_i hw;rw [if_pos hw] at h;rw [execOp_put oj hsj a oi.dst v h1] at h;split
  ·rename_i hc;rw [if_pos hc] at h;obtain ⟨u, e1, e2⟩ := h;exact ⟨u, e1, keep a u, fun _ => by trivial, fun _ => .inl (by trivial), by rw [← Act.put_comm a v u h2]; exact e2⟩
  ·rename_i hc;rw [if_neg hc] at h;unfold Oper.wp at *;rw [execOp_put oj hsj a oi.dst v h1] at h;generalize (execOp a.eval oj).run P w = r at *;cases r with
   | ok n w' =>
    cases n <;> simp only [Oper.upon] at h ⊢
    case value u => exact ⟨h.1, keep a u, fun e => absurd e hc, fun e => .inr (h.1 e), by rw [← Act.put_comm a v u h2]; exact h.2⟩
    case skip => exact ⟨h.1, keep a undef, fun e => absurd e hc, fun e => .inr (h.1 e), by rw [← Act.put_comm a v undef h2]; exact h.2⟩
    case defer d =>
     refine ⟨h.1, keep { a with defers := d :: a.defers } undef, fun e => absurd e hc, fun e => .inr (h.1 e), ?_⟩;rw [← Act.put_comm _ v undef h2, ← Act.put_defers];exact h.2
    case enter f args =>
     refine Calls.mono h fun e w'' he => ?_
     cases e with
     | returned u => exact ⟨he.1, keep a u, fun e => absurd e hc, fun e => .inr (he.1 e), by rw [← Act.put_comm a v u h2]; exact he.2⟩
     | panicked c => exact he
     | outgrown => exact he
    case row row args => exact Rows.mono h fun u w'' he => ⟨he.1, keep a u, fun e => absurd e hc, fun e => .inr (he.1 e), by rw [← Act.put_comm a v u h2]; exact he.2⟩
   | halt x w' =>
    cases x <;> simp only [Oper.upon] at h ⊢
    case panic u => exact h.elim
 ·rename_i hw;rw [if_neg hw] at h;exact ⟨keep a undef, fun _ => by trivial, fun _ => .inl (by trivial), by rw [← Act.put_comm a v undef h2]; exact h⟩
theorem wpAnyF_first {i : Nat} {oi : Oper} {v : Value} (hi : ops[i]? = some oi) (hsel : ∀ (j : Nat) (o : Oper) cs b, ops[j]? = some o → o.op ≠ .select cs b) (hc : plCls cl i ≤ 2) (hrefl : ∀ w, Fut w w) (htr : ∀ w1 w2 w3, Fut w1 w2 → Fut w2 w3 → Fut w1 w3) :
  ∀ (f : Nat) (listed : Array Bool) (a : Act) (w : World), PClosed md ops listed →
   (∀ j oj, ops[j]? = some oj → j ≠ i → listed.getD j true = false → i ∉ ancs md ops ops.size j → oi.apart ops oj = true ∧ plOkc (plCls cl i) (plCls cl j) = true) →
   i ∈ Region.ready md ops listed → (if Region.wanted oi (yielded ops a.tmps) then plOK P Fut (plCls cl i) oi a w v else v = undef) →
   wpAnyF P md ops Fut cl Q f (listed.setIfInBounds i true) (a.put oi.dst v) w → wpAnyF P md ops Fut cl Q (f + 1) listed a w := by
 have own : ∀ (a : Act) (w : World) (K : Act → World → Prop), (if Region.wanted oi (yielded ops a.tmps) then plOK P Fut (plCls cl i) oi a w v else v = undef) → K (a.put oi.dst v) w → wpOpF P ops Fut cl i K a w := by
  intro a w K hy hK;unfold wpOpF;rw [hi];simp only;split
  ·rename_i hw;rw [if_pos hw] at hy;try rw [if_pos hc]
   refine ⟨v, ?_, hK⟩;unfold plOK at hy;split at hy
   ·exact hy w
   ·exact hy w (hrefl w)
   ·exact hy
  ·rename_i hw;rw [if_neg hw] at hy;rw [← hy]; exact hK
 intro f
 induction f with
 | zero =>
  intro listed a w _ _ hr hy H;refine ⟨fun h => (by rw [h] at hr; cases hr), fun j hj => ?_⟩;by_cases hji : j = i
  ·subst hji; exact own a w _ hy H
  ·have := ready_mono hj hji;rw [H.1] at this;cases this
 | succ f ih =>
  intro listed a w hcl hfree hr hy H;refine ⟨fun h => (by rw [h] at hr; cases hr), fun j hj => ?_⟩;by_cases hji : j = i
  ·subst hji; exact own a w _ hy H
  ·have h1 := H.2 j (ready_mono hj hji);obtain ⟨hjun, oj, hoj, hall⟩ := mem_ready.1 hj
   have hnot : i ∉ ancs md ops ops.size j := fun hm => by
    have := ancs_listed hcl ops.size j (fun oi' hoi' => by rw [hoj] at hoi'; cases hoi'; exact hall) i hm;rw [getD_tf (mem_ready.1 hr).1] at this;cases this
   obtain ⟨hap, hok⟩ := hfree j oj hoj hji hjun hnot;have h2 := wpOpF_put hoj hap (fun cs b => hsel i oi cs b hi) (fun cs b => hsel j oj cs b hoj) h1;refine wpOpF_mono (fun a' w' h3 => ?_) h2;obtain ⟨⟨k1, k2⟩, k3, k4, k5⟩ := h3;refine ih (listed.setIfInBounds j true) a' w' (closed_set hcl hj) (fun k ok hk hki hun hno => hfree k ok hk hki ?_ hno) (ready_mono hr (Ne.symm hji)) ?_ ?_
   ·by_cases hjk : j = k
    ·subst hjk; exact hjun
    ·rw [getD_ne true hjk] at hun; exact hun
   ·rw [k2];split
    ·rename_i hw;rw [if_pos hw] at hy;unfold plOK at hy ⊢;rw [k1];split at hy
     ·exact hy
     ·rename_i hc1;rw [hc1] at hok;simp only [plOkc, Bool.or_eq_true, decide_eq_true_eq, beq_iff_eq] at hok;intro w'' hf;rcases hok with hok | hok
      ·rw [k3 hok] at hf; exact hy w'' hf
      ·rcases k4 hok with e | e
       ·rw [e] at hf; exact hy w'' hf
       ·exact hy w'' (htr _ _ _ e hf)
     ·rename_i n1 n2
      have h22 : plCls cl i = 2 := by
       have : plCls cl i ≠ 0 := n1;have : plCls cl i ≠ 1 := n2;omega
      rw [h22] at hok;simp only [plOkc, decide_eq_true_eq] at hok;rw [k3 hok]; exact hy
    ·rename_i hw;rw [if_neg hw] at hy;exact hy
   ·rw [Array.setIfInBounds_comm _ _ hji];exact k5
theorem wpOpF_of_acts {i : Nat} {K : Act → World → Prop} {a : Act} {w : World} (hc : 3 ≤ plCls cl i) (h : wpActs P ops Fut cl i K a w) : wpOpF P ops Fut cl i K a w := by
 unfold wpActs at h;unfold wpOpF;cases ho : ops[i]? with
 | none => rw [ho] at h; exact h
 | some o =>
  rw [ho] at h;simp only at h ⊢;rw [if_neg (show ¬ plCls cl i ≤ 2 by omega)];exact h
theorem wpAnyF_of_plan (hs : Region.noSelect ops = true) (hrefl : ∀ w, Fut w w) (htr : ∀ w1 w2 w3, Fut w1 w2 → Fut w2 w3 → Fut w1 w3) :
  ∀ (p : Plan) (f : Nat) (hds : List Nat) (listed : Array Bool) (a : Act) (w : World), PClosed md ops listed → planB md ops cl f p hds listed = true →
   (∀ i ∈ hds, i ∈ Region.ready md ops listed → ∀ g, f = g + 1 → wpOpF P ops Fut cl i (wpAnyF P md ops Fut cl Q g (listed.setIfInBounds i true)) a w) → wpS P ops Fut cl Q p a w → wpAnyF P md ops Fut cl Q f listed a w
 | .done, f, hds, listed, a, w, hcl, hB, hh, h => by
  have hr : Region.ready md ops listed = [] := by
   cases f <;> (simp only [planB, Bool.and_eq_true] at hB; simpa using hB.2)
  cases f with
  | zero => exact ⟨hr, h⟩
  | succ f => exact ⟨fun _ => h, fun i hi => by rw [hr] at hi; cases hi⟩
 | .get i t, f, hds, listed, a, w, hcl, hB, hh, h => by
  cases f with
  | zero => simp [planB] at hB
  | succ f =>
   simp only [planB, Bool.and_eq_true, decide_eq_true_eq] at hB;obtain ⟨⟨⟨⟨⟨_, h1⟩, h2⟩, h3⟩, h4⟩, h5⟩ := hB;have hr : i ∈ Region.ready md ops listed := by simpa using h2
   unfold wpS at h;cases ho : ops[i]? with
   | none => rw [ho] at h; exact h.elim
   | some o =>
    rw [ho] at h;simp only at h
    have hfree : ∀ j oj, ops[j]? = some oj → j ≠ i → listed.getD j true = false → i ∉ ancs md ops ops.size j → o.apart ops oj = true ∧ plOkc (plCls cl i) (plCls cl j) = true := by
     intro j oj hoj hne hun hno;have hj : j < ops.size := (Array.getElem?_eq_some_iff.1 hoj).1;constructor
     ·refine Region.free_spec ho h3 j oj hoj hne hun fun e he hb heq => hno ?_
      obtain ⟨n, hn⟩ : ∃ n, ops.size = n + 1 := ⟨ops.size - 1, by omega⟩;rw [hn];unfold ancs;refine List.mem_flatMap.2 ⟨e.on, ?_, by rw [heq]; exact List.mem_cons_self⟩;rw [hoj];exact List.mem_map.2 ⟨e, List.mem_filter.2 ⟨by simpa using he, hb⟩, rfl⟩
     ·unfold plFree at h4;have := List.all_eq_true.1 h4 j (List.mem_range.2 hj);simp only [Bool.or_eq_true, beq_iff_eq] at this;rcases this with ((e | e) | e) | e
      ·exact absurd e hne
      ·rw [hun] at e; cases e
      ·exact absurd (by simpa using e) hno
      ·exact e
    have next : ∀ v, (if Region.wanted o (yielded ops a.tmps) then plOK P Fut (plCls cl i) o a w v else v = undef) → wpS P ops Fut cl Q t (a.put o.dst v) w → wpAnyF P md ops Fut cl Q (f + 1) listed a w := fun v hy hk =>
     wpAnyF_first ho (Region.noSelect_spec hs) h1 hrefl htr f listed a w hcl hfree hr hy (wpAnyF_of_plan hs hrefl htr t f [] _ _ w (closed_set hcl hr) h5 (fun j hj => by cases hj) hk)
    split at h
    ·rename_i hw;obtain ⟨v, hv, hk⟩ := h;exact next v (by rw [if_pos hw]; exact hv) hk
    ·rename_i hw;exact next undef (by rw [if_neg hw]) h
 | .act i t, f, hds, listed, a, w, hcl, hB, hh, h => by
  cases f with
  | zero => simp [planB] at hB
  | succ f =>
   simp only [planB, Bool.and_eq_true, decide_eq_true_eq] at hB;obtain ⟨⟨⟨h1, h2⟩, h3⟩, h4⟩ := hB;refine ⟨fun e => by rw [e] at h3; simp at h3, fun j hj => ?_⟩;have hm := List.all_eq_true.1 h2 j hj;have hm : j = i ∨ j ∈ hds := by simpa using hm
   rcases hm with e | e
   ·subst e;refine wpOpF_of_acts h1 ?_;unfold wpS at h;unfold wpActs at h ⊢;cases ho : ops[j]? with
    | none => rw [ho] at h; exact h
    | some o =>
     rw [ho] at h;simp only at h ⊢;split
     ·rename_i hw;rw [if_pos hw] at h;exact oper_wp_no (fun a w h1 => ⟨h1.1, wpAnyF_of_plan hs hrefl htr t f [] _ _ _ (closed_set hcl hj) h4 (fun j hj => by cases hj) h1.2⟩) h
     ·rename_i hw;rw [if_neg hw] at h;exact wpAnyF_of_plan hs hrefl htr t f [] _ _ _ (closed_set hcl hj) h4 (fun j hj => by cases hj) h
   ·exact hh j e hj f rfl
 | .fork i s t, f, hds, listed, a, w, hcl, hB, hh, h => by
  cases f with
  | zero => simp [planB] at hB
  | succ f =>
   simp only [planB, Bool.and_eq_true, decide_eq_true_eq] at hB;obtain ⟨⟨h1, h2⟩, h3⟩ := hB;unfold wpS at h;refine wpAnyF_of_plan hs hrefl htr t (f + 1) (i :: hds) listed a w hcl h3 (fun j hj hr g hg => ?_) h.2;obtain rfl : f = g := by omega
   rcases List.mem_cons.1 hj with e | e
   ·subst e;refine wpOpF_of_acts h1 ?_;have h0 := h.1;unfold wpActs at h0 ⊢;cases ho : ops[j]? with
    | none => rw [ho] at h0; exact h0
    | some o =>
     rw [ho] at h0;simp only at h0 ⊢;split
     ·rename_i hw;rw [if_pos hw] at h0;exact oper_wp_no (fun a w h1 => ⟨h1.1, wpAnyF_of_plan hs hrefl htr s f [] _ _ _ (closed_set hcl hr) h2 (fun j hj => by cases hj) h1.2⟩) h0
     ·rename_i hw;rw [if_neg hw] at h0;exact wpAnyF_of_plan hs hrefl htr s f [] _ _ _ (closed_set hcl hr) h2 (fun j hj => by cases hj) h0
   ·exact hh j e hr f rfl
def Grow (w w' : World) : Prop := Below w.heap.size w w'
theorem Grow.refl (w : World) : Grow w w := Below.refl _ _
theorem Grow.trans (w1 w2 w3 : World) (h : Grow w1 w2) (k : Grow w2 w3) : Grow w1 w3 := below_chain h k
theorem Drawn.grow {w w' : World} (h : Drawn w w') : Grow w w' := h.all
end
end Go.Proofs.Ytobmldegjajocaa
theorem Go.RowKit.Below.grow' {w0 w w' : Go.World} (h : Go.RowKit.Below w0.heap.size w0 w) (k : Go.Proofs.Ytobmldegjajocaa.Grow w w') : Go.RowKit.Below w0.heap.size w0 w' := Go.Proofs.Ytobmldegjajocaa.below_step h h.size k
namespace Go.Proofs.Ytobmldegjajocaa
open Go.RowKit
section
variable {P : Program} {md : Region.Mode} {ops : Array Oper} {Fut : World → World → Prop} {cl : List Nat} {Q : Exit → Act → World → Prop}
theorem Sl.grow {w w' : World} {sz n : Nat} {A : Option Addr} {xs : List Value} (h : Sl w w.heap.size sz A n xs) (k : Grow w w') : Sl w' w'.heap.size sz A n xs := (h.below k).more k.size
theorem Blk.grow {w w' : World} {g : Nat} {t : TypeId} {cs : List Value} (h : Blk w g t cs) (k : Grow w w') : Blk w' g t cs := h.call k
end
end Go.Proofs.Ytobmldegjajocaa
theorem Go.World.ownsRow.grow {w w' : Go.World} {base : Nat} {e : Go.TypeId} {sz n c : Nat} {A : Option Go.Addr} {xs : List Go.Value} (h : w.ownsRow base e sz (.slice A n c) n xs) (k : Go.Proofs.Ytobmldegjajocaa.Grow w w') : w'.ownsRow base e sz (.slice A n c) n xs := Go.Proofs.Ytobmldegjajocaa.own_below h k
namespace Go.Proofs.Ytobmldegjajocaa
open Go.RowKit
section
variable {P : Program} {md : Region.Mode} {ops : Array Oper} {Fut : World → World → Prop} {cl : List Nat} {Q : Exit → Act → World → Prop}
theorem alloc_new (w : World) (cs : Array Value) (T : TypeId) : Blk (w.alloc (.cells cs T)) w.heap.size T cs.toList ∧ Grow w (w.alloc (.cells cs T)) ∧ (w.alloc (.cells cs T)).heap.size = w.heap.size + 1 :=
 ⟨by have := heap_alloc_new w (.cells cs T); simpa [Blk] using this, (Below.refl _ _).alloc (Nat.le_refl _) _, by simp⟩
theorem alloc_eq {w w2 : World} {cs : Array Value} {T : TypeId} (h : w.alloc (.cells cs T) = w2) : Blk w2 w.heap.size T cs.toList ∧ Grow w w2 ∧ w2.heap.size = w.heap.size + 1 := by
 subst h; exact alloc_new w cs T
theorem Sl.from1 {w : World} {B n k c : Nat} {A : Option Addr} {xs : List Value} (h : Sl w B 1 A n xs) (hk : k ≤ n) (hc : n ≤ c) : Sl w B 1 (if c = k then A else Option.map (fun x => x.add k) A) (n - k) (xs.drop k) := by
 have h1 := h.cut (k := k) (m := n - k) (cap := c) (by omega) hc;rw [Nat.mul_one, Nat.mul_one] at h1;rw [List.take_of_length_le (by rw [List.length_drop, h.len]; exact Nat.le_refl _)] at h1;exact h1
def planOf (l : List Oper) (cl : List Nat) (p : Plan) : Bool := Region.noSelect l.toArray && planB .any l.toArray cl l.length p [] (Array.replicate l.length false)
theorem wp_plan {id : Nat} {a : Act} {w : World} {l : List Oper} (Fut : World → World → Prop) (cl : List Nat) (p : Plan) (hm : P.follows .mixedOrders = true) (hB : planOf l cl p = true) (hrefl : ∀ w, Fut w w) (htr : ∀ w1 w2 w3, Fut w1 w2 → Fut w2 w3 → Fut w1 w3)
  (h : ∀ w2, Drawn w w2 → wpS P l.toArray Fut cl Q p a w2) : (Code.region id l.toArray true).wp P Q a w := by
 replace h := h w.drew (Drawn.one w);simp only [planOf, Bool.and_eq_true] at hB;refine wp_region_any hm (wpAny_of_F (Fut := Fut) (cl := cl) _ _ _ _ ?_)
 have h0 := wpAnyF_of_plan (Q := Q) (md := .any) hB.1 hrefl htr p l.length [] (Array.replicate l.length false) a w.drew (fun j oj _ hj => by
  rw [Array.getD_eq_getD_getElem?, Array.getElem?_replicate] at hj
  split at hj <;> simp at hj) hB.2 (fun j hj => by cases hj) h
 simpa using h0
theorem wpp {id : Nat} {a : Act} {w : World} {l : List Oper} (Fut : World → World → Prop) (cl : List Nat) (p : Plan) (hrefl : ∀ w, Fut w w) (htr : ∀ w1 w2 w3, Fut w1 w2 → Fut w2 w3 → Fut w1 w3) (h : ∀ w2, Drawn w w2 → wpS P l.toArray Fut cl Q p a w2) (hm : P.follows .mixedOrders = true := by kernel_rfl) (hB : planOf l cl p = true := by kernel_rfl) : (Code.region id l.toArray true).wp P Q a w := wp_plan Fut cl p hm hB hrefl htr h
variable {l : List Oper} {o : Oper} {i : Nat} {t s : Plan} {a : Act} {w : World}
theorem pl_done (h : Q .normal a w) : wpS P ops Fut cl Q .done a w := h
theorem pl_calm {v : Value} (hi : ops[i]? = some o) (hc : plCls cl i = 0) (hw : Region.wanted o (yielded ops a.tmps) = true) (h : ∀ w', (execOp a.eval o).run P w' = .ok (.value v) w')
  (hk : ∀ K : Act → World → Prop, (∀ a w, wpS P ops Fut cl Q t a w → K a w) → K (a.put o.dst v) w) : wpS P ops Fut cl Q (.get i t) a w := by
 unfold wpS; rw [hi]; simp only; rw [if_pos hw, hc]; exact ⟨v, h, hk _ fun _ _ h => h⟩
theorem plc {P : Program} {ops : Array Oper} {Fut : World → World → Prop} {cl : List Nat} {Q : Exit → Act → World → Prop} {o : Oper} {i : Nat} {t : Plan} {a : Act} {w : World} {v : Value} (hk : ∀ K : Act → World → Prop, (∀ a w, wpS P ops Fut cl Q t a w → K a w) → K (a.put o.dst v) w) (hi : ops[i]? = some o := by exact rfl) (hc : plCls cl i = 0 := by exact rfl) (hw : Region.wanted o (yielded ops a.tmps) = true := by first | exact wanted_none rfl | (go_simp; done) | rfl) (h : ∀ w_, (execOp a.eval o).run P w_ = .ok (.value v) w_ := by intro w_; first | (go_simp; rfl) | (go_simp; done) | rfl) : wpS P ops Fut cl Q (.get i t) a w := pl_calm hi hc hw h hk
theorem pl_read {v : Value} (hi : ops[i]? = some o) (hc : plCls cl i = 1) (hw : Region.wanted o (yielded ops a.tmps) = true) (h : ∀ w', Fut w w' → (execOp a.eval o).run P w' = .ok (.value v) w')
  (hk : ∀ K : Act → World → Prop, (∀ a w, wpS P ops Fut cl Q t a w → K a w) → K (a.put o.dst v) w) : wpS P ops Fut cl Q (.get i t) a w := by
 unfold wpS; rw [hi]; simp only; rw [if_pos hw, hc]; exact ⟨v, h, hk _ fun _ _ h => h⟩
theorem plr {v : Value} (h : ∀ w', Fut w w' → (execOp a.eval o).run P w' = .ok (.value v) w') (hk : ∀ K : Act → World → Prop, (∀ a w, wpS P ops Fut cl Q t a w → K a w) → K (a.put o.dst v) w) (hi : ops[i]? = some o := by exact rfl) (hc : plCls cl i = 1 := by exact rfl) (hw : Region.wanted o (yielded ops a.tmps) = true := by exact wanted_none rfl) : wpS P ops Fut cl Q (.get i t) a w := pl_read hi hc hw h hk
theorem pl_now {v : Value} (hi : ops[i]? = some o) (hc : plCls cl i = 2) (hw : Region.wanted o (yielded ops a.tmps) = true) (h : (execOp a.eval o).run P w = .ok (.value v) w)
  (hk : ∀ K : Act → World → Prop, (∀ a w, wpS P ops Fut cl Q t a w → K a w) → K (a.put o.dst v) w) : wpS P ops Fut cl Q (.get i t) a w := by
 unfold wpS; rw [hi]; simp only; rw [if_pos hw, hc]; exact ⟨v, h, hk _ fun _ _ h => h⟩
theorem pl_skip (hi : ops[i]? = some o) (hw : Region.wanted o (yielded ops a.tmps) = false)
  (hk : ∀ K : Act → World → Prop, (∀ a w, wpS P ops Fut cl Q t a w → K a w) → K (a.put o.dst undef) w) : wpS P ops Fut cl Q (.get i t) a w := by
 unfold wpS; rw [hi]; simp only; rw [if_neg (by rw [hw]; simp)]; exact hk _ fun _ _ h => h
theorem pls (hk : ∀ K : Act → World → Prop, (∀ a w, wpS P ops Fut cl Q t a w → K a w) → K (a.put o.dst undef) w) (hi : ops[i]? = some o := by exact rfl) (hw : Region.wanted o (yielded ops a.tmps) = false := by first | (go_simp; done) | rfl) : wpS P ops Fut cl Q (.get i t) a w := pl_skip hi hw hk
theorem pl_skipa (hi : ops[i]? = some o) (hw : Region.wanted o (yielded ops a.tmps) = false)
  (hk : ∀ K : Act → World → Prop, (∀ a w, wpS P ops Fut cl Q t a w → K a w) → K (a.put o.dst undef) w) : wpS P ops Fut cl Q (.act i t) a w := by
 unfold wpS wpActs; rw [hi]; simp only; rw [if_neg (by rw [hw]; simp)]; exact hk _ fun _ _ h => h
theorem psa (hk : ∀ K : Act → World → Prop, (∀ a w, wpS P ops Fut cl Q t a w → K a w) → K (a.put o.dst undef) w) (hi : ops[i]? = some o := by exact rfl) (hw : Region.wanted o (yielded ops a.tmps) = false := by first | (go_simp; done) | rfl) : wpS P ops Fut cl Q (.act i t) a w := pl_skipa hi hw hk
def toK (K : Act → World → Prop) : Exit → Act → World → Prop
 | .normal, a, w => K a w
 | _, _, _ => False
theorem acts_of_list {K : Act → World → Prop} (hi : ops[i]? = some o) (h : wpList P ops (toK fun a' w' => (plCls cl i = 4 → Fut w w') ∧ K a' w') [o] a w) (hw : Region.wanted o (yielded ops a.tmps) = true) : wpActs P ops Fut cl i K a w := by
 unfold wpActs; rw [hi]; simp only; rw [if_pos hw];unfold wpList at h;rw [if_pos hw] at h;have e : (fun a' w' => wpList P ops (toK fun a' w' => (plCls cl i = 4 → Fut w w') ∧ K a' w') [] a' w') = fun a' w' => (plCls cl i = 4 → Fut w w') ∧ K a' w' := rfl
 rcases h with h | ⟨_, _, _, hf⟩
 ·unfold Oper.wp at h ⊢;generalize (execOp a.eval o).run P w = r at *;cases r with
  | ok n w' =>
   cases n <;> simp only [Oper.upon] at h ⊢
   case value => exact h
   case skip => exact h
   case defer => exact h
   case enter f args =>
    refine Calls.mono h fun e w'' he => ?_
    cases e with
    | returned u => exact he
    | panicked c => exact he.elim
    | outgrown => obtain ⟨_, _, hf⟩ := he; exact hf.elim
   case row => exact h
  | halt x w' =>
   cases x <;> simp only [Oper.upon] at h ⊢
   case panic u => exact h.elim
 ·exact hf.elim
theorem pl_act (hi : ops[i]? = some o) (hw : Region.wanted o (yielded ops a.tmps) = true)
  (hk : ∀ K : Act → World → Prop, (∀ a' w', (plCls cl i = 4 → Fut w w') → wpS P ops Fut cl Q t a' w' → K a' w') → wpList P ops (toK K) [o] a w) : wpS P ops Fut cl Q (.act i t) a w := by
 unfold wpS;exact acts_of_list hi (hk _ fun _ _ h1 h2 => ⟨h1, h2⟩) hw
theorem pac (hk : ∀ K : Act → World → Prop, (∀ a' w', (plCls cl i = 4 → Fut w w') → wpS P ops Fut cl Q t a' w' → K a' w') → wpList P ops (toK K) [o] a w) (hi : ops[i]? = some o := by exact rfl) (hw : Region.wanted o (yielded ops a.tmps) = true := by exact wanted_none rfl) : wpS P ops Fut cl Q (.act i t) a w := pl_act hi hw hk
theorem pl_fork (hi : ops[i]? = some o) (hw : Region.wanted o (yielded ops a.tmps) = true)
  (hk : ∀ K : Act → World → Prop, (∀ a' w', (plCls cl i = 4 → Fut w w') → wpS P ops Fut cl Q s a' w' → K a' w') → wpList P ops (toK K) [o] a w) (ht : wpS P ops Fut cl Q t a w) : wpS P ops Fut cl Q (.fork i s t) a w := by
 unfold wpS;exact ⟨acts_of_list hi (hk _ fun _ _ h1 h2 => ⟨h1, h2⟩) hw, ht⟩
theorem pl_load {T : TypeId} {x : Operand} {p : Addr} {v : Value} (hi : ops[i]? = some o) (hc : plCls cl i = 1) (hw : Region.wanted o (yielded ops a.tmps) = true) (ho : o.op = .load T x) (hx : a.eval x = .pointer (some p))
  (hT : (match P.underlying T with | some (.struct _) | some (.array _ _) => false | some _ => true | none => false) = true) (hv : w.cell? p = some v)
  (hk : ∀ K : Act → World → Prop, (∀ a w, wpS P ops Grow cl Q t a w → K a w) → K (a.put o.dst v) w) : wpS P ops Grow cl Q (.get i t) a w := by
 refine pl_read hi hc hw (fun w' hf => ?_) hk
 have hv' : w'.cell? p = some v := by
  have := World.block_lt_of_cell? w p hv;rw [hf.cell this]; exact hv
 unfold execOp;simp only [ho, hx, Instr.loadAt, Instr.sureAddr, Sem.run_bind, Sem.run_pure, Result.andThen_ok];cases hd : P.underlying T with
 | none => rw [hd] at hT; cases hT
 | some d =>
  rw [hd] at hT
  have hagg : (isAgg T).run P w' = .ok false w' := by
   unfold isAgg;rw [Sem.run_bind, run_underlying hd w'];cases d <;> simp_all
  simp [loadVar, hagg, load, Sem.run, hv']
theorem pl_loadnow {T : TypeId} {x : Operand} {p : Addr} {v : Value} (hi : ops[i]? = some o) (hc : plCls cl i = 2) (hw : Region.wanted o (yielded ops a.tmps) = true) (ho : o.op = .load T x) (hx : a.eval x = .pointer (some p))
  (hT : (match P.underlying T with | some (.struct _) | some (.array _ _) => false | some _ => true | none => false) = true) (hv : w.cell? p = some v)
  (hk : ∀ K : Act → World → Prop, (∀ a w, wpS P ops Fut cl Q t a w → K a w) → K (a.put o.dst v) w) : wpS P ops Fut cl Q (.get i t) a w := by
 refine pl_now hi hc hw ?_ hk;unfold execOp;simp only [ho, hx, Instr.loadAt, Instr.sureAddr, Sem.run_bind, Sem.run_pure, Result.andThen_ok];cases hd : P.underlying T with
 | none => rw [hd] at hT; cases hT
 | some d =>
  rw [hd] at hT
  have hagg : (isAgg T).run P w = .ok false w := by
   unfold isAgg;rw [Sem.run_bind, run_underlying hd w];cases d <;> simp_all
  simp [loadVar, hagg, load, Sem.run, hv]
theorem pl_loadb {T : TypeId} {x : Operand} {n : Nat} {g : Nat} {T' : TypeId} {cs : List Value} (hi : ops[i]? = some o) (hc : plCls cl i = 1) (hw : Region.wanted o (yielded ops a.tmps) = true) (ho : o.op = .load T x) (hT : RowT P T n)
  (hb : Blk w g T' cs) (hx : a.eval x = .pointer (some ⟨g, 0, none⟩)) (hn : cs.length = n)
  (hk : ∀ K : Act → World → Prop, (∀ a w, wpS P ops Grow cl Q t a w → K a w) → K (a.put o.dst (.agg cs.toArray)) w) : wpS P ops Grow cl Q (.get i t) a w := by
 refine pl_read hi hc hw (fun w' hf => ?_) hk;obtain ⟨d, hu, hd, hi⟩ := hT;have hrun := run_loadVar_row (P := P) w' g T' T cs.toArray (0, 0) d (hb.call hf) hu (by revert hd; cases d <;> simp) (by rw [hi]; simp [hn]);unfold execOp;simp only [ho, hx, Instr.loadAt, Instr.sureAddr, Sem.run_bind, Sem.run_pure, Result.andThen_ok, hrun]
theorem pl_loadbnow {T : TypeId} {x : Operand} {n : Nat} {g : Nat} {T' : TypeId} {cs : List Value} (hi : ops[i]? = some o) (hc : plCls cl i = 2) (hw : Region.wanted o (yielded ops a.tmps) = true) (ho : o.op = .load T x) (hT : RowT P T n)
  (hb : Blk w g T' cs) (hx : a.eval x = .pointer (some ⟨g, 0, none⟩)) (hn : cs.length = n)
  (hk : ∀ K : Act → World → Prop, (∀ a w, wpS P ops Fut cl Q t a w → K a w) → K (a.put o.dst (.agg cs.toArray)) w) : wpS P ops Fut cl Q (.get i t) a w := by
 refine pl_now hi hc hw ?_ hk;obtain ⟨d, hu, hd, hi⟩ := hT;have hrun := run_loadVar_row (P := P) w g T' T cs.toArray (0, 0) d hb hu (by revert hd; cases d <;> simp) (by rw [hi]; simp [hn]);unfold execOp;simp only [ho, hx, Instr.loadAt, Instr.sureAddr, Sem.run_bind, Sem.run_pure, Result.andThen_ok, hrun]
end
attribute [irreducible] wpS wpActs
end Go.Proofs.Ytobmldegjajocaa
namespace Go.Proofs.Ytobmldegjajocaa
def w32 (x : UInt32) : Int := x.toNat
def b8 (x : UInt8) : Int := x.toNat
def W (x : UInt32) : Value := .int .u32 (w32 x)
def B (x : UInt8) : Value := .int .u8 (b8 x)
theorem b8_range (x : UInt8) : 0 ≤ b8 x ∧ b8 x ≤ 255 := by have := x.toNat_lt; unfold b8; omega
theorem w32_range (x : UInt32) : 0 ≤ w32 x ∧ w32 x ≤ 4294967295 := by have := x.toNat_lt; unfold w32; omega
theorem b8_inj {x y : UInt8} (h : b8 x = b8 y) : x = y := by unfold b8 at h; exact UInt8.toNat_inj.1 (by omega)
def rotr (x n : UInt32) : UInt32 := (x >>> n) ||| (x <<< (32 - n))
def word4 (a b c d : UInt8) : UInt32 := a.toUInt32 <<< 24 ||| b.toUInt32 <<< 16 ||| c.toUInt32 <<< 8 ||| d.toUInt32
def beByte (v n i : Nat) : UInt8 := UInt8.ofNat (v / 256 ^ (n - 1 - i))
def beBytes (v n : Nat) : List UInt8 := (List.range n).map (beByte v n)
def sig0 (x : UInt32) : UInt32 := rotr x 7 ^^^ rotr x 18 ^^^ (x >>> 3)
def sig1 (x : UInt32) : UInt32 := rotr x 17 ^^^ rotr x 19 ^^^ (x >>> 10)
def big0 (x : UInt32) : UInt32 := rotr x 2 ^^^ rotr x 13 ^^^ rotr x 22
def big1 (x : UInt32) : UInt32 := rotr x 6 ^^^ rotr x 11 ^^^ rotr x 25
def chF (e f g : UInt32) : UInt32 := (e &&& f) ^^^ (~~~e &&& g)
def majF (a b c : UInt32) : UInt32 := (a &&& b) ^^^ (a &&& c) ^^^ (b &&& c)
def blkWord (b : List UInt8) (i : Nat) : UInt32 := word4 (b[4 * i]?.getD 0) (b[4 * i + 1]?.getD 0) (b[4 * i + 2]?.getD 0) (b[4 * i + 3]?.getD 0)
def nextWord (w : List UInt32) : UInt32 :=
 let i := w.length
 w[i - 16]?.getD 0 + sig0 (w[i - 15]?.getD 0) + w[i - 7]?.getD 0 + sig1 (w[i - 2]?.getD 0)
def schedN (b : List UInt8) : Nat → List UInt32
 | 0 => []
 | k + 1 => schedN b k ++ [if k < 16 then blkWord b k else nextWord (schedN b k)]
def extend (w : List UInt32) : Nat → List UInt32
 | 0 => w
 | k + 1 => extend (w ++ [nextWord w]) k
def sched (b : List UInt8) : List UInt32 := extend ((List.range 16).map (blkWord b)) 48
structure St where
 (a b c d e f g h : UInt32)
def St.toList (s : St) : List UInt32 := [s.a, s.b, s.c, s.d, s.e, s.f, s.g, s.h]
def St.add (s t : St) : St := ⟨s.a + t.a, s.b + t.b, s.c + t.c, s.d + t.d, s.e + t.e, s.f + t.f, s.g + t.g, s.h + t.h⟩
def tOne (k w : UInt32) (s : St) : UInt32 := s.h + big1 s.e + chF s.e s.f s.g + k + w
def tTwo (s : St) : UInt32 := big0 s.a + majF s.a s.b s.c
def roundF (k w : UInt32) (s : St) : St := ⟨tOne k w s + tTwo s, s.a, s.b, s.c, s.d + tOne k w s, s.e, s.f, s.g⟩
def roundsF : List UInt32 → List UInt32 → St → St
 | k :: ks, w :: ws, s => roundsF ks ws (roundF k w s)
 | _, _, s => s
def compress (ks : List UInt32) (s : St) (blk : List UInt8) : St := s.add (roundsF ks (sched blk) s)
def zerosFor (n : Nat) : Nat := (119 - n % 64) % 64
def padded (b : List UInt8) : List UInt8 := b ++ [128] ++ List.replicate (zerosFor b.length) 0 ++ beBytes (8 * b.length) 8
def blocksF (ks : List UInt32) : Nat → St → List UInt8 → St
 | 0, s, _ => s
 | n + 1, s, m => blocksF ks n (compress ks s (m.take 64)) (m.drop 64)
def outB (s : St) : List UInt8 := s.toList.flatMap fun x => beBytes x.toNat 4
def shaWith (h : St) (ks : List UInt32) (b : List UInt8) : List UInt8 := outB (blocksF ks ((padded b).length / 64) h (padded b))
def firstSt : St := ⟨0x6a09e667, 0xbb67ae85, 0x3c6ef372, 0xa54ff53a, 0x510e527f, 0x9b05688c, 0x1f83d9ab, 0x5be0cd19⟩
def roundKs : List UInt32 := [
 0x428a2f98, 0x71374491, 0xb5c0fbcf, 0xe9b5dba5, 0x3956c25b, 0x59f111f1, 0x923f82a4, 0xab1c5ed5, 0xd807aa98, 0x12835b01, 0x243185be, 0x550c7dc3, 0x72be5d74, 0x80deb1fe, 0x9bdc06a7, 0xc19bf174,
 0xe49b69c1, 0xefbe4786, 0x0fc19dc6, 0x240ca1cc, 0x2de92c6f, 0x4a7484aa, 0x5cb0a9dc, 0x76f988da, 0x983e5152, 0xa831c66d, 0xb00327c8, 0xbf597fc7, 0xc6e00bf3, 0xd5a79147, 0x06ca6351, 0x14292967,
 0x27b70a85, 0x2e1b2138, 0x4d2c6dfc, 0x53380d13, 0x650a7354, 0x766a0abb, 0x81c2c92e, 0x92722c85, 0xa2bfe8a1, 0xa81a664b, 0xc24b8b70, 0xc76c51a3, 0xd192e819, 0xd6990624, 0xf40e3585, 0x106aa070,
 0x19a4c116, 0x1e376c08, 0x2748774c, 0x34b0bcb5, 0x391c0cb3, 0x4ed8aa4a, 0x5b9cca4f, 0x682e6ff3, 0x748f82ee, 0x78a5636f, 0x84c87814, 0x8cc70208, 0x90befffa, 0xa4506ceb, 0xbef9a3f7, 0xc67178f2]
def sha (b : List UInt8) : List UInt8 := shaWith firstSt roundKs b
def sw (b : List UInt8) (k : Nat) : UInt32 := (sched b)[k]?.getD 0
def stN (b : List UInt8) (h : St) : Nat → St
 | 0 => h
 | k + 1 => roundF (roundKs[k]?.getD 0) (sw b k) (stN b h k)
def St.at_ (s : St) (i : Nat) : UInt32 := s.toList[i]?.getD 0
def chunkAt (m : List UInt8) (k : Nat) : List UInt8 := (m.drop (64 * k)).take 64
def stB (m : List UInt8) : Nat → St
 | 0 => firstSt
 | k + 1 => compress roundKs (stB m k) (chunkAt m k)
def stL (m : List UInt8) (l : List Nat) : St := l.foldl (fun s k => compress roundKs s (chunkAt m k)) firstSt
attribute [irreducible] stB stL chunkAt stN St.at_ rotr word4 beByte beBytes sig0 sig1 big0 big1 chF majF blkWord nextWord extend sched sw St.add tOne tTwo roundF roundsF compress zerosFor padded blocksF outB shaWith sha
example : sha [97, 98, 99] = [0xba, 0x78, 0x16, 0xbf, 0x8f, 0x01, 0xcf, 0xea, 0x41, 0x41, 0x40, 0xde, 0x5d, 0xae, 0x22, 0x23, 0xb0, 0x03, 0x61, 0xa3, 0x96, 0x17, 0x7a, 0x9c, 0xb4, 0x10, 0xff, 0x61, 0xf2, 0x00, 0x15, 0xad] := by decide +kernel
open Go.RowKit
theorem wrap_w32 (x : UInt32) : IntKind.u32.wrap (w32 x) = w32 x := by
 have h := w32_range x;simp only [IntKind.wrap, IntKind.signed, IntKind.bits, Bool.false_and, Bool.false_eq_true, if_false];omega
theorem wrap_nat (n : Nat) : IntKind.u32.wrap (n : Int) = w32 (UInt32.ofNat n) := by
 simp only [IntKind.wrap, IntKind.signed, IntKind.bits, Bool.false_and, Bool.false_eq_true, if_false, w32, UInt32.toNat_ofNat'];omega
theorem wrap8_nat (n : Nat) : IntKind.u8.wrap (n : Int) = b8 (UInt8.ofNat n) := by
 simp only [IntKind.wrap, IntKind.signed, IntKind.bits, Bool.false_and, Bool.false_eq_true, if_false, b8, UInt8.toNat_ofNat'];omega
theorem bv_w32 (x : UInt32) : BitVec.ofInt 32 (w32 x) = x.toBitVec := by
 apply BitVec.eq_of_toNat_eq
 simp [w32]
theorem bv_b8 (x : UInt8) : BitVec.ofInt 8 (b8 x) = x.toBitVec := by
 apply BitVec.eq_of_toNat_eq
 simp [b8]
theorem add_w (x y : UInt32) : Op.intArith .add .u32 (w32 x) (w32 y) = pure (.int .u32 (w32 (x + y))) := by
 have : IntKind.u32.wrap (w32 x + w32 y) = w32 (x + y) := by
  simp only [IntKind.wrap, IntKind.signed, IntKind.bits, Bool.false_and, Bool.false_eq_true, if_false, w32, UInt32.toNat_add];omega
 show pure (Value.int .u32 (IntKind.u32.wrap (w32 x + w32 y))) = _
 rw [this]
theorem back_w (r : UInt32) : IntKind.u32.wrap ((r.toBitVec.toNat : Nat) : Int) = w32 r := by
 show IntKind.u32.wrap (w32 r) = w32 r
 exact wrap_w32 r
theorem back_b (r : UInt8) : IntKind.u8.wrap ((r.toBitVec.toNat : Nat) : Int) = b8 r := by
 have := wrap8_nat r.toNat;simpa using this
theorem xor_w (x y : UInt32) : Op.intBits .xor .u32 (w32 x) (w32 y) = pure (.int .u32 (w32 (x ^^^ y))) := by
 show pure (Value.int .u32 (IntKind.u32.wrap (((BitVec.ofInt 32 (w32 x) ^^^ BitVec.ofInt 32 (w32 y)).toNat : Nat) : Int))) = _
 rw [bv_w32, bv_w32, show x.toBitVec ^^^ y.toBitVec = (x ^^^ y).toBitVec from rfl, back_w]
theorem and_w (x y : UInt32) : Op.intBits .and .u32 (w32 x) (w32 y) = pure (.int .u32 (w32 (x &&& y))) := by
 show pure (Value.int .u32 (IntKind.u32.wrap (((BitVec.ofInt 32 (w32 x) &&& BitVec.ofInt 32 (w32 y)).toNat : Nat) : Int))) = _
 rw [bv_w32, bv_w32, show x.toBitVec &&& y.toBitVec = (x &&& y).toBitVec from rfl, back_w]
theorem or_w (x y : UInt32) : Op.intBits .or .u32 (w32 x) (w32 y) = pure (.int .u32 (w32 (x ||| y))) := by
 show pure (Value.int .u32 (IntKind.u32.wrap (((BitVec.ofInt 32 (w32 x) ||| BitVec.ofInt 32 (w32 y)).toNat : Nat) : Int))) = _
 rw [bv_w32, bv_w32, show x.toBitVec ||| y.toBitVec = (x ||| y).toBitVec from rfl, back_w]
theorem xor_b (x y : UInt8) : Op.intBits .xor .u8 (b8 x) (b8 y) = pure (.int .u8 (b8 (x ^^^ y))) := by
 show pure (Value.int .u8 (IntKind.u8.wrap (((BitVec.ofInt 8 (b8 x) ^^^ BitVec.ofInt 8 (b8 y)).toNat : Nat) : Int))) = _
 rw [bv_b8, bv_b8, show x.toBitVec ^^^ y.toBitVec = (x ^^^ y).toBitVec from rfl, back_b]
theorem or_b (x y : UInt8) : Op.intBits .or .u8 (b8 x) (b8 y) = pure (.int .u8 (b8 (x ||| y))) := by
 show pure (Value.int .u8 (IntKind.u8.wrap (((BitVec.ofInt 8 (b8 x) ||| BitVec.ofInt 8 (b8 y)).toNat : Nat) : Int))) = _
 rw [bv_b8, bv_b8, show x.toBitVec ||| y.toBitVec = (x ||| y).toBitVec from rfl, back_b]
theorem not_w (x : UInt32) : Op.unary .xor (.int .u32 (w32 x)) = pure (.int .u32 (w32 (~~~x))) := by
 rw [unary_xor];show Op.intBits .xor .u32 (w32 0xffffffff) (w32 x) = _
 rw [xor_w]
 have : (0xffffffff : UInt32) ^^^ x = ~~~x := by
  apply UInt32.eq_of_toBitVec_eq
  show (BitVec.allOnes 32) ^^^ x.toBitVec = ~~~x.toBitVec
  rw [BitVec.allOnes_xor]
 rw [this]
theorem shr_w (x : UInt32) (yk : IntKind) (n : Int) (h0 : 0 ≤ n) (h1 : n ≤ 31) : Op.shift .shr .u32 (w32 x) yk n = pure (.int .u32 (w32 (x >>> UInt32.ofNat n.toNat))) := by
 obtain ⟨k, rfl⟩ := Int.eq_ofNat_of_zero_le h0;have hk : k ≤ 31 := by omega
 have e : Op.shift .shr .u32 (w32 x) yk (k : Int) = pure (.int .u32 ((w32 x).fdiv (2 ^ k))) := by
  unfold Op.shift;rw [if_neg (by omega)];simp only [Int.toNat_natCast, show min k IntKind.u32.bits = k from Nat.min_eq_left (by simp [IntKind.bits]; omega)]
 rw [e]
 have : (w32 x).fdiv (2 ^ k) = w32 (x >>> UInt32.ofNat k) := by
  unfold w32;rw [Int.fdiv_eq_ediv_of_nonneg _ (by exact Int.pow_nonneg (by omega)), UInt32.toNat_shiftRight, UInt32.toNat_ofNat', Nat.shiftRight_eq_div_pow, show k % 2 ^ 32 % 32 = k by omega];simp
 rw [this]; rfl
theorem shl_w (x : UInt32) (yk : IntKind) (n : Int) (h0 : 0 ≤ n) (h1 : n ≤ 31) : Op.shift .shl .u32 (w32 x) yk n = pure (.int .u32 (w32 (x <<< UInt32.ofNat n.toNat))) := by
 obtain ⟨k, rfl⟩ := Int.eq_ofNat_of_zero_le h0;have hk : k ≤ 31 := by omega
 have e : Op.shift .shl .u32 (w32 x) yk (k : Int) = pure (.int .u32 (IntKind.u32.wrap ((w32 x) * (2 ^ k)))) := by
  unfold Op.shift;rw [if_neg (by omega)];simp only [Int.toNat_natCast, show min k IntKind.u32.bits = k from Nat.min_eq_left (by simp [IntKind.bits]; omega)]
 rw [e]
 have : IntKind.u32.wrap (w32 x * 2 ^ k) = w32 (x <<< UInt32.ofNat k) := by
  have e1 : w32 x * 2 ^ k = ((x.toNat * 2 ^ k : Nat) : Int) := by simp [w32]
  rw [e1, wrap_nat];unfold w32;rw [UInt32.toNat_ofNat', UInt32.toNat_shiftLeft, UInt32.toNat_ofNat', Nat.shiftLeft_eq, show k % 2 ^ 32 % 32 = k by omega]
 rw [this]; rfl
theorem wrap_b8 (x : UInt8) : IntKind.u32.wrap (b8 x) = w32 x.toUInt32 := by
 have e : b8 x = ((x.toNat : Nat) : Int) := rfl;rw [e, wrap_nat]
 apply congrArg
 apply UInt32.toNat_inj.1
 have := x.toNat_lt;rw [UInt32.toNat_ofNat', UInt8.toNat_toUInt32];omega
theorem all_bytes (l : List UInt8) : ∀ v ∈ l.map B, v.oneCell' = true := fun v hv => by obtain ⟨x, _, rfl⟩ := List.mem_map.1 hv; rfl
theorem conv_u64' {n : Nat} (h : n ≤ 18446744073709551615) : IntKind.u64.wrap (n : Int) = (n : Int) := by rw [IntKind.wrap_u64]; omega
attribute [local go_sem ↓ high] add_w
attribute [local go_sem high] xor_w and_w or_w not_w shr_w shl_w wrap_b8
theorem row_id : RowT Try.prog 29 32 := ⟨_, Try.underlying29, by kernel_rfl, by kernel_rfl⟩
theorem zero_id : (Try.prog.info? 29).map (·.zero) = some (some (.agg (List.replicate 32 (B 0)).toArray)) := by kernel_rfl
end Go.Proofs.Ytobmldegjajocaa
namespace Go.Proofs.Ytobmldegjajocaa
open Go.RowKit
attribute [local go_sem ↓ high] add_w
attribute [local go_sem high] xor_w and_w or_w not_w shr_w shl_w wrap_b8
theorem info_u8 : (Try.prog.info? 5).map (fun i => (i.zero, i.size, i.bytes)) = some (some (.int .u8 0), 1, 1) := by kernel_rfl
theorem el_u8 : ElemT Try.prog 36 5 1 1 := elemT Try.underlying36 info_u8 rfl (by omega)
end Go.Proofs.Ytobmldegjajocaa
namespace Go.Proofs.Ytobmldegjajocaa
open Go.RowKit
def cat (ps : List (Value × List UInt8)) : List UInt8 := (ps.map Prod.snd).flatten
attribute [irreducible] cat
end Go.Proofs.Ytobmldegjajocaa

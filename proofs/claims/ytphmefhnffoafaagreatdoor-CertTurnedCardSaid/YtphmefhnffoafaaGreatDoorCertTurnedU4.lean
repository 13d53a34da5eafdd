/- A region that draws its order, walked along a plan: operations that leave the world are taken as soon as they can be, those that act stand in the order that the edges force (or fork). No program in sight.
  Classes: 0 an operation that looks at no world; 1 a read that stands whatever may still happen (Fut); 2 a read behind which all that act wait; 3 an operation that acts; 4 one that acts within Fut. -/
import Derived.Test.YtphmefhnffoafaaGreatDoorCertTurnedU3
import Derived.Test.YtphmefhnffoafaaGreatDoorCertTurnedU2
import Derived.RangeFuncNested
import Derived.RangeFuncBound
import Derived.RangeFuncCalls
import Derived.RangeFuncLeaves
import Derived.Shelf.Abstract
import Derived.Shelf.RegionOpen
import Derived.OwnWalkIn
import Derived.TacticsInMore
import Derived.LoopNIn
import Derived.LoopIn
set_option linter.unusedSimpArgs false
namespace Go.Proofs.YtphmefhnffoafaaGreatDoor
open Go.RowKit
inductive Plan where
 | done
 | get (i : Nat) (t : Plan)
 | act (i : Nat) (t : Plan)
 | fork (i : Nat) (s t : Plan)
def noQ : Exit → Act → World → Prop := fun _ _ _ => False
def plCls (cl : List Nat) (i : Nat) : Nat := cl.getD i 3
def plOkc : Nat → Nat → Bool
 | 0, _ => true
 | 1, c => decide (c ≤ 2) || c == 4
 | 2, c => decide (c ≤ 2)
 | _, _ => false
section
variable (P : Program) (md : Region.Mode) (ops : Array Oper) (Fut : World → World → Prop) (cl : List Nat) (Q : Exit → Act → World → Prop)
def plFree (i : Nat) (listed : Array Bool) : Bool :=
 (List.range ops.size).all fun j => j == i || listed.getD j true || (ancs md ops ops.size j).contains i || plOkc (plCls cl i) (plCls cl j)
def planB : Nat → Plan → List Nat → Array Bool → Bool
 | _, .done, hs, listed => hs.isEmpty && (Region.ready md ops listed).isEmpty
 | 0, _, _, _ => false
 | f + 1, .get i t, hs, listed => hs.isEmpty && decide (plCls cl i ≤ 2) && (Region.ready md ops listed).contains i && Region.free md ops listed i && plFree md ops cl i listed && planB f t [] (listed.setIfInBounds i true)
 | f + 1, .act i t, hs, listed => decide (3 ≤ plCls cl i) && (Region.ready md ops listed).all (fun j => (i :: hs).contains j) && !(Region.ready md ops listed).isEmpty && planB f t [] (listed.setIfInBounds i true)
 | f + 1, .fork i s t, hs, listed => decide (3 ≤ plCls cl i) && planB f s [] (listed.setIfInBounds i true) && planB (f + 1) t (i :: hs) listed
def plOK (c : Nat) (o : Oper) (a : Act) (w : World) (v : Value) : Prop :=
 match c with
 | 0 => ∀ w', (execOp a.eval o).run P w' = .ok (.value v) w'
 | 1 => ∀ w', Fut w w' → (execOp a.eval o).run P w' = .ok (.value v) w'
 | _ => (execOp a.eval o).run P w = .ok (.value v) w
def wpActs (i : Nat) (K : Act → World → Prop) (a : Act) (w : World) : Prop :=
 match ops[i]? with
 | none => False
 | some o => if Region.wanted o (yielded ops a.tmps) then o.wp P a w (fun a' w' => (plCls cl i = 4 → Fut w w') ∧ K a' w') noQ else K (a.put o.dst undef) w
def wpS : Plan → Act → World → Prop
 | .done, a, w => Q .normal a w
 | .get i t, a, w => match ops[i]? with
  | none => False
  | some o => if Region.wanted o (yielded ops a.tmps) then ∃ v, plOK P Fut (plCls cl i) o a w v ∧ wpS t (a.put o.dst v) w else wpS t (a.put o.dst undef) w
 | .act i t, a, w => wpActs P ops Fut cl i (wpS t) a w
 | .fork i s t, a, w => wpActs P ops Fut cl i (wpS s) a w ∧ wpS t a w
def wpOpF (i : Nat) (K : Act → World → Prop) (a : Act) (w : World) : Prop :=
 match ops[i]? with
 | none => False
 | some o => if Region.wanted o (yielded ops a.tmps) then
   (if plCls cl i ≤ 2 then ∃ v, (execOp a.eval o).run P w = .ok (.value v) w ∧ K (a.put o.dst v) w else o.wp P a w (fun a' w' => (plCls cl i = 4 → Fut w w') ∧ K a' w') noQ)
  else K (a.put o.dst undef) w
def wpAnyF : Nat → Array Bool → Act → World → Prop
 | 0, listed, a, w => Region.ready md ops listed = [] ∧ Q .normal a w
 | f + 1, listed, a, w => (Region.ready md ops listed = [] → Q .normal a w) ∧ ∀ i ∈ Region.ready md ops listed, wpOpF P ops Fut cl i (wpAnyF f (listed.setIfInBounds i true)) a w
end
section
variable {P : Program} {md : Region.Mode} {ops : Array Oper} {Fut : World → World → Prop} {cl : List Nat} {Q : Exit → Act → World → Prop}
theorem oper_wp_no {o : Oper} {a : Act} {w : World} {K K' : Act → World → Prop} {Q : Exit → Act → World → Prop} (h : ∀ a w, K a w → K' a w) (hh : o.wp P a w K noQ) : o.wp P a w K' Q := by
 unfold Oper.wp at *
 generalize (execOp a.eval o).run P w = r at *
 cases r with
 | ok n w' =>
  cases n <;> simp only [Oper.upon] at hh ⊢
  case value => exact h _ _ hh
  case skip => exact h _ _ hh
  case defer => exact h _ _ hh
  case enter f args =>
   refine Calls.mono hh fun e w'' he => ?_
   cases e with
   | returned u => exact h _ _ he
   | panicked c => exact he.elim
   | outgrown => obtain ⟨_, _, hf⟩ := he; exact hf.elim
  case row => exact Rows.mono hh fun _ _ he => h _ _ he
 | halt x w' =>
  cases x <;> simp only [Oper.upon] at hh ⊢
  case panic u => exact hh.elim
theorem wpOpF_mono {i : Nat} {K K' : Act → World → Prop} {a : Act} {w : World} (h : ∀ a w, K a w → K' a w) (hh : wpOpF P ops Fut cl i K a w) : wpOpF P ops Fut cl i K' a w := by
 unfold wpOpF at *
 cases ho : ops[i]? with
 | none => rw [ho] at hh; exact hh
 | some o =>
  rw [ho] at hh
  simp only at hh ⊢
  split
  ·rename_i hw
   rw [if_pos hw] at hh
   split
   ·rename_i hc; rw [if_pos hc] at hh; obtain ⟨v, h1, h2⟩ := hh; exact ⟨v, h1, h _ _ h2⟩
   ·rename_i hc; rw [if_neg hc] at hh; exact oper_wp_no (fun a w h1 => ⟨h1.1, h _ _ h1.2⟩) hh
  ·rename_i hw; rw [if_neg hw] at hh; exact h _ _ hh
theorem wpOp_of_F {i : Nat} {K : Act → World → Prop} {a : Act} {w : World} (hh : wpOpF P ops Fut cl i K a w) : wpOp P ops Q i K a w := by
 unfold wpOpF at hh
 unfold wpOp
 cases ho : ops[i]? with
 | none => rw [ho] at hh; exact hh.elim
 | some o =>
  rw [ho] at hh
  simp only at hh ⊢
  split
  ·rename_i hw
   rw [if_pos hw] at hh
   left
   split at hh
   ·obtain ⟨v, h1, h2⟩ := hh
    unfold Oper.wp; rw [h1]; exact h2
   ·exact oper_wp_no (fun a w h1 => h1.2) hh
  ·rename_i hw; rw [if_neg hw] at hh; exact hh
theorem wpAny_of_F : ∀ (f : Nat) (listed : Array Bool) (a : Act) (w : World), wpAnyF P md ops Fut cl Q f listed a w → wpAny P md ops Q f listed a w
 | 0, _, _, _, h => h
 | f + 1, _, _, _, h => ⟨h.1, fun i hi => wpOp_of_F (wpOpF_mono (fun a w h1 => wpAny_of_F f _ a w h1) (h.2 i hi))⟩
theorem wpOpF_put {j : Nat} {oi oj : Oper} {v : Value} (hj : ops[j]? = some oj) (hap : oi.apart ops oj = true) (hsi : ∀ cs b, oi.op ≠ .select cs b) (hsj : ∀ cs b, oj.op ≠ .select cs b)
  {K : Act → World → Prop} {a : Act} {w : World} (h : wpOpF P ops Fut cl j K (a.put oi.dst v) w) :
  wpOpF P ops Fut cl j (fun a' w' => (execOp a'.eval oi = execOp a.eval oi ∧ Region.wanted oi (yielded ops a'.tmps) = Region.wanted oi (yielded ops a.tmps)) ∧ (plCls cl j ≤ 2 → w' = w) ∧ (plCls cl j = 4 → w' = w ∨ Fut w w') ∧ K (a'.put oi.dst v) w') a w := by
 obtain ⟨h1, h2, h3⟩ := Oper.apart_spec hap
 have keep : ∀ (a : Act) u, execOp (a.put oj.dst u).eval oi = execOp a.eval oi ∧ Region.wanted oi (yielded ops (a.put oj.dst u).tmps) = Region.wanted oi (yielded ops a.tmps) := fun a u => ⟨execOp_put oi hsi a oj.dst u h3, wanted_put oi a oj.dst u h3⟩
 unfold wpOpF at *
 rw [hj] at h ⊢
 simp only at h ⊢
 rw [wanted_put oj a oi.dst v h1] at h
 split
 ·rename_i hw
  rw [if_pos hw] at h
  rw [execOp_put oj hsj a oi.dst v h1] at h
  split
  ·rename_i hc
   rw [if_pos hc] at h
   obtain ⟨u, e1, e2⟩ := h
   exact ⟨u, e1, keep a u, fun _ => by trivial, fun _ => .inl (by trivial), by rw [← Act.put_comm a v u h2]; exact e2⟩
  ·rename_i hc
   rw [if_neg hc] at h
   unfold Oper.wp at *
   rw [execOp_put oj hsj a oi.dst v h1] at h
   generalize (execOp a.eval oj).run P w = r at *
   cases r with
   | ok n w' =>
    cases n <;> simp only [Oper.upon] at h ⊢
    case value u => exact ⟨h.1, keep a u, fun e => absurd e hc, fun e => .inr (h.1 e), by rw [← Act.put_comm a v u h2]; exact h.2⟩
    case skip => exact ⟨h.1, keep a undef, fun e => absurd e hc, fun e => .inr (h.1 e), by rw [← Act.put_comm a v undef h2]; exact h.2⟩
    case defer d =>
     refine ⟨h.1, keep { a with defers := d :: a.defers } undef, fun e => absurd e hc, fun e => .inr (h.1 e), ?_⟩
     rw [← Act.put_comm _ v undef h2, ← Act.put_defers]
     exact h.2
    case enter f args =>
     refine Calls.mono h fun e w'' he => ?_
     cases e with
     | returned u => exact ⟨he.1, keep a u, fun e => absurd e hc, fun e => .inr (he.1 e), by rw [← Act.put_comm a v u h2]; exact he.2⟩
     | panicked c => exact he
     | outgrown => exact he
    case row row args => exact Rows.mono h fun u w'' he => ⟨he.1, keep a u, fun e => absurd e hc, fun e => .inr (he.1 e), by rw [← Act.put_comm a v u h2]; exact he.2⟩
   | halt x w' =>
    cases x <;> simp only [Oper.upon] at h ⊢
    case panic u => exact h.elim
 ·rename_i hw
  rw [if_neg hw] at h
  exact ⟨keep a undef, fun _ => by trivial, fun _ => .inl (by trivial), by rw [← Act.put_comm a v undef h2]; exact h⟩
theorem wpAnyF_first {i : Nat} {oi : Oper} {v : Value} (hi : ops[i]? = some oi) (hsel : ∀ (j : Nat) (o : Oper) cs b, ops[j]? = some o → o.op ≠ .select cs b) (hc : plCls cl i ≤ 2) (hrefl : ∀ w, Fut w w) (htr : ∀ w1 w2 w3, Fut w1 w2 → Fut w2 w3 → Fut w1 w3) :
  ∀ (f : Nat) (listed : Array Bool) (a : Act) (w : World), PClosed md ops listed →
   (∀ j oj, ops[j]? = some oj → j ≠ i → listed.getD j true = false → i ∉ ancs md ops ops.size j → oi.apart ops oj = true ∧ plOkc (plCls cl i) (plCls cl j) = true) →
   i ∈ Region.ready md ops listed → (if Region.wanted oi (yielded ops a.tmps) then plOK P Fut (plCls cl i) oi a w v else v = undef) →
   wpAnyF P md ops Fut cl Q f (listed.setIfInBounds i true) (a.put oi.dst v) w → wpAnyF P md ops Fut cl Q (f + 1) listed a w := by
 have own : ∀ (a : Act) (w : World) (K : Act → World → Prop), (if Region.wanted oi (yielded ops a.tmps) then plOK P Fut (plCls cl i) oi a w v else v = undef) → K (a.put oi.dst v) w → wpOpF P ops Fut cl i K a w := by
  intro a w K hy hK
  unfold wpOpF
  rw [hi]
  simp only
  split
  ·rename_i hw
   rw [if_pos hw] at hy
   try rw [if_pos hc]
   refine ⟨v, ?_, hK⟩
   unfold plOK at hy
   split at hy
   ·exact hy w
   ·exact hy w (hrefl w)
   ·exact hy
  ·rename_i hw
   rw [if_neg hw] at hy
   rw [← hy]; exact hK
 intro f
 induction f with
 | zero =>
  intro listed a w _ _ hr hy H
  refine ⟨fun h => (by rw [h] at hr; cases hr), fun j hj => ?_⟩
  by_cases hji : j = i
  ·subst hji; exact own a w _ hy H
  ·have := ready_mono hj hji
   rw [H.1] at this
   cases this
 | succ f ih =>
  intro listed a w hcl hfree hr hy H
  refine ⟨fun h => (by rw [h] at hr; cases hr), fun j hj => ?_⟩
  by_cases hji : j = i
  ·subst hji; exact own a w _ hy H
  ·have h1 := H.2 j (ready_mono hj hji)
   obtain ⟨hjun, oj, hoj, hall⟩ := mem_ready.1 hj
   have hnot : i ∉ ancs md ops ops.size j := fun hm => by
    have := ancs_listed hcl ops.size j (fun oi' hoi' => by rw [hoj] at hoi'; cases hoi'; exact hall) i hm
    rw [getD_tf (mem_ready.1 hr).1] at this
    cases this
   obtain ⟨hap, hok⟩ := hfree j oj hoj hji hjun hnot
   have h2 := wpOpF_put hoj hap (fun cs b => hsel i oi cs b hi) (fun cs b => hsel j oj cs b hoj) h1
   refine wpOpF_mono (fun a' w' h3 => ?_) h2
   obtain ⟨⟨k1, k2⟩, k3, k4, k5⟩ := h3
   refine ih (listed.setIfInBounds j true) a' w' (closed_set hcl hj) (fun k ok hk hki hun hno => hfree k ok hk hki ?_ hno) (ready_mono hr (Ne.symm hji)) ?_ ?_
   ·by_cases hjk : j = k
    ·subst hjk; exact hjun
    ·rw [getD_ne true hjk] at hun; exact hun
   ·rw [k2]
    split
    ·rename_i hw
     rw [if_pos hw] at hy
     unfold plOK at hy ⊢
     rw [k1]
     split at hy
     ·exact hy
     ·rename_i hc1
      rw [hc1] at hok
      simp only [plOkc, Bool.or_eq_true, decide_eq_true_eq, beq_iff_eq] at hok
      intro w'' hf
      rcases hok with hok | hok
      ·rw [k3 hok] at hf; exact hy w'' hf
      ·rcases k4 hok with e | e
       ·rw [e] at hf; exact hy w'' hf
       ·exact hy w'' (htr _ _ _ e hf)
     ·rename_i n1 n2
      have h22 : plCls cl i = 2 := by
       have : plCls cl i ≠ 0 := n1
       have : plCls cl i ≠ 1 := n2
       omega
      rw [h22] at hok
      simp only [plOkc, decide_eq_true_eq] at hok
      rw [k3 hok]; exact hy
    ·rename_i hw
     rw [if_neg hw] at hy
     exact hy
   ·rw [Array.setIfInBounds_comm _ _ hji]
    exact k5
theorem wpOpF_of_acts {i : Nat} {K : Act → World → Prop} {a : Act} {w : World} (hc : 3 ≤ plCls cl i) (h : wpActs P ops Fut cl i K a w) : wpOpF P ops Fut cl i K a w := by
 unfold wpActs at h
 unfold wpOpF
 cases ho : ops[i]? with
 | none => rw [ho] at h; exact h
 | some o =>
  rw [ho] at h
  simp only at h ⊢
  rw [if_neg (show ¬ plCls cl i ≤ 2 by omega)]
  exact h
theorem wpAnyF_of_plan (hs : Region.noSelect ops = true) (hrefl : ∀ w, Fut w w) (htr : ∀ w1 w2 w3, Fut w1 w2 → Fut w2 w3 → Fut w1 w3) :
  ∀ (p : Plan) (f : Nat) (hds : List Nat) (listed : Array Bool) (a : Act) (w : World), PClosed md ops listed → planB md ops cl f p hds listed = true →
   (∀ i ∈ hds, i ∈ Region.ready md ops listed → ∀ g, f = g + 1 → wpOpF P ops Fut cl i (wpAnyF P md ops Fut cl Q g (listed.setIfInBounds i true)) a w) → wpS P ops Fut cl Q p a w → wpAnyF P md ops Fut cl Q f listed a w
 | .done, f, hds, listed, a, w, hcl, hB, hh, h => by
  have hr : Region.ready md ops listed = [] := by
   cases f <;> (simp only [planB, Bool.and_eq_true] at hB; simpa using hB.2)
  cases f with
  | zero => exact ⟨hr, h⟩
  | succ f => exact ⟨fun _ => h, fun i hi => by rw [hr] at hi; cases hi⟩
 | .get i t, f, hds, listed, a, w, hcl, hB, hh, h => by
  cases f with
  | zero => simp [planB] at hB
  | succ f =>
   simp only [planB, Bool.and_eq_true, decide_eq_true_eq] at hB
   obtain ⟨⟨⟨⟨⟨_, h1⟩, h2⟩, h3⟩, h4⟩, h5⟩ := hB
   have hr : i ∈ Region.ready md ops listed := by simpa using h2
   unfold wpS at h
   cases ho : ops[i]? with
   | none => rw [ho] at h; exact h.elim
   | some o =>
    rw [ho] at h
    simp only at h
    have hfree : ∀ j oj, ops[j]? = some oj → j ≠ i → listed.getD j true = false → i ∉ ancs md ops ops.size j → o.apart ops oj = true ∧ plOkc (plCls cl i) (plCls cl j) = true := by
     intro j oj hoj hne hun hno
     have hj : j < ops.size := (Array.getElem?_eq_some_iff.1 hoj).1
     constructor
     ·refine Region.free_spec ho h3 j oj hoj hne hun fun e he hb heq => hno ?_
      obtain ⟨n, hn⟩ : ∃ n, ops.size = n + 1 := ⟨ops.size - 1, by omega⟩
      rw [hn]
      unfold ancs
      refine List.mem_flatMap.2 ⟨e.on, ?_, by rw [heq]; exact List.mem_cons_self⟩
      rw [hoj]
      exact List.mem_map.2 ⟨e, List.mem_filter.2 ⟨by simpa using he, hb⟩, rfl⟩
     ·unfold plFree at h4
      have := List.all_eq_true.1 h4 j (List.mem_range.2 hj)
      simp only [Bool.or_eq_true, beq_iff_eq] at this
      rcases this with ((e | e) | e) | e
      ·exact absurd e hne
      ·rw [hun] at e; cases e
      ·exact absurd (by simpa using e) hno
      ·exact e
    have next : ∀ v, (if Region.wanted o (yielded ops a.tmps) then plOK P Fut (plCls cl i) o a w v else v = undef) → wpS P ops Fut cl Q t (a.put o.dst v) w → wpAnyF P md ops Fut cl Q (f + 1) listed a w := fun v hy hk =>
     wpAnyF_first ho (Region.noSelect_spec hs) h1 hrefl htr f listed a w hcl hfree hr hy (wpAnyF_of_plan hs hrefl htr t f [] _ _ w (closed_set hcl hr) h5 (fun j hj => by cases hj) hk)
    split at h
    ·rename_i hw
     obtain ⟨v, hv, hk⟩ := h
     exact next v (by rw [if_pos hw]; exact hv) hk
    ·rename_i hw
     exact next undef (by rw [if_neg hw]) h
 | .act i t, f, hds, listed, a, w, hcl, hB, hh, h => by
  cases f with
  | zero => simp [planB] at hB
  | succ f =>
   simp only [planB, Bool.and_eq_true, decide_eq_true_eq] at hB
   obtain ⟨⟨⟨h1, h2⟩, h3⟩, h4⟩ := hB
   refine ⟨fun e => by rw [e] at h3; simp at h3, fun j hj => ?_⟩
   have hm := List.all_eq_true.1 h2 j hj
   have hm : j = i ∨ j ∈ hds := by simpa using hm
   rcases hm with e | e
   ·subst e
    refine wpOpF_of_acts h1 ?_
    unfold wpS at h
    unfold wpActs at h ⊢
    cases ho : ops[j]? with
    | none => rw [ho] at h; exact h
    | some o =>
     rw [ho] at h
     simp only at h ⊢
     split
     ·rename_i hw
      rw [if_pos hw] at h
      exact oper_wp_no (fun a w h1 => ⟨h1.1, wpAnyF_of_plan hs hrefl htr t f [] _ _ _ (closed_set hcl hj) h4 (fun j hj => by cases hj) h1.2⟩) h
     ·rename_i hw
      rw [if_neg hw] at h
      exact wpAnyF_of_plan hs hrefl htr t f [] _ _ _ (closed_set hcl hj) h4 (fun j hj => by cases hj) h
   ·exact hh j e hj f rfl
 | .fork i s t, f, hds, listed, a, w, hcl, hB, hh, h => by
  cases f with
  | zero => simp [planB] at hB
  | succ f =>
   simp only [planB, Bool.and_eq_true, decide_eq_true_eq] at hB
   obtain ⟨⟨h1, h2⟩, h3⟩ := hB
   unfold wpS at h
   refine wpAnyF_of_plan hs hrefl htr t (f + 1) (i :: hds) listed a w hcl h3 (fun j hj hr g hg => ?_) h.2
   obtain rfl : f = g := by omega
   rcases List.mem_cons.1 hj with e | e
   ·subst e
    refine wpOpF_of_acts h1 ?_
    have h0 := h.1
    unfold wpActs at h0 ⊢
    cases ho : ops[j]? with
    | none => rw [ho] at h0; exact h0
    | some o =>
     rw [ho] at h0
     simp only at h0 ⊢
     split
     ·rename_i hw
      rw [if_pos hw] at h0
      exact oper_wp_no (fun a w h1 => ⟨h1.1, wpAnyF_of_plan hs hrefl htr s f [] _ _ _ (closed_set hcl hr) h2 (fun j hj => by cases hj) h1.2⟩) h0
     ·rename_i hw
      rw [if_neg hw] at h0
      exact wpAnyF_of_plan hs hrefl htr s f [] _ _ _ (closed_set hcl hr) h2 (fun j hj => by cases hj) h0
   ·exact hh j e hr f rfl
def Grow (w w' : World) : Prop := Below w.heap.size w w'
theorem Grow.refl (w : World) : Grow w w := Below.refl _ _
theorem Grow.trans (w1 w2 w3 : World) (h : Grow w1 w2) (k : Grow w2 w3) : Grow w1 w3 := below_chain h k
theorem Drawn.grow {w w' : World} (h : Drawn w w') : Grow w w' := h.all
end
end Go.Proofs.YtphmefhnffoafaaGreatDoor
theorem Go.RowKit.Below.grow' {w0 w w' : Go.World} (h : Go.RowKit.Below w0.heap.size w0 w) (k : Go.Proofs.YtphmefhnffoafaaGreatDoor.Grow w w') : Go.RowKit.Below w0.heap.size w0 w' := Go.Proofs.YtphmefhnffoafaaGreatDoor.below_step h h.size k
namespace Go.Proofs.YtphmefhnffoafaaGreatDoor
open Go.RowKit
section
variable {P : Program} {md : Region.Mode} {ops : Array Oper} {Fut : World → World → Prop} {cl : List Nat} {Q : Exit → Act → World → Prop}
theorem Sl.grow {w w' : World} {sz n : Nat} {A : Option Addr} {xs : List Value} (h : Sl w w.heap.size sz A n xs) (k : Grow w w') : Sl w' w'.heap.size sz A n xs := (h.below k).more k.size
theorem Blk.grow {w w' : World} {g : Nat} {t : TypeId} {cs : List Value} (h : Blk w g t cs) (k : Grow w w') : Blk w' g t cs := h.call k
end
end Go.Proofs.YtphmefhnffoafaaGreatDoor
theorem Go.World.ownsRow.grow {w w' : Go.World} {base : Nat} {e : Go.TypeId} {sz n c : Nat} {A : Option Go.Addr} {xs : List Go.Value} (h : w.ownsRow base e sz (.slice A n c) n xs) (k : Go.Proofs.YtphmefhnffoafaaGreatDoor.Grow w w') : w'.ownsRow base e sz (.slice A n c) n xs := Go.Proofs.YtphmefhnffoafaaGreatDoor.own_below h k
namespace Go.Proofs.YtphmefhnffoafaaGreatDoor
open Go.RowKit
section
variable {P : Program} {md : Region.Mode} {ops : Array Oper} {Fut : World → World → Prop} {cl : List Nat} {Q : Exit → Act → World → Prop}
theorem alloc_new (w : World) (cs : Array Value) (T : TypeId) : Blk (w.alloc (.cells cs T)) w.heap.size T cs.toList ∧ Grow w (w.alloc (.cells cs T)) ∧ (w.alloc (.cells cs T)).heap.size = w.heap.size + 1 :=
 ⟨by have := heap_alloc_new w (.cells cs T); simpa [Blk] using this, (Below.refl _ _).alloc (Nat.le_refl _) _, by simp⟩
theorem alloc_eq {w w2 : World} {cs : Array Value} {T : TypeId} (h : w.alloc (.cells cs T) = w2) : Blk w2 w.heap.size T cs.toList ∧ Grow w w2 ∧ w2.heap.size = w.heap.size + 1 := by
 subst h; exact alloc_new w cs T
theorem Sl.to1 {w : World} {B n k : Nat} {A : Option Addr} {xs : List Value} (h : Sl w B 1 A n xs) (hk : k ≤ n) : Sl w B 1 A k (xs.take k) := by
 refine ⟨by rw [List.length_take, h.len]; omega, fun hn => ?_⟩
 obtain ⟨b, off, e, hb, hc⟩ := h.2 (by omega)
 refine ⟨b, off, e, hb, fun j u hu => hc j u ?_⟩
 rw [List.getElem?_take] at hu
 split at hu
 ·exact hu
 ·cases hu
theorem Sl.from1 {w : World} {B n k c : Nat} {A : Option Addr} {xs : List Value} (h : Sl w B 1 A n xs) (hk : k ≤ n) (hc : n ≤ c) : Sl w B 1 (if c = k then A else Option.map (fun x => x.add k) A) (n - k) (xs.drop k) := by
 have h1 := h.cut (k := k) (m := n - k) (cap := c) (by omega) hc
 rw [Nat.mul_one, Nat.mul_one] at h1
 rw [List.take_of_length_le (by rw [List.length_drop, h.len]; exact Nat.le_refl _)] at h1
 exact h1
def planOf (l : List Oper) (cl : List Nat) (p : Plan) : Bool := Region.noSelect l.toArray && planB .any l.toArray cl l.length p [] (Array.replicate l.length false)
theorem wp_plan {id : Nat} {a : Act} {w : World} {l : List Oper} (Fut : World → World → Prop) (cl : List Nat) (p : Plan) (hm : P.follows .mixedOrders = true) (hB : planOf l cl p = true) (hrefl : ∀ w, Fut w w) (htr : ∀ w1 w2 w3, Fut w1 w2 → Fut w2 w3 → Fut w1 w3)
  (h : ∀ w2, Drawn w w2 → wpS P l.toArray Fut cl Q p a w2) : (Code.region id l.toArray true).wp P Q a w := by
 replace h := h w.drew (Drawn.one w)
 simp only [planOf, Bool.and_eq_true] at hB
 refine wp_region_any hm (wpAny_of_F (Fut := Fut) (cl := cl) _ _ _ _ ?_)
 have h0 := wpAnyF_of_plan (Q := Q) (md := .any) hB.1 hrefl htr p l.length [] (Array.replicate l.length false) a w.drew (fun j oj _ hj => by
  rw [Array.getD_eq_getD_getElem?, Array.getElem?_replicate] at hj
  split at hj <;> simp at hj) hB.2 (fun j hj => by cases hj) h
 simpa using h0
variable {l : List Oper} {o : Oper} {i : Nat} {t s : Plan} {a : Act} {w : World}
theorem pl_done (h : Q .normal a w) : wpS P ops Fut cl Q .done a w := h
theorem pl_calm {v : Value} (hi : ops[i]? = some o) (hc : plCls cl i = 0) (hw : Region.wanted o (yielded ops a.tmps) = true) (h : ∀ w', (execOp a.eval o).run P w' = .ok (.value v) w')
  (hk : ∀ K : Act → World → Prop, (∀ a w, wpS P ops Fut cl Q t a w → K a w) → K (a.put o.dst v) w) : wpS P ops Fut cl Q (.get i t) a w := by
 unfold wpS; rw [hi]; simp only; rw [if_pos hw, hc]; exact ⟨v, h, hk _ fun _ _ h => h⟩
theorem pl_read {v : Value} (hi : ops[i]? = some o) (hc : plCls cl i = 1) (hw : Region.wanted o (yielded ops a.tmps) = true) (h : ∀ w', Fut w w' → (execOp a.eval o).run P w' = .ok (.value v) w')
  (hk : ∀ K : Act → World → Prop, (∀ a w, wpS P ops Fut cl Q t a w → K a w) → K (a.put o.dst v) w) : wpS P ops Fut cl Q (.get i t) a w := by
 unfold wpS; rw [hi]; simp only; rw [if_pos hw, hc]; exact ⟨v, h, hk _ fun _ _ h => h⟩
theorem pl_now {v : Value} (hi : ops[i]? = some o) (hc : plCls cl i = 2) (hw : Region.wanted o (yielded ops a.tmps) = true) (h : (execOp a.eval o).run P w = .ok (.value v) w)
  (hk : ∀ K : Act → World → Prop, (∀ a w, wpS P ops Fut cl Q t a w → K a w) → K (a.put o.dst v) w) : wpS P ops Fut cl Q (.get i t) a w := by
 unfold wpS; rw [hi]; simp only; rw [if_pos hw, hc]; exact ⟨v, h, hk _ fun _ _ h => h⟩
theorem pl_skip (hi : ops[i]? = some o) (hw : Region.wanted o (yielded ops a.tmps) = false)
  (hk : ∀ K : Act → World → Prop, (∀ a w, wpS P ops Fut cl Q t a w → K a w) → K (a.put o.dst undef) w) : wpS P ops Fut cl Q (.get i t) a w := by
 unfold wpS; rw [hi]; simp only; rw [if_neg (by rw [hw]; simp)]; exact hk _ fun _ _ h => h
theorem pl_skipa (hi : ops[i]? = some o) (hw : Region.wanted o (yielded ops a.tmps) = false)
  (hk : ∀ K : Act → World → Prop, (∀ a w, wpS P ops Fut cl Q t a w → K a w) → K (a.put o.dst undef) w) : wpS P ops Fut cl Q (.act i t) a w := by
 unfold wpS wpActs; rw [hi]; simp only; rw [if_neg (by rw [hw]; simp)]; exact hk _ fun _ _ h => h
def toK (K : Act → World → Prop) : Exit → Act → World → Prop
 | .normal, a, w => K a w
 | _, _, _ => False
theorem acts_of_list {K : Act → World → Prop} (hi : ops[i]? = some o) (h : wpList P ops (toK fun a' w' => (plCls cl i = 4 → Fut w w') ∧ K a' w') [o] a w) (hw : Region.wanted o (yielded ops a.tmps) = true) : wpActs P ops Fut cl i K a w := by
 unfold wpActs; rw [hi]; simp only; rw [if_pos hw]
 unfold wpList at h
 rw [if_pos hw] at h
 have e : (fun a' w' => wpList P ops (toK fun a' w' => (plCls cl i = 4 → Fut w w') ∧ K a' w') [] a' w') = fun a' w' => (plCls cl i = 4 → Fut w w') ∧ K a' w' := rfl
 rcases h with h | ⟨_, _, _, hf⟩
 ·unfold Oper.wp at h ⊢
  generalize (execOp a.eval o).run P w = r at *
  cases r with
  | ok n w' =>
   cases n <;> simp only [Oper.upon] at h ⊢
   case value => exact h
   case skip => exact h
   case defer => exact h
   case enter f args =>
    refine Calls.mono h fun e w'' he => ?_
    cases e with
    | returned u => exact he
    | panicked c => exact he.elim
    | outgrown => obtain ⟨_, _, hf⟩ := he; exact hf.elim
   case row => exact h
  | halt x w' =>
   cases x <;> simp only [Oper.upon] at h ⊢
   case panic u => exact h.elim
 ·exact hf.elim
theorem pl_act (hi : ops[i]? = some o) (hw : Region.wanted o (yielded ops a.tmps) = true)
  (hk : ∀ K : Act → World → Prop, (∀ a' w', (plCls cl i = 4 → Fut w w') → wpS P ops Fut cl Q t a' w' → K a' w') → wpList P ops (toK K) [o] a w) : wpS P ops Fut cl Q (.act i t) a w := by
 unfold wpS
 exact acts_of_list hi (hk _ fun _ _ h1 h2 => ⟨h1, h2⟩) hw
theorem pl_fork (hi : ops[i]? = some o) (hw : Region.wanted o (yielded ops a.tmps) = true)
  (hk : ∀ K : Act → World → Prop, (∀ a' w', (plCls cl i = 4 → Fut w w') → wpS P ops Fut cl Q s a' w' → K a' w') → wpList P ops (toK K) [o] a w) (ht : wpS P ops Fut cl Q t a w) : wpS P ops Fut cl Q (.fork i s t) a w := by
 unfold wpS
 exact ⟨acts_of_list hi (hk _ fun _ _ h1 h2 => ⟨h1, h2⟩) hw, ht⟩
theorem pl_load {T : TypeId} {x : Operand} {p : Addr} {v : Value} (hi : ops[i]? = some o) (hc : plCls cl i = 1) (hw : Region.wanted o (yielded ops a.tmps) = true) (ho : o.op = .load T x) (hx : a.eval x = .pointer (some p))
  (hT : (match P.underlying T with | some (.struct _) | some (.array _ _) => false | some _ => true | none => false) = true) (hv : w.cell? p = some v)
  (hk : ∀ K : Act → World → Prop, (∀ a w, wpS P ops Grow cl Q t a w → K a w) → K (a.put o.dst v) w) : wpS P ops Grow cl Q (.get i t) a w := by
 refine pl_read hi hc hw (fun w' hf => ?_) hk
 have hv' : w'.cell? p = some v := by
  have := World.block_lt_of_cell? w p hv
  rw [hf.cell this]; exact hv
 unfold execOp
 simp only [ho, hx, Instr.loadAt, Instr.sureAddr, Sem.run_bind, Sem.run_pure, Result.andThen_ok]
 cases hd : P.underlying T with
 | none => rw [hd] at hT; cases hT
 | some d =>
  rw [hd] at hT
  have hagg : (isAgg T).run P w' = .ok false w' := by
   unfold isAgg
   rw [Sem.run_bind, run_underlying hd w']
   cases d <;> simp_all
  simp [loadVar, hagg, load, Sem.run, hv']
theorem pl_loadnow {T : TypeId} {x : Operand} {p : Addr} {v : Value} (hi : ops[i]? = some o) (hc : plCls cl i = 2) (hw : Region.wanted o (yielded ops a.tmps) = true) (ho : o.op = .load T x) (hx : a.eval x = .pointer (some p))
  (hT : (match P.underlying T with | some (.struct _) | some (.array _ _) => false | some _ => true | none => false) = true) (hv : w.cell? p = some v)
  (hk : ∀ K : Act → World → Prop, (∀ a w, wpS P ops Fut cl Q t a w → K a w) → K (a.put o.dst v) w) : wpS P ops Fut cl Q (.get i t) a w := by
 refine pl_now hi hc hw ?_ hk
 unfold execOp
 simp only [ho, hx, Instr.loadAt, Instr.sureAddr, Sem.run_bind, Sem.run_pure, Result.andThen_ok]
 cases hd : P.underlying T with
 | none => rw [hd] at hT; cases hT
 | some d =>
  rw [hd] at hT
  have hagg : (isAgg T).run P w = .ok false w := by
   unfold isAgg
   rw [Sem.run_bind, run_underlying hd w]
   cases d <;> simp_all
  simp [loadVar, hagg, load, Sem.run, hv]
theorem pl_loadb {T : TypeId} {x : Operand} {n : Nat} {g : Nat} {T' : TypeId} {cs : List Value} (hi : ops[i]? = some o) (hc : plCls cl i = 1) (hw : Region.wanted o (yielded ops a.tmps) = true) (ho : o.op = .load T x) (hT : RowT P T n)
  (hb : Blk w g T' cs) (hx : a.eval x = .pointer (some ⟨g, 0, none⟩)) (hn : cs.length = n)
  (hk : ∀ K : Act → World → Prop, (∀ a w, wpS P ops Grow cl Q t a w → K a w) → K (a.put o.dst (.agg cs.toArray)) w) : wpS P ops Grow cl Q (.get i t) a w := by
 refine pl_read hi hc hw (fun w' hf => ?_) hk
 obtain ⟨d, hu, hd, hi⟩ := hT
 have hrun := run_loadVar_row (P := P) w' g T' T cs.toArray (0, 0) d (hb.call hf) hu (by revert hd; cases d <;> simp) (by rw [hi]; simp [hn])
 unfold execOp
 simp only [ho, hx, Instr.loadAt, Instr.sureAddr, Sem.run_bind, Sem.run_pure, Result.andThen_ok, hrun]
theorem pl_loadbnow {T : TypeId} {x : Operand} {n : Nat} {g : Nat} {T' : TypeId} {cs : List Value} (hi : ops[i]? = some o) (hc : plCls cl i = 2) (hw : Region.wanted o (yielded ops a.tmps) = true) (ho : o.op = .load T x) (hT : RowT P T n)
  (hb : Blk w g T' cs) (hx : a.eval x = .pointer (some ⟨g, 0, none⟩)) (hn : cs.length = n)
  (hk : ∀ K : Act → World → Prop, (∀ a w, wpS P ops Fut cl Q t a w → K a w) → K (a.put o.dst (.agg cs.toArray)) w) : wpS P ops Fut cl Q (.get i t) a w := by
 refine pl_now hi hc hw ?_ hk
 obtain ⟨d, hu, hd, hi⟩ := hT
 have hrun := run_loadVar_row (P := P) w g T' T cs.toArray (0, 0) d hb hu (by revert hd; cases d <;> simp) (by rw [hi]; simp [hn])
 unfold execOp
 simp only [ho, hx, Instr.loadAt, Instr.sureAddr, Sem.run_bind, Sem.run_pure, Result.andThen_ok, hrun]
end
attribute [irreducible] wpS wpActs
end Go.Proofs.YtphmefhnffoafaaGreatDoor
namespace Go.Proofs.YtphmefhnffoafaaGreatDoor
open Go.RowKit
set_option linter.unusedVariables false
theorem run_append_zeros {P : Program} (w : World) (t ti ty e : TypeId) (i : TypeInfo) (z : Value) (ht : P.underlying t = some (.slice e)) (hti : P.underlying ti = some (.int .i64)) (hi : P.info? e = some i) (hz : i.zero = some z)
  (hs : i.size = 1) (hzs : z.cells.size = 1) (n : Nat) (h0 : 0 < n) (hb : n * i.bytes ≤ 140737488355328) (hn : n ≤ 140737488355328) :
  (Builtin.append_ #[t, ti] ty #[.slice none 0 0, .int .i64 (n : Int)]).run P w = .ok (.slice (some ⟨w.heap.size, 0, none⟩) n (grownCap w n 0 e)) (w.drew.alloc (.cells (Builtin.zeroCells z.cells n ++ Builtin.zeroCells z.cells (grownCap w n 0 e - n)) e)) := by
 have h1 : IntKind.i64.wrap (n : Int) = n := IntWalk.i64_in _ (by omega)
 have h2 : ¬ ((n : Int) < 0) := by omega
 have h3 : ¬ (281474976710656 < (n : Int) * (i.bytes : Int)) := by
  have : ((n * i.bytes : Nat) : Int) ≤ 140737488355328 := by omega
  rw [Int.natCast_mul] at this
  omega
 have h4 : ¬ (9223372036854775807 < (n : Int)) := by omega
 have h5 : n ≠ 0 := by omega
 have h6 : ¬ (281474976710656 < Builtin.nextslicecap n 0 * i.bytes) := by rw [nextslicecap_zero h0]; omega
 simp [Builtin.append_, run_underlying ht, run_underlying hti, sizeOf, typeInfo, zeroValue, hi, hz, hs, asInt, asIntOf, h1, h2, h3, h4, h5, h6, Question.forced, run_firstCells_none, newRow, grownCap]
theorem wpl_zeros {P : Program} {w : World} {ops : Array Oper} {rest : List Oper} {o : Oper} {a : Act} {Q : Exit → Act → World → Prop} (hgd : o.guard = none) {s x : Operand} {t ti : TypeId}
  (ho : o.op = .call { callee := .builtin .append, args := #[s, x], argTypes := #[t, ti] }) (hti : P.underlying ti = some (.int .i64))
  {e : TypeId} {bytes : Nat} (HE : ElemT P t e 1 bytes) (hs : a.eval s = .slice none 0 0) {n : Nat} (hx : a.eval x = .int .i64 (n : Int)) (h0 : 0 < n) (hb : n * bytes ≤ 140737488355328) (hn : n ≤ 140737488355328)
  (h : ∀ c w', w'.ownsRow w.heap.size e 1 (.slice (some ⟨w.heap.size, 0, none⟩) 0 c) 0 [] → n ≤ c → Below w.heap.size w w' → wpList P ops Q rest (a.put o.dst (.slice (some ⟨w.heap.size, 0, none⟩) n c)) w') : wpList P ops Q (o :: rest) a w := by
 refine wpList_plain hgd fun K hK => ?_
 obtain ⟨i, z, hi, hz, hsz, hby, hzs, _⟩ := HE.hi
 have hrun := run_append_zeros (P := P) w t ti o.type e i z HE.ht hti hi hz hsz hzs n h0 (by rw [hby]; exact hb) hn
 unfold Oper.wp execOp
 simp only [ho, resolve, invoke, builtin, Sem.run_bind, Sem.run_pure, Result.andThen_ok, List.map_toArray, List.map_cons, List.map_nil, hs, hx, hrun]
 have hge := grownCap_ge w n 0 e
 refine hK _ _ (h _ _ ?_ hge ?_)
 ·refine World.ownsRow_made w.drew _ _ (Nat.le_refl _) (grownCap_le_maxLen w n 0 e (by simp only [maxLen]; omega)) ?_
  simp [Builtin.zeroCells, hzs]; omega
 ·exact (Below.drew (Below.refl _ _)).alloc (Nat.le_refl _) _
theorem grow_any (n : Nat) (w : World) (hn : n ≤ 140737488355328) :
  Calls Tryz.prog 93 #[.slice none 0 0, .int .i64 n] w fun e w' => ∃ A c, e = .returned (.slice A 0 c) ∧ w'.ownsRow w.heap.size 5 1 (.slice A 0 c) 0 [] ∧ Below w.heap.size w w' := by
 by_cases h0 : 0 < n
 ·go_enter Tryz.func93, Tryz.ntmps93
  go_wp2_with (at_builtin; refine wpl_zeros rfl rfl Tryz.underlying3 el_u8 rfl rfl h0 ?_ hn ?_)
  ·omega
  ·intro c w1 hown hc hb
   have HO := kp hown; clear hown
   have HB := kp hb; clear hb
   go_wp2_with fail
   go_ret
   exact ⟨_, _, rfl, HO.out, HB.out⟩
 ·obtain rfl : n = 0 := by omega
  go_enter Tryz.func93, Tryz.ntmps93
  go_wp2_with fail
  go_ret
  exact ⟨none, 0, rfl, World.ownsRow_nil _ _ _ _, Below.refl _ _⟩
def Parts (w : World) (Bd : Nat) (A : Option Addr) (n : Nat) (ps : List (Value × List UInt8)) : Prop :=
 Sl w Bd 1 A n (ps.map Prod.fst) ∧ ∀ p ∈ ps, ∃ A c, p.1 = .slice A p.2.length c ∧ p.2.length ≤ c ∧ Sl w Bd 1 A p.2.length (p.2.map B)
theorem Parts.below {w w' : World} {Bd : Nat} {A : Option Addr} {n : Nat} {ps : List (Value × List UInt8)} (h : Parts w Bd A n ps) (hb : Below Bd w w') : Parts w' Bd A n ps :=
 ⟨h.1.below hb, fun p hp => let ⟨A, c, e, hc, hs⟩ := h.2 p hp; ⟨A, c, e, hc, hs.below hb⟩⟩
theorem Parts.more {w : World} {Bd B' : Nat} {A : Option Addr} {n : Nat} {ps : List (Value × List UInt8)} (h : Parts w Bd A n ps) (hB : Bd ≤ B') : Parts w B' A n ps :=
 ⟨h.1.more hB, fun p hp => let ⟨A, c, e, hc, hs⟩ := h.2 p hp; ⟨A, c, e, hc, hs.more hB⟩⟩
theorem Parts.len {w : World} {Bd : Nat} {A : Option Addr} {n : Nat} {ps : List (Value × List UInt8)} (h : Parts w Bd A n ps) : ps.length = n := by
 have := h.1.len; simpa using this
theorem Parts.at_ {w : World} {Bd : Nat} {A : Option Addr} {n : Nat} {ps : List (Value × List UInt8)} (h : Parts w Bd A n ps) {k : Nat} (hk : k < n) :
  ∃ b off A2 c2 bs, A = some ⟨b, off, none⟩ ∧ ps[k]? = some (.slice A2 bs.length c2, bs) ∧ w.cell? ⟨b, off + k, none⟩ = some (.slice A2 bs.length c2) ∧ bs.length ≤ c2 ∧ Sl w Bd 1 A2 bs.length (bs.map B) := by
 obtain ⟨b, off, u, e, hb, hu, hc⟩ := h.1.at_ hk
 rw [List.getElem?_map] at hu
 obtain ⟨p, h1, rfl⟩ := Option.map_eq_some_iff.1 hu
 obtain ⟨A2, c2, he, hcc, hs⟩ := h.2 p (List.mem_of_getElem? h1)
 exact ⟨b, off, A2, c2, p.2, e, by rw [h1, ← he], by rw [hc, he], hcc, hs⟩
def cat (ps : List (Value × List UInt8)) : List UInt8 := (ps.map Prod.snd).flatten
theorem cat_take (ps : List (Value × List UInt8)) (k : Nat) (p : Value × List UInt8) (h : ps[k]? = some p) : cat (ps.take (k + 1)) = cat (ps.take k) ++ p.2 := by
 unfold cat
 rw [List.take_add_one, h]
 simp
theorem cat_le (ps : List (Value × List UInt8)) (k : Nat) : (cat (ps.take k)).length ≤ (cat ps).length := by
 unfold cat
 conv => rhs; rw [← List.take_append_drop k ps]
 simp only [List.map_append, List.flatten_append, List.length_append]
 omega
attribute [irreducible] cat
theorem bytes_one (bs : List UInt8) : ∀ u ∈ bs.map B, u.oneCell' = true := fun u hu => by obtain ⟨x, _, rfl⟩ := List.mem_map.1 hu; rfl
theorem concat_any (A : Option Addr) (n c : Nat) (ps : List (Value × List UInt8)) (w : World) (hp : Parts w w.heap.size A n ps) (hn : n ≤ 1000000) (hl : (cat ps).length ≤ 1099511627776) :
  Calls Tryz.prog 82 #[.slice A n c] w fun e w' => ∃ A' c', e = .returned (.slice A' (cat ps).length c') ∧ w'.ownsRow w.heap.size 5 1 (.slice A' (cat ps).length c') (cat ps).length ((cat ps).map B) ∧ Below w.heap.size w w' := by
 have HP := kp hp; clear hp
 generalize hL : (cat ps).length = L at *
 have HL := kp hL; clear hL
 go_enter Tryz.func82, Tryz.ntmps82
 go_wp2_with fail
 go_loop [3, 11] (fun s i => ∃ k : Nat, k ≤ n ∧ i = .int .i64 k ∧ s = .int .i64 (cat (ps.take k)).length) (fun _ i => n - (intOf i).toNat)
 case atStart => exact ⟨0, by omega, rfl, by simp [cat]⟩
 case round =>
  obtain ⟨k, hk, rfl, rfl⟩ := hrel
  by_cases hlt : k < n
  ·obtain ⟨b, off, A2, c2, bs, rfl, hps, hc, hcc, hs⟩ := HP.out.at_ hlt
   have h1 := cat_take ps k _ hps
   have h2 := cat_le ps (k + 1)
   rw [h1, List.length_append, HL.out] at h2
   have h3 : (cat (ps.take (k + 1))).length = (cat (ps.take k)).length + bs.length := by rw [h1, List.length_append]
   have H3 := kp h3
   have HS := kp hs
   simp only [] at h2
   clear h1 h3 hps hs
   generalize (cat (ps.take k)).length = m at *
   go_wp2_with fail
   go_round
   case rel => exact ⟨k + 1, by omega, by go_num, by rw [H3.out]; go_num⟩
   case measure => simp [intOf]; omega
  ·obtain rfl : k = n := by omega
   have hf : cat (ps.take k) = cat ps := by rw [List.take_of_length_le (by rw [HP.out.len]; omega)]
   rw [hf, HL.out]
   clear hf
   go_wp2_with fail
   refine (grow_any L w (by omega)).mono ?_
   rintro e w1 ⟨A1, c1, rfl, hown, hb⟩
   have HO := kp hown; clear hown
   have HB := kp hb; clear hb
   clear hlt hk
   generalize hkn : k = n at *
   clear hkn
   obtain ⟨wo, rfl⟩ : ∃ wo : World, wo = w1 := ⟨_, rfl⟩
   go_wp2_with fail
   go_loopw [6, 27] (fun v i wr => ∃ k : Nat, ∃ A' c', k ≤ n ∧ i = .int .i64 k ∧ v = .slice A' (cat (ps.take k)).length c' ∧ Hid (wr.ownsRow w.heap.size 5 1 (.slice A' (cat (ps.take k)).length c') (cat (ps.take k)).length ((cat (ps.take k)).map B)) ∧ Hid (Below w.heap.size w wr)) (fun _ i _ => n - (intOf i).toNat)
   case atStart => exact ⟨0, A1, c1, by omega, rfl, by simp [cat], (show wo.ownsRow _ _ _ _ _ _ by simpa [cat] using HO.out), HB⟩
   case round =>
    obtain ⟨k, A3, c3, hk, rfl, rfl, hown, hbw⟩ := hrel
    by_cases hlt : k < n
    ·obtain ⟨b, off, A2, c2, bs, rfl, hps, hc, hcc, hs⟩ := (HP.out.below hbw.out).at_ hlt
     have h1 := cat_take ps k _ hps
     have h2 := cat_le ps (k + 1)
     rw [h1, List.length_append, HL.out] at h2
     simp only [] at h2
     have H1 := kp h1
     have HS := kp hs
     clear h1 hps hs
     generalize hm : (cat (ps.take k)).length = m at *
     have HM := kp hm; clear hm
     go_wp2_with (at_builtin; refine wpl_apps rfl rfl el_u8 hown.out rfl HS.out rfl (bytes_one bs) ?_ ?_ hbw.out.size ?_)
     ·omega
     ·omega
     ·intro A4 c4 w4 ho hg _
      have hb3 := below_grown hbw.out hg hbw.out.size (own_from hown.out)
      have HO4 := kp ho
      have HB4 := kp hb3
      clear ho hb3 hg
      go_wp2_with fail
      go_roundw
      case rel =>
       have e : (cat (ps.take (k + 1))).length = m + bs.length := by rw [H1.out, List.length_append, HM.out]
       refine ⟨k + 1, A4, c4, by omega, by go_num, by rw [e], ?_, HB4⟩
       rw [e, H1.out, List.map_append]
       exact HO4.out
      case measure => simp [intOf]; omega
    ·obtain rfl : k = n := by omega
     have hf : cat (ps.take k) = cat ps := by rw [List.take_of_length_le (by rw [HP.out.len]; omega)]
     rw [hf, HL.out] at hown
     have hf2 : (cat (ps.take k)).length = L := by rw [hf, HL.out]
     rw [hf2]
     clear hf hf2
     go_wp2_with fail
     go_ret
     exact ⟨A3, c3, rfl, hown.out, hbw.out⟩
open Go.RowKit Go.Shelf
theorem chunk_any (A : Option Addr) (n c : Nat) (w : World) :
  Calls Tryz.prog 84 #[.slice A n c, .int .i64 64] w fun e w' => e = .returned (.func (.func 94) #[] #[.pointer (some ⟨w.heap.size, 0, none⟩), .pointer (some ⟨w.heap.size + 1, 0, none⟩)]) ∧
   w'.cell? ⟨w.heap.size, 0, none⟩ = some (.slice A n c) ∧ w'.cell? ⟨w.heap.size + 1, 0, none⟩ = some (.int .i64 64) ∧ w'.heap.size = w.heap.size + 2 ∧ Below w.heap.size w w' := by
 go_enter Tryz.func84, Tryz.ntmps84
 go_wp2_with fail
 go_ret
 exact ⟨rfl, by simp, by simp, by simp, ((Below.refl _ _).alloc (Nat.le_refl _) _).alloc (by simp) _⟩
set_option maxRecDepth 100000 in
set_option maxHeartbeats 1000000 in
theorem chunk1_any (m : Nat) (hm : 1 ≤ m) (l Bs Bn b off nb c : Nat) (Kp : World → World → Prop) (hKd : ∀ W n, Kp W (World.drewN W n)) (hKt : ∀ A B C : World, Kp A B → Kp B C → Kp A C) (hKs : ∀ W W', Kp W W' → W'.cell? ⟨Bs, 0, none⟩ = W.cell? ⟨Bs, 0, none⟩) (hKn : ∀ W W', Kp W W' → W'.cell? ⟨Bn, 0, none⟩ = W.cell? ⟨Bn, 0, none⟩) (hc : 64 * nb ≤ c) (hnb : nb ≤ 1000000000000) (J Jx : List (Fin nb) → World → Prop) (hJd : ∀ pre W1 n, J pre W1 → J pre (W1.drewN n))
  (hY : ∀ pre x W, J pre W → pre.length < nb → YieldAt Fence.wide (m - 1) Tryz.prog l #[.slice (some ⟨b, off + 64 * x.val, none⟩) 64 64] W fun e W' =>
    (e = .returned (.bool true) ∧ J (pre ++ [x]) W' ∧ Kp W W') ∨ (e = .returned (.bool false) ∧ Jx (pre ++ [x]) W'))
  (W : World) (hBs : W.cell? ⟨Bs, 0, none⟩ = some (.slice (some ⟨b, off, none⟩) (64 * nb) c)) (hBn : W.cell? ⟨Bn, 0, none⟩ = some (.int .i64 64)) (h0 : J [] W) :
  Calls Tryz.prog 94 #[.func (.yield l) #[] #[], .pointer (some ⟨Bs, 0, none⟩), .pointer (some ⟨Bn, 0, none⟩)] W fun e W' => (∃ v, e = .returned v) ∧
   ((∃ ys, ys.map Fin.val = List.range nb ∧ J ys W') ∨ (∃ pre, True ∧ Jx pre W')) := by
 have HY := kp hY; clear hY
 have HKD := kp hKd; clear hKd
 have HKT := kp hKt; clear hKt
 have HKS := kp hKs; clear hKs
 have HKN := kp hKn; clear hKn
 have HJD := kp hJd; clear hJd
 have H0 := kp h0; clear h0
 have HBS := kp hBs; clear hBs
 have HBN := kp hBn; clear hBn
 go_enter Tryz.func94, Tryz.ntmps94
 go_wp2_with fail
 go_loopw [4] (fun i wr => ∃ k : Nat, k ≤ nb ∧ i = .int .i64 (64 * (k : Int)) ∧ Hid (∃ pre, pre.map Fin.val = List.range k ∧ J pre wr) ∧ Hid (Kp W wr)) (fun i _ => 64 * nb - (intOf i).toNat)
 case atStart => exact ⟨0, Nat.zero_le _, rfl, ⟨[], rfl, H0.out⟩, HKD.out W 0⟩
 case round =>
  obtain ⟨k, hk, rfl, hJ, hbw⟩ := hrel
  have cs := (HKS.out _ _ hbw.out).trans HBS.out
  have cn := (HKN.out _ _ hbw.out).trans HBN.out
  by_cases hlt : k < nb
  ·have q1 : 64 * (k : Int) < ((64 * nb : Nat) : Int) := by omega
   have q2 : ¬ c = 64 * k := by omega
   have z1 : (64 * (k : Int)).toNat = 64 * k := by omega
   have p1 : 0 ≤ 64 * (k : Int) := by omega
   have p2 : 64 * (k : Int) ≤ ((64 * nb : Nat) : Int) := by omega
   have p3 : 64 * (k : Int) ≤ 64 * (nb : Int) := by omega
   have p4 : 64 * k ≤ 64 * nb := by omega
   repeat' (first | (with_reducible refine wp_region_quiet_lit (id := 3) (by kernel_rfl) (by kernel_rfl) ?_) | go_values | go_skip | go_guarded | go_step | go_upon | go_back)
   repeat (quiet_step (fail))
   refine wpQuiet_nil ?_
   intro _ hw'
   obtain ⟨nq, hw''⟩ := hw'
   subst hw''
   rw [show (if ((64 * nb - 64 * k : Nat) : Int) < 64 then ((64 * nb - 64 * k : Nat) : Int) else 64) = 64 from if_neg (by omega)]
   obtain ⟨pre, hpre, hJp⟩ := hJ.out
   have hJ2 := HJD.out _ _ nq hJp
   have HPRE := kp hpre
   have hlen : pre.length = k := by have := congrArg List.length hpre; simpa using this
   have hbw2 := kp (HKT.out _ _ _ hbw.out (HKD.out wr nq))
   have cs2 : (wr.drewN nq).cell? ⟨Bs, 0, none⟩ = some (.slice (some ⟨b, off, none⟩) (64 * nb) c) := cs
   obtain ⟨fn, tmps, assign, body, hy, hR⟩ := HY.out pre ⟨k, hlt⟩ (wr.drewN nq) hJ2 (by rw [hlen]; exact hlt)
   have HR := kp hR
   clear hR hJ2 cs cn hJp hpre hlen hJ
   generalize hw2 : wr.drewN nq = w2 at *
   clear hw2
   have z2 : (64 * (k : Int) + 64).toNat = 64 * k + 64 := by omega
   have q3 : 64 * (k : Int) + 64 ≤ c := by omega
   have q4 : ¬ c = 64 * k := by omega
   have q5 : 0 ≤ 64 * (k : Int) + 64 := by omega
   repeat' (first | (with_reducible refine (wpIn_wide (n := m) (c := Code.region 4 _ _)).1 ?_) | go_values | go_skip | go_guarded | go_step | go_upon | go_back)
   gi_wp2
   refine HR.out.mono ?_
   rintro e W3 (⟨rfl, hJ3, hk3⟩ | ⟨rfl, hJx3⟩)
   ·have HJ3 := kp hJ3
    have HK3 := kp (HKT.out _ _ _ hbw2.out hk3)
    clear hJ3 hk3
    have cn3 := (HKN.out _ _ HK3.out).trans HBN.out
    gi_wp2
    repeat' (first | go_values | go_skip | go_guarded | go_step | go_upon | go_back)
    go_roundw
    case rel => exact ⟨k + 1, by omega, by go_num, ⟨pre ++ [⟨k, hlt⟩], by rw [List.map_append, HPRE.out, List.range_succ]; rfl, HJ3.out⟩, HK3⟩
    case measure => simp [intOf]; omega
   ·have HJX := kp hJx3
    clear hJx3
    gi_wp2
    repeat' (first | go_values | go_skip | go_guarded | go_step | go_upon | go_back)
    refine bodyPost_ret (results_none rfl _ _ _) rfl ?_
    exact ⟨⟨_, rfl⟩, .inr ⟨_, trivial, HJX.out⟩⟩
  ·go_wp2_with fail
   go_end0
   obtain rfl : k = nb := by omega
   exact ⟨⟨_, rfl⟩, .inl hJ.out⟩
def KeepX (gv n₀ : Nat) (W W' : World) : Prop := ∀ k, k < n₀ → k ≠ gv → W'.heap[k]? = W.heap[k]?
theorem chunk1_stops (m : Nat) (hm : 1 ≤ m) (Bs Bn n₀ gv b off nb c : Nat) (w : World) (hw : n₀ ≤ w.heap.size) (hbs : Bs < n₀) (hbn : Bn < n₀) (hbs2 : Bs ≠ gv) (hbn2 : Bn ≠ gv) (hc : 64 * nb ≤ c) (hnb : nb ≤ 1000000000000)
  (hBs : w.cell? ⟨Bs, 0, none⟩ = some (.slice (some ⟨b, off, none⟩) (64 * nb) c)) (hBn : w.cell? ⟨Bn, 0, none⟩ = some (.int .i64 64)) :
  SeqStopsK Fence.wide m Tryz.prog 94 #[.pointer (some ⟨Bs, 0, none⟩), .pointer (some ⟨Bn, 0, none⟩)] (fun x : Fin nb => #[.slice (some ⟨b, off + 64 * x.val, none⟩) 64 64]) (KeepX gv n₀) (fun xs => xs.map Fin.val = List.range nb) (fun _ => True) nb w := by
 intro l J Jx W hW hJ hJx hY h0
 refine callsIn_wide.2 (chunk1_any m hm l Bs Bn b off nb c (KeepX gv n₀) (fun W n k _ _ => rfl) (fun A B C h1 h2 k hk hg => (h2 k hk hg).trans (h1 k hk hg)) (fun W W' h => World.cell?_of_block (h Bs hbs hbs2)) (fun W W' h => World.cell?_of_block (h Bn hbn hbn2)) hc hnb J Jx ?_ hY W ?_ ?_ h0)
 ·intro pre W1 n h
  exact hJ pre W1 _ none h ⟨rfl, rfl, rfl, Nat.le_refl _, fun _ _ _ => rfl⟩ (fun r e => by cases e)
 ·exact (hW.cell (p := ⟨Bs, 0, none⟩) (by show Bs < _; omega)).trans hBs
 ·exact (hW.cell (p := ⟨Bn, 0, none⟩) (by show Bn < _; omega)).trans hBn
end Go.Proofs.YtphmefhnffoafaaGreatDoor

/- A region that draws its order, walked along a plan: operations that leave the world are taken as soon as they can be, those that act stand in the order that the edges force (or fork). No program in sight.
   Classes: 0 an operation that looks at no world; 1 a read that stands whatever may still happen (Fut); 2 a read behind which all that act wait; 3 an operation that acts; 4 one that acts within Fut. -/
import Derived.Test.YtphmefhnffoafaaTxReadsB2
import Derived.Test.YtphmefhnffoafaaRows
import Derived.Deep.QuietTactic
import Derived.BigQuiet
import Derived.StillTailTactics
import Derived.RangeFuncNested
import Derived.RangeFuncBound
import Derived.RangeFuncCalls
import Derived.RangeFuncLeaves
import Derived.Shelf.Abstract
import Derived.Shelf.RegionOpen
import Derived.OwnWalkIn
import Derived.TacticsInMore
import Derived.LoopNIn
import Derived.LoopIn
import Derived.Laws.CopyOwn
import Derived.Deep.RegionWith
import Derived.Deep.MidRow
import Derived.Deep.CutRange
import Derived.Deep.CutBlock
import Derived.Test.YtphmefhnffoafaaTxReadsB1
import Derived.Laws.IdiomStrings
set_option linter.unusedSimpArgs false
/- A region that draws its order, walked along a plan: operations that leave the world are taken as soon as they can be, those that act stand in the order that the edges force (or fork). No program in sight.
   Classes: 0 an operation that looks at no world; 1 a read that stands whatever may still happen (Fut); 2 a read behind which all that act wait; 3 an operation that acts; 4 one that acts within Fut. -/
namespace Go.Proofs.Ytphmefhnffoafaa
open Go.RowKit

inductive Plan where
  | done
  | get (i : Nat) (t : Plan)
  | act (i : Nat) (t : Plan)
  | fork (i : Nat) (s t : Plan)

def noQ : Exit → Act → World → Prop := fun _ _ _ => False
def plCls (cl : List Nat) (i : Nat) : Nat := cl.getD i 3
def plOkc : Nat → Nat → Bool
  | 0, _ => true
  | 1, c => decide (c ≤ 2) || c == 4
  | 2, c => decide (c ≤ 2)
  | _, _ => false

section
variable (P : Program) (md : Region.Mode) (ops : Array Oper) (Fut : World → World → Prop) (cl : List Nat) (Q : Exit → Act → World → Prop)

def plFree (i : Nat) (listed : Array Bool) : Bool :=
  (List.range ops.size).all fun j => j == i || listed.getD j true || (ancs md ops ops.size j).contains i || plOkc (plCls cl i) (plCls cl j)
def planB : Nat → Plan → List Nat → Array Bool → Bool
  | _, .done, hs, listed => hs.isEmpty && (Region.ready md ops listed).isEmpty
  | 0, _, _, _ => false
  | f + 1, .get i t, hs, listed => hs.isEmpty && decide (plCls cl i ≤ 2) && (Region.ready md ops listed).contains i && Region.free md ops listed i && plFree md ops cl i listed && planB f t [] (listed.setIfInBounds i true)
  | f + 1, .act i t, hs, listed => decide (3 ≤ plCls cl i) && (Region.ready md ops listed).all (fun j => (i :: hs).contains j) && !(Region.ready md ops listed).isEmpty && planB f t [] (listed.setIfInBounds i true)
  | f + 1, .fork i s t, hs, listed => decide (3 ≤ plCls cl i) && planB f s [] (listed.setIfInBounds i true) && planB (f + 1) t (i :: hs) listed

def plOK (c : Nat) (o : Oper) (a : Act) (w : World) (v : Value) : Prop :=
  match c with
  | 0 => ∀ w', (execOp a.eval o).run P w' = .ok (.value v) w'
  | 1 => ∀ w', Fut w w' → (execOp a.eval o).run P w' = .ok (.value v) w'
  | _ => (execOp a.eval o).run P w = .ok (.value v) w
def wpActs (i : Nat) (K : Act → World → Prop) (a : Act) (w : World) : Prop :=
  match ops[i]? with
  | none => False
  | some o => if Region.wanted o (yielded ops a.tmps) then o.wp P a w (fun a' w' => (plCls cl i = 4 → Fut w w') ∧ K a' w') noQ else K (a.put o.dst undef) w
/-- The walk along the plan. -/
def wpS : Plan → Act → World → Prop
  | .done, a, w => Q .normal a w
  | .get i t, a, w => match ops[i]? with
    | none => False
    | some o => if Region.wanted o (yielded ops a.tmps) then ∃ v, plOK P Fut (plCls cl i) o a w v ∧ wpS t (a.put o.dst v) w else wpS t (a.put o.dst undef) w
  | .act i t, a, w => wpActs P ops Fut cl i (wpS t) a w
  | .fork i s t, a, w => wpActs P ops Fut cl i (wpS s) a w ∧ wpS t a w
def wpOpF (i : Nat) (K : Act → World → Prop) (a : Act) (w : World) : Prop :=
  match ops[i]? with
  | none => False
  | some o => if Region.wanted o (yielded ops a.tmps) then
      (if plCls cl i ≤ 2 then ∃ v, (execOp a.eval o).run P w = .ok (.value v) w ∧ K (a.put o.dst v) w else o.wp P a w (fun a' w' => (plCls cl i = 4 → Fut w w') ∧ K a' w') noQ)
    else K (a.put o.dst undef) w
def wpAnyF : Nat → Array Bool → Act → World → Prop
  | 0, listed, a, w => Region.ready md ops listed = [] ∧ Q .normal a w
  | f + 1, listed, a, w => (Region.ready md ops listed = [] → Q .normal a w) ∧ ∀ i ∈ Region.ready md ops listed, wpOpF P ops Fut cl i (wpAnyF f (listed.setIfInBounds i true)) a w
end

section
variable {P : Program} {md : Region.Mode} {ops : Array Oper} {Fut : World → World → Prop} {cl : List Nat} {Q : Exit → Act → World → Prop}

theorem oper_wp_no {o : Oper} {a : Act} {w : World} {K K' : Act → World → Prop} {Q : Exit → Act → World → Prop} (h : ∀ a w, K a w → K' a w) (hh : o.wp P a w K noQ) : o.wp P a w K' Q := by
  unfold Oper.wp at *
  generalize (execOp a.eval o).run P w = r at *
  cases r with
  | ok n w' =>
    cases n <;> simp only [Oper.upon] at hh ⊢
    case value => exact h _ _ hh
    case skip => exact h _ _ hh
    case defer => exact h _ _ hh
    case enter f args =>
      refine Calls.mono hh fun e w'' he => ?_
      cases e with
      | returned u => exact h _ _ he
      | panicked c => exact he.elim
      | outgrown => obtain ⟨_, _, hf⟩ := he; exact hf.elim
    case row => exact Rows.mono hh fun _ _ he => h _ _ he
  | halt x w' =>
    cases x <;> simp only [Oper.upon] at hh ⊢
    case panic u => exact hh.elim
theorem wpOpF_mono {i : Nat} {K K' : Act → World → Prop} {a : Act} {w : World} (h : ∀ a w, K a w → K' a w) (hh : wpOpF P ops Fut cl i K a w) : wpOpF P ops Fut cl i K' a w := by
  unfold wpOpF at *
  cases ho : ops[i]? with
  | none => rw [ho] at hh; exact hh
  | some o =>
    rw [ho] at hh
    simp only at hh ⊢
    split
    · rename_i hw
      rw [if_pos hw] at hh
      split
      · rename_i hc; rw [if_pos hc] at hh; obtain ⟨v, h1, h2⟩ := hh; exact ⟨v, h1, h _ _ h2⟩
      · rename_i hc; rw [if_neg hc] at hh; exact oper_wp_no (fun a w h1 => ⟨h1.1, h _ _ h1.2⟩) hh
    · rename_i hw; rw [if_neg hw] at hh; exact h _ _ hh
theorem wpOp_of_F {i : Nat} {K : Act → World → Prop} {a : Act} {w : World} (hh : wpOpF P ops Fut cl i K a w) : wpOp P ops Q i K a w := by
  unfold wpOpF at hh
  unfold wpOp
  cases ho : ops[i]? with
  | none => rw [ho] at hh; exact hh.elim
  | some o =>
    rw [ho] at hh
    simp only at hh ⊢
    split
    · rename_i hw
      rw [if_pos hw] at hh
      left
      split at hh
      · obtain ⟨v, h1, h2⟩ := hh
        unfold Oper.wp; rw [h1]; exact h2
      · exact oper_wp_no (fun a w h1 => h1.2) hh
    · rename_i hw; rw [if_neg hw] at hh; exact hh
theorem wpAny_of_F : ∀ (f : Nat) (listed : Array Bool) (a : Act) (w : World), wpAnyF P md ops Fut cl Q f listed a w → wpAny P md ops Q f listed a w
  | 0, _, _, _, h => h
  | f + 1, _, _, _, h => ⟨h.1, fun i hi => wpOp_of_F (wpOpF_mono (fun a w h1 => wpAny_of_F f _ a w h1) (h.2 i hi))⟩

/-- Another operation, moved ahead of one that leaves the world. -/
theorem wpOpF_put {j : Nat} {oi oj : Oper} {v : Value} (hj : ops[j]? = some oj) (hap : oi.apart ops oj = true) (hsi : ∀ cs b, oi.op ≠ .select cs b) (hsj : ∀ cs b, oj.op ≠ .select cs b)
    {K : Act → World → Prop} {a : Act} {w : World} (h : wpOpF P ops Fut cl j K (a.put oi.dst v) w) :
    wpOpF P ops Fut cl j (fun a' w' => (execOp a'.eval oi = execOp a.eval oi ∧ Region.wanted oi (yielded ops a'.tmps) = Region.wanted oi (yielded ops a.tmps)) ∧ (plCls cl j ≤ 2 → w' = w) ∧ (plCls cl j = 4 → w' = w ∨ Fut w w') ∧ K (a'.put oi.dst v) w') a w := by
  obtain ⟨h1, h2, h3⟩ := Oper.apart_spec hap
  have keep : ∀ (a : Act) u, execOp (a.put oj.dst u).eval oi = execOp a.eval oi ∧ Region.wanted oi (yielded ops (a.put oj.dst u).tmps) = Region.wanted oi (yielded ops a.tmps) := fun a u => ⟨execOp_put oi hsi a oj.dst u h3, wanted_put oi a oj.dst u h3⟩
  unfold wpOpF at *
  rw [hj] at h ⊢
  simp only at h ⊢
  rw [wanted_put oj a oi.dst v h1] at h
  split
  · rename_i hw
    rw [if_pos hw] at h
    rw [execOp_put oj hsj a oi.dst v h1] at h
    split
    · rename_i hc
      rw [if_pos hc] at h
      obtain ⟨u, e1, e2⟩ := h
      exact ⟨u, e1, keep a u, fun _ => by trivial, fun _ => .inl (by trivial), by rw [← Act.put_comm a v u h2]; exact e2⟩
    · rename_i hc
      rw [if_neg hc] at h
      unfold Oper.wp at *
      rw [execOp_put oj hsj a oi.dst v h1] at h
      generalize (execOp a.eval oj).run P w = r at *
      cases r with
      | ok n w' =>
        cases n <;> simp only [Oper.upon] at h ⊢
        case value u => exact ⟨h.1, keep a u, fun e => absurd e hc, fun e => .inr (h.1 e), by rw [← Act.put_comm a v u h2]; exact h.2⟩
        case skip => exact ⟨h.1, keep a undef, fun e => absurd e hc, fun e => .inr (h.1 e), by rw [← Act.put_comm a v undef h2]; exact h.2⟩
        case defer d =>
          refine ⟨h.1, keep { a with defers := d :: a.defers } undef, fun e => absurd e hc, fun e => .inr (h.1 e), ?_⟩
          rw [← Act.put_comm _ v undef h2, ← Act.put_defers]
          exact h.2
        case enter f args =>
          refine Calls.mono h fun e w'' he => ?_
          cases e with
          | returned u => exact ⟨he.1, keep a u, fun e => absurd e hc, fun e => .inr (he.1 e), by rw [← Act.put_comm a v u h2]; exact he.2⟩
          | panicked c => exact he
          | outgrown => exact he
        case row row args => exact Rows.mono h fun u w'' he => ⟨he.1, keep a u, fun e => absurd e hc, fun e => .inr (he.1 e), by rw [← Act.put_comm a v u h2]; exact he.2⟩
      | halt x w' =>
        cases x <;> simp only [Oper.upon] at h ⊢
        case panic u => exact h.elim
  · rename_i hw
    rw [if_neg hw] at h
    exact ⟨keep a undef, fun _ => by trivial, fun _ => .inl (by trivial), by rw [← Act.put_comm a v undef h2]; exact h⟩

/-- An operation that leaves the world may be taken first. -/
theorem wpAnyF_first {i : Nat} {oi : Oper} {v : Value} (hi : ops[i]? = some oi) (hsel : ∀ (j : Nat) (o : Oper) cs b, ops[j]? = some o → o.op ≠ .select cs b) (hc : plCls cl i ≤ 2) (hrefl : ∀ w, Fut w w) (htr : ∀ w1 w2 w3, Fut w1 w2 → Fut w2 w3 → Fut w1 w3) :
    ∀ (f : Nat) (listed : Array Bool) (a : Act) (w : World), PClosed md ops listed →
      (∀ j oj, ops[j]? = some oj → j ≠ i → listed.getD j true = false → i ∉ ancs md ops ops.size j → oi.apart ops oj = true ∧ plOkc (plCls cl i) (plCls cl j) = true) →
      i ∈ Region.ready md ops listed → (if Region.wanted oi (yielded ops a.tmps) then plOK P Fut (plCls cl i) oi a w v else v = undef) →
      wpAnyF P md ops Fut cl Q f (listed.setIfInBounds i true) (a.put oi.dst v) w → wpAnyF P md ops Fut cl Q (f + 1) listed a w := by
  have own : ∀ (a : Act) (w : World) (K : Act → World → Prop), (if Region.wanted oi (yielded ops a.tmps) then plOK P Fut (plCls cl i) oi a w v else v = undef) → K (a.put oi.dst v) w → wpOpF P ops Fut cl i K a w := by
    intro a w K hy hK
    unfold wpOpF
    rw [hi]
    simp only
    split
    · rename_i hw
      rw [if_pos hw] at hy
      try rw [if_pos hc]
      refine ⟨v, ?_, hK⟩
      unfold plOK at hy
      split at hy
      · exact hy w
      · exact hy w (hrefl w)
      · exact hy
    · rename_i hw
      rw [if_neg hw] at hy
      rw [← hy]; exact hK
  intro f
  induction f with
  | zero =>
    intro listed a w _ _ hr hy H
    refine ⟨fun h => (by rw [h] at hr; cases hr), fun j hj => ?_⟩
    by_cases hji : j = i
    · subst hji; exact own a w _ hy H
    · have := ready_mono hj hji
      rw [H.1] at this
      cases this
  | succ f ih =>
    intro listed a w hcl hfree hr hy H
    refine ⟨fun h => (by rw [h] at hr; cases hr), fun j hj => ?_⟩
    by_cases hji : j = i
    · subst hji; exact own a w _ hy H
    · have h1 := H.2 j (ready_mono hj hji)
      obtain ⟨hjun, oj, hoj, hall⟩ := mem_ready.1 hj
      have hnot : i ∉ ancs md ops ops.size j := fun hm => by
        have := ancs_listed hcl ops.size j (fun oi' hoi' => by rw [hoj] at hoi'; cases hoi'; exact hall) i hm
        rw [getD_tf (mem_ready.1 hr).1] at this
        cases this
      obtain ⟨hap, hok⟩ := hfree j oj hoj hji hjun hnot
      have h2 := wpOpF_put hoj hap (fun cs b => hsel i oi cs b hi) (fun cs b => hsel j oj cs b hoj) h1
      refine wpOpF_mono (fun a' w' h3 => ?_) h2
      obtain ⟨⟨k1, k2⟩, k3, k4, k5⟩ := h3
      refine ih (listed.setIfInBounds j true) a' w' (closed_set hcl hj) (fun k ok hk hki hun hno => hfree k ok hk hki ?_ hno) (ready_mono hr (Ne.symm hji)) ?_ ?_
      · by_cases hjk : j = k
        · subst hjk; exact hjun
        · rw [getD_ne true hjk] at hun; exact hun
      · rw [k2]
        split
        · rename_i hw
          rw [if_pos hw] at hy
          unfold plOK at hy ⊢
          rw [k1]
          split at hy
          · exact hy
          · rename_i hc1
            rw [hc1] at hok
            simp only [plOkc, Bool.or_eq_true, decide_eq_true_eq, beq_iff_eq] at hok
            intro w'' hf
            rcases hok with hok | hok
            · rw [k3 hok] at hf; exact hy w'' hf
            · rcases k4 hok with e | e
              · rw [e] at hf; exact hy w'' hf
              · exact hy w'' (htr _ _ _ e hf)
          · rename_i n1 n2
            have h22 : plCls cl i = 2 := by
              have : plCls cl i ≠ 0 := n1
              have : plCls cl i ≠ 1 := n2
              omega
            rw [h22] at hok
            simp only [plOkc, decide_eq_true_eq] at hok
            rw [k3 hok]; exact hy
        · rename_i hw
          rw [if_neg hw] at hy
          exact hy
      · rw [Array.setIfInBounds_comm _ _ hji]
        exact k5

theorem wpOpF_of_acts {i : Nat} {K : Act → World → Prop} {a : Act} {w : World} (hc : 3 ≤ plCls cl i) (h : wpActs P ops Fut cl i K a w) : wpOpF P ops Fut cl i K a w := by
  unfold wpActs at h
  unfold wpOpF
  cases ho : ops[i]? with
  | none => rw [ho] at h; exact h
  | some o =>
    rw [ho] at h
    simp only at h ⊢
    rw [if_neg (show ¬ plCls cl i ≤ 2 by omega)]
    exact h
theorem wpAnyF_of_plan (hs : Region.noSelect ops = true) (hrefl : ∀ w, Fut w w) (htr : ∀ w1 w2 w3, Fut w1 w2 → Fut w2 w3 → Fut w1 w3) :
    ∀ (p : Plan) (f : Nat) (hds : List Nat) (listed : Array Bool) (a : Act) (w : World), PClosed md ops listed → planB md ops cl f p hds listed = true →
      (∀ i ∈ hds, i ∈ Region.ready md ops listed → ∀ g, f = g + 1 → wpOpF P ops Fut cl i (wpAnyF P md ops Fut cl Q g (listed.setIfInBounds i true)) a w) → wpS P ops Fut cl Q p a w → wpAnyF P md ops Fut cl Q f listed a w
  | .done, f, hds, listed, a, w, hcl, hB, hh, h => by
    have hr : Region.ready md ops listed = [] := by
      cases f <;> (simp only [planB, Bool.and_eq_true] at hB; simpa using hB.2)
    cases f with
    | zero => exact ⟨hr, h⟩
    | succ f => exact ⟨fun _ => h, fun i hi => by rw [hr] at hi; cases hi⟩
  | .get i t, f, hds, listed, a, w, hcl, hB, hh, h => by
    cases f with
    | zero => simp [planB] at hB
    | succ f =>
      simp only [planB, Bool.and_eq_true, decide_eq_true_eq] at hB
      obtain ⟨⟨⟨⟨⟨_, h1⟩, h2⟩, h3⟩, h4⟩, h5⟩ := hB
      have hr : i ∈ Region.ready md ops listed := by simpa using h2
      unfold wpS at h
      cases ho : ops[i]? with
      | none => rw [ho] at h; exact h.elim
      | some o =>
        rw [ho] at h
        simp only at h
        have hfree : ∀ j oj, ops[j]? = some oj → j ≠ i → listed.getD j true = false → i ∉ ancs md ops ops.size j → o.apart ops oj = true ∧ plOkc (plCls cl i) (plCls cl j) = true := by
          intro j oj hoj hne hun hno
          have hj : j < ops.size := (Array.getElem?_eq_some_iff.1 hoj).1
          constructor
          · refine Region.free_spec ho h3 j oj hoj hne hun fun e he hb heq => hno ?_
            obtain ⟨n, hn⟩ : ∃ n, ops.size = n + 1 := ⟨ops.size - 1, by omega⟩
            rw [hn]
            unfold ancs
            refine List.mem_flatMap.2 ⟨e.on, ?_, by rw [heq]; exact List.mem_cons_self⟩
            rw [hoj]
            exact List.mem_map.2 ⟨e, List.mem_filter.2 ⟨by simpa using he, hb⟩, rfl⟩
          · unfold plFree at h4
            have := List.all_eq_true.1 h4 j (List.mem_range.2 hj)
            simp only [Bool.or_eq_true, beq_iff_eq] at this
            rcases this with ((e | e) | e) | e
            · exact absurd e hne
            · rw [hun] at e; cases e
            · exact absurd (by simpa using e) hno
            · exact e
        have next : ∀ v, (if Region.wanted o (yielded ops a.tmps) then plOK P Fut (plCls cl i) o a w v else v = undef) → wpS P ops Fut cl Q t (a.put o.dst v) w → wpAnyF P md ops Fut cl Q (f + 1) listed a w := fun v hy hk =>
          wpAnyF_first ho (Region.noSelect_spec hs) h1 hrefl htr f listed a w hcl hfree hr hy (wpAnyF_of_plan hs hrefl htr t f [] _ _ w (closed_set hcl hr) h5 (fun j hj => by cases hj) hk)
        split at h
        · rename_i hw
          obtain ⟨v, hv, hk⟩ := h
          exact next v (by rw [if_pos hw]; exact hv) hk
        · rename_i hw
          exact next undef (by rw [if_neg hw]) h
  | .act i t, f, hds, listed, a, w, hcl, hB, hh, h => by
    cases f with
    | zero => simp [planB] at hB
    | succ f =>
      simp only [planB, Bool.and_eq_true, decide_eq_true_eq] at hB
      obtain ⟨⟨⟨h1, h2⟩, h3⟩, h4⟩ := hB
      refine ⟨fun e => by rw [e] at h3; simp at h3, fun j hj => ?_⟩
      have hm := List.all_eq_true.1 h2 j hj
      have hm : j = i ∨ j ∈ hds := by simpa using hm
      rcases hm with e | e
      · subst e
        refine wpOpF_of_acts h1 ?_
        unfold wpS at h
        unfold wpActs at h ⊢
        cases ho : ops[j]? with
        | none => rw [ho] at h; exact h
        | some o =>
          rw [ho] at h
          simp only at h ⊢
          split
          · rename_i hw
            rw [if_pos hw] at h
            exact oper_wp_no (fun a w h1 => ⟨h1.1, wpAnyF_of_plan hs hrefl htr t f [] _ _ _ (closed_set hcl hj) h4 (fun j hj => by cases hj) h1.2⟩) h
          · rename_i hw
            rw [if_neg hw] at h
            exact wpAnyF_of_plan hs hrefl htr t f [] _ _ _ (closed_set hcl hj) h4 (fun j hj => by cases hj) h
      · exact hh j e hj f rfl
  | .fork i s t, f, hds, listed, a, w, hcl, hB, hh, h => by
    cases f with
    | zero => simp [planB] at hB
    | succ f =>
      simp only [planB, Bool.and_eq_true, decide_eq_true_eq] at hB
      obtain ⟨⟨h1, h2⟩, h3⟩ := hB
      unfold wpS at h
      refine wpAnyF_of_plan hs hrefl htr t (f + 1) (i :: hds) listed a w hcl h3 (fun j hj hr g hg => ?_) h.2
      obtain rfl : f = g := by omega
      rcases List.mem_cons.1 hj with e | e
      · subst e
        refine wpOpF_of_acts h1 ?_
        have h0 := h.1
        unfold wpActs at h0 ⊢
        cases ho : ops[j]? with
        | none => rw [ho] at h0; exact h0
        | some o =>
          rw [ho] at h0
          simp only at h0 ⊢
          split
          · rename_i hw
            rw [if_pos hw] at h0
            exact oper_wp_no (fun a w h1 => ⟨h1.1, wpAnyF_of_plan hs hrefl htr s f [] _ _ _ (closed_set hcl hr) h2 (fun j hj => by cases hj) h1.2⟩) h0
          · rename_i hw
            rw [if_neg hw] at h0
            exact wpAnyF_of_plan hs hrefl htr s f [] _ _ _ (closed_set hcl hr) h2 (fun j hj => by cases hj) h0
      · exact hh j e hr f rfl

/-- What may happen: memory is made; nothing that was there turns. -/
def Grow (w w' : World) : Prop := Below w.heap.size w w'
theorem Grow.refl (w : World) : Grow w w := Below.refl _ _
theorem Grow.trans (w1 w2 w3 : World) (h : Grow w1 w2) (k : Grow w2 w3) : Grow w1 w3 := below_chain h k
theorem Drawn.grow {w w' : World} (h : Drawn w w') : Grow w w' := h.all
theorem _root_.Go.RowKit.Below.grow' {w0 w w' : World} (h : Below w0.heap.size w0 w) (k : Grow w w') : Below w0.heap.size w0 w' := below_step h h.size k
theorem Sl.grow {w w' : World} {sz n : Nat} {A : Option Addr} {xs : List Value} (h : Sl w w.heap.size sz A n xs) (k : Grow w w') : Sl w' w'.heap.size sz A n xs := (h.below k).more k.size
theorem Blk.grow {w w' : World} {g : Nat} {t : TypeId} {cs : List Value} (h : Blk w g t cs) (k : Grow w w') : Blk w' g t cs := h.call k
theorem _root_.Go.World.ownsRow.grow {w w' : World} {base : Nat} {e : TypeId} {sz n c : Nat} {A : Option Addr} {xs : List Value} (h : w.ownsRow base e sz (.slice A n c) n xs) (k : Grow w w') : w'.ownsRow base e sz (.slice A n c) n xs := own_below h k
/-- A new block: the world under a letter. -/
theorem alloc_new (w : World) (cs : Array Value) (T : TypeId) : Blk (w.alloc (.cells cs T)) w.heap.size T cs.toList ∧ Grow w (w.alloc (.cells cs T)) ∧ (w.alloc (.cells cs T)).heap.size = w.heap.size + 1 :=
  ⟨by have := heap_alloc_new w (.cells cs T); simpa [Blk] using this, (Below.refl _ _).alloc (Nat.le_refl _) _, by simp⟩
theorem alloc_eq {w w2 : World} {cs : Array Value} {T : TypeId} (h : w.alloc (.cells cs T) = w2) : Blk w2 w.heap.size T cs.toList ∧ Grow w w2 ∧ w2.heap.size = w.heap.size + 1 := by
  subst h; exact alloc_new w cs T
theorem Sl.to1 {w : World} {B n k : Nat} {A : Option Addr} {xs : List Value} (h : Sl w B 1 A n xs) (hk : k ≤ n) : Sl w B 1 A k (xs.take k) := by
  refine ⟨by rw [List.length_take, h.len]; omega, fun hn => ?_⟩
  obtain ⟨b, off, e, hb, hc⟩ := h.2 (by omega)
  refine ⟨b, off, e, hb, fun j u hu => hc j u ?_⟩
  rw [List.getElem?_take] at hu
  split at hu
  · exact hu
  · cases hu
theorem Sl.from1 {w : World} {B n k c : Nat} {A : Option Addr} {xs : List Value} (h : Sl w B 1 A n xs) (hk : k ≤ n) (hc : n ≤ c) : Sl w B 1 (if c = k then A else Option.map (fun x => x.add k) A) (n - k) (xs.drop k) := by
  have h1 := h.cut (k := k) (m := n - k) (cap := c) (by omega) hc
  rw [Nat.mul_one, Nat.mul_one] at h1
  rw [List.take_of_length_le (by rw [List.length_drop, h.len]; exact Nat.le_refl _)] at h1
  exact h1
def planOf (l : List Oper) (cl : List Nat) (p : Plan) : Bool := Region.noSelect l.toArray && planB .any l.toArray cl l.length p [] (Array.replicate l.length false)
/-- The law. -/
theorem wp_plan {id : Nat} {a : Act} {w : World} {l : List Oper} (Fut : World → World → Prop) (cl : List Nat) (p : Plan) (hm : P.follows .mixedOrders = true) (hB : planOf l cl p = true) (hrefl : ∀ w, Fut w w) (htr : ∀ w1 w2 w3, Fut w1 w2 → Fut w2 w3 → Fut w1 w3)
    (h : ∀ w2, Drawn w w2 → wpS P l.toArray Fut cl Q p a w2) : (Code.region id l.toArray true).wp P Q a w := by
  replace h := h w.drew (Drawn.one w)
  simp only [planOf, Bool.and_eq_true] at hB
  refine wp_region_any hm (wpAny_of_F (Fut := Fut) (cl := cl) _ _ _ _ ?_)
  have h0 := wpAnyF_of_plan (Q := Q) (md := .any) hB.1 hrefl htr p l.length [] (Array.replicate l.length false) a w.drew (fun j oj _ hj => by
    rw [Array.getD_eq_getD_getElem?, Array.getElem?_replicate] at hj
    split at hj <;> simp at hj) hB.2 (fun j hj => by cases hj) h
  simpa using h0

/-! ### Steps -/
variable {l : List Oper} {o : Oper} {i : Nat} {t s : Plan} {a : Act} {w : World}
theorem pl_done (h : Q .normal a w) : wpS P ops Fut cl Q .done a w := h
/-- An operation that looks at no world. -/
theorem pl_calm {v : Value} (hi : ops[i]? = some o) (hc : plCls cl i = 0) (hw : Region.wanted o (yielded ops a.tmps) = true) (h : ∀ w', (execOp a.eval o).run P w' = .ok (.value v) w')
    (hk : ∀ K : Act → World → Prop, (∀ a w, wpS P ops Fut cl Q t a w → K a w) → K (a.put o.dst v) w) : wpS P ops Fut cl Q (.get i t) a w := by
  unfold wpS; rw [hi]; simp only; rw [if_pos hw, hc]; exact ⟨v, h, hk _ fun _ _ h => h⟩
theorem pl_read {v : Value} (hi : ops[i]? = some o) (hc : plCls cl i = 1) (hw : Region.wanted o (yielded ops a.tmps) = true) (h : ∀ w', Fut w w' → (execOp a.eval o).run P w' = .ok (.value v) w')
    (hk : ∀ K : Act → World → Prop, (∀ a w, wpS P ops Fut cl Q t a w → K a w) → K (a.put o.dst v) w) : wpS P ops Fut cl Q (.get i t) a w := by
  unfold wpS; rw [hi]; simp only; rw [if_pos hw, hc]; exact ⟨v, h, hk _ fun _ _ h => h⟩
theorem pl_now {v : Value} (hi : ops[i]? = some o) (hc : plCls cl i = 2) (hw : Region.wanted o (yielded ops a.tmps) = true) (h : (execOp a.eval o).run P w = .ok (.value v) w)
    (hk : ∀ K : Act → World → Prop, (∀ a w, wpS P ops Fut cl Q t a w → K a w) → K (a.put o.dst v) w) : wpS P ops Fut cl Q (.get i t) a w := by
  unfold wpS; rw [hi]; simp only; rw [if_pos hw, hc]; exact ⟨v, h, hk _ fun _ _ h => h⟩
theorem pl_skip (hi : ops[i]? = some o) (hw : Region.wanted o (yielded ops a.tmps) = false)
    (hk : ∀ K : Act → World → Prop, (∀ a w, wpS P ops Fut cl Q t a w → K a w) → K (a.put o.dst undef) w) : wpS P ops Fut cl Q (.get i t) a w := by
  unfold wpS; rw [hi]; simp only; rw [if_neg (by rw [hw]; simp)]; exact hk _ fun _ _ h => h
theorem pl_skipa (hi : ops[i]? = some o) (hw : Region.wanted o (yielded ops a.tmps) = false)
    (hk : ∀ K : Act → World → Prop, (∀ a w, wpS P ops Fut cl Q t a w → K a w) → K (a.put o.dst undef) w) : wpS P ops Fut cl Q (.act i t) a w := by
  unfold wpS wpActs; rw [hi]; simp only; rw [if_neg (by rw [hw]; simp)]; exact hk _ fun _ _ h => h
/-- Only the way that goes on. -/
def toK (K : Act → World → Prop) : Exit → Act → World → Prop
  | .normal, a, w => K a w
  | _, _, _ => False
theorem acts_of_list {K : Act → World → Prop} (hi : ops[i]? = some o) (h : wpList P ops (toK fun a' w' => (plCls cl i = 4 → Fut w w') ∧ K a' w') [o] a w) (hw : Region.wanted o (yielded ops a.tmps) = true) : wpActs P ops Fut cl i K a w := by
  unfold wpActs; rw [hi]; simp only; rw [if_pos hw]
  unfold wpList at h
  rw [if_pos hw] at h
  have e : (fun a' w' => wpList P ops (toK fun a' w' => (plCls cl i = 4 → Fut w w') ∧ K a' w') [] a' w') = fun a' w' => (plCls cl i = 4 → Fut w w') ∧ K a' w' := rfl
  rcases h with h | ⟨_, _, _, hf⟩
  · unfold Oper.wp at h ⊢
    generalize (execOp a.eval o).run P w = r at *
    cases r with
    | ok n w' =>
      cases n <;> simp only [Oper.upon] at h ⊢
      case value => exact h
      case skip => exact h
      case defer => exact h
      case enter f args =>
        refine Calls.mono h fun e w'' he => ?_
        cases e with
        | returned u => exact he
        | panicked c => exact he.elim
        | outgrown => obtain ⟨_, _, hf⟩ := he; exact hf.elim
      case row => exact h
    | halt x w' =>
      cases x <;> simp only [Oper.upon] at h ⊢
      case panic u => exact h.elim
  · exact hf.elim
/-- An operation that acts: walked as a list of one. -/
theorem pl_act (hi : ops[i]? = some o) (hw : Region.wanted o (yielded ops a.tmps) = true)
    (hk : ∀ K : Act → World → Prop, (∀ a' w', (plCls cl i = 4 → Fut w w') → wpS P ops Fut cl Q t a' w' → K a' w') → wpList P ops (toK K) [o] a w) : wpS P ops Fut cl Q (.act i t) a w := by
  unfold wpS
  exact acts_of_list hi (hk _ fun _ _ h1 h2 => ⟨h1, h2⟩) hw
theorem pl_fork (hi : ops[i]? = some o) (hw : Region.wanted o (yielded ops a.tmps) = true)
    (hk : ∀ K : Act → World → Prop, (∀ a' w', (plCls cl i = 4 → Fut w w') → wpS P ops Fut cl Q s a' w' → K a' w') → wpList P ops (toK K) [o] a w) (ht : wpS P ops Fut cl Q t a w) : wpS P ops Fut cl Q (.fork i s t) a w := by
  unfold wpS
  exact ⟨acts_of_list hi (hk _ fun _ _ h1 h2 => ⟨h1, h2⟩) hw, ht⟩
/-- A cell read; what may happen besides makes memory alone. -/
theorem pl_load {T : TypeId} {x : Operand} {p : Addr} {v : Value} (hi : ops[i]? = some o) (hc : plCls cl i = 1) (hw : Region.wanted o (yielded ops a.tmps) = true) (ho : o.op = .load T x) (hx : a.eval x = .pointer (some p))
    (hT : (match P.underlying T with | some (.struct _) | some (.array _ _) => false | some _ => true | none => false) = true) (hv : w.cell? p = some v)
    (hk : ∀ K : Act → World → Prop, (∀ a w, wpS P ops Grow cl Q t a w → K a w) → K (a.put o.dst v) w) : wpS P ops Grow cl Q (.get i t) a w := by
  refine pl_read hi hc hw (fun w' hf => ?_) hk
  have hv' : w'.cell? p = some v := by
    have := World.block_lt_of_cell? w p hv
    rw [hf.cell this]; exact hv
  unfold execOp
  simp only [ho, hx, Instr.loadAt, Instr.sureAddr, Sem.run_bind, Sem.run_pure, Result.andThen_ok]
  cases hd : P.underlying T with
  | none => rw [hd] at hT; cases hT
  | some d =>
    rw [hd] at hT
    have hagg : (isAgg T).run P w' = .ok false w' := by
      unfold isAgg
      rw [Sem.run_bind, run_underlying hd w']
      cases d <;> simp_all
    simp [loadVar, hagg, load, Sem.run, hv']
theorem pl_loadnow {T : TypeId} {x : Operand} {p : Addr} {v : Value} (hi : ops[i]? = some o) (hc : plCls cl i = 2) (hw : Region.wanted o (yielded ops a.tmps) = true) (ho : o.op = .load T x) (hx : a.eval x = .pointer (some p))
    (hT : (match P.underlying T with | some (.struct _) | some (.array _ _) => false | some _ => true | none => false) = true) (hv : w.cell? p = some v)
    (hk : ∀ K : Act → World → Prop, (∀ a w, wpS P ops Fut cl Q t a w → K a w) → K (a.put o.dst v) w) : wpS P ops Fut cl Q (.get i t) a w := by
  refine pl_now hi hc hw ?_ hk
  unfold execOp
  simp only [ho, hx, Instr.loadAt, Instr.sureAddr, Sem.run_bind, Sem.run_pure, Result.andThen_ok]
  cases hd : P.underlying T with
  | none => rw [hd] at hT; cases hT
  | some d =>
    rw [hd] at hT
    have hagg : (isAgg T).run P w = .ok false w := by
      unfold isAgg
      rw [Sem.run_bind, run_underlying hd w]
      cases d <;> simp_all
    simp [loadVar, hagg, load, Sem.run, hv]
/-- A whole block read. -/
theorem pl_loadb {T : TypeId} {x : Operand} {n : Nat} {g : Nat} {T' : TypeId} {cs : List Value} (hi : ops[i]? = some o) (hc : plCls cl i = 1) (hw : Region.wanted o (yielded ops a.tmps) = true) (ho : o.op = .load T x) (hT : RowT P T n)
    (hb : Blk w g T' cs) (hx : a.eval x = .pointer (some ⟨g, 0, none⟩)) (hn : cs.length = n)
    (hk : ∀ K : Act → World → Prop, (∀ a w, wpS P ops Grow cl Q t a w → K a w) → K (a.put o.dst (.agg cs.toArray)) w) : wpS P ops Grow cl Q (.get i t) a w := by
  refine pl_read hi hc hw (fun w' hf => ?_) hk
  obtain ⟨d, hu, hd, hi⟩ := hT
  have hrun := run_loadVar_row (P := P) w' g T' T cs.toArray (0, 0) d (hb.call hf) hu (by revert hd; cases d <;> simp) (by rw [hi]; simp [hn])
  unfold execOp
  simp only [ho, hx, Instr.loadAt, Instr.sureAddr, Sem.run_bind, Sem.run_pure, Result.andThen_ok, hrun]
theorem pl_loadbnow {T : TypeId} {x : Operand} {n : Nat} {g : Nat} {T' : TypeId} {cs : List Value} (hi : ops[i]? = some o) (hc : plCls cl i = 2) (hw : Region.wanted o (yielded ops a.tmps) = true) (ho : o.op = .load T x) (hT : RowT P T n)
    (hb : Blk w g T' cs) (hx : a.eval x = .pointer (some ⟨g, 0, none⟩)) (hn : cs.length = n)
    (hk : ∀ K : Act → World → Prop, (∀ a w, wpS P ops Fut cl Q t a w → K a w) → K (a.put o.dst (.agg cs.toArray)) w) : wpS P ops Fut cl Q (.get i t) a w := by
  refine pl_now hi hc hw ?_ hk
  obtain ⟨d, hu, hd, hi⟩ := hT
  have hrun := run_loadVar_row (P := P) w g T' T cs.toArray (0, 0) d hb hu (by revert hd; cases d <;> simp) (by rw [hi]; simp [hn])
  unfold execOp
  simp only [ho, hx, Instr.loadAt, Instr.sureAddr, Sem.run_bind, Sem.run_pure, Result.andThen_ok, hrun]
end
attribute [irreducible] wpS wpActs
end Go.Proofs.Ytphmefhnffoafaa

/- Contracts of the small functions of package sha. -/
namespace Go.Proofs.Ytphmefhnffoafaa
open Go.RowKit
attribute [local go_sem ↓ high] add_w
attribute [local go_sem high] xor_w and_w or_w not_w shr_w shl_w wrap_b8
set_option linter.unusedVariables false

theorem neg_and (n : Nat) (h : 1 ≤ n) (h3 : n ≤ 31) : bits BinOp.and IntKind.u64 (IntKind.u64.wrap (-(n : Int))) 31 = ((32 - n : Nat) : Int) := by
  have : ∀ n : Fin 32, 1 ≤ n.val → bits BinOp.and IntKind.u64 (IntKind.u64.wrap (-(n.val : Int))) 31 = ((32 - n.val : Nat) : Int) := by decide +kernel
  exact this ⟨n, by omega⟩ h

theorem shl_nat (x : UInt32) (k : Nat) (hk : k ≤ 31) : w32 x * 2 ^ k % 4294967296 = w32 (x <<< UInt32.ofNat k) := by
  unfold w32
  rw [UInt32.toNat_shiftLeft, UInt32.toNat_ofNat', Nat.shiftLeft_eq, show k % 2 ^ 32 % 32 = k by omega]
  simp
theorem shr_nat (x : UInt32) (k : Nat) (hk : k ≤ 31) : w32 x / 2 ^ k = w32 (x >>> UInt32.ofNat k) := by
  unfold w32
  rw [UInt32.toNat_shiftRight, UInt32.toNat_ofNat', Nat.shiftRight_eq_div_pow, show k % 2 ^ 32 % 32 = k by omega]
  simp
theorem bits_or_w (a b : UInt32) : bits BinOp.or IntKind.u32 (w32 a) (w32 b) = w32 (a ||| b) := by
  have h := or_w a b
  rw [intBits_or] at h
  injection h with h
  injection h

/-- A byte of a slice at place k. -/
theorem Sl.byte {w : World} {Bd n : Nat} {A : Option Addr} {bs : List UInt8} (h : Sl w Bd 1 A n (bs.map B)) {k : Nat} (hk : k < n) : ∃ b off, A = some ⟨b, off, none⟩ ∧ b < Bd ∧ k < bs.length ∧ w.cell? ⟨b, off + k, none⟩ = some (.int .u8 (b8 (bs[k]?.getD 0))) := by
  obtain ⟨b, off, u, e, hb, hu, hc⟩ := h.at_ hk
  rw [List.getElem?_map] at hu
  obtain ⟨z, h1, rfl⟩ := Option.map_eq_some_iff.1 hu
  exact ⟨b, off, e, hb, (List.getElem?_eq_some_iff.1 h1).1, by rw [hc, h1]; rfl⟩

theorem W0 : Value.int .u32 0 = W 0 := rfl

theorem row_id : RowT Try.prog 37 32 := ⟨_, Try.underlying37, by kernel_rfl, by kernel_rfl⟩
theorem zero_id : (Try.prog.info? 37).map (·.zero) = some (some (.agg (List.replicate 32 (B 0)).toArray)) := by kernel_rfl

end Go.Proofs.Ytphmefhnffoafaa

/- Contracts of sha.bytes, sha.step. -/
namespace Go.Proofs.Ytphmefhnffoafaa
open Go.RowKit
attribute [local go_sem ↓ high] add_w
attribute [local go_sem high] xor_w and_w or_w not_w shr_w shl_w wrap_b8
set_option linter.unusedVariables false

theorem info_u8 : (Try.prog.info? 5).map (fun i => (i.zero, i.size, i.bytes)) = some (some (.int .u8 0), 1, 1) := by kernel_rfl
theorem el_u8 : ElemT Try.prog 22 5 1 1 := elemT Try.underlying22 info_u8 rfl (by omega)

theorem one8 {a b c d e f g h : Int} : ∀ u ∈ [Value.int .u32 a, .int .u32 b, .int .u32 c, .int .u32 d, .int .u32 e, .int .u32 f, .int .u32 g, .int .u32 h], u.oneCell' = true := by
  intro u hu
  simp at hu
  rcases hu with rfl | rfl | rfl | rfl | rfl | rfl | rfl | rfl <;> rfl
theorem len8 {a b c d e f g h : Value} : [a, b, c, d, e, f, g, h].length = 8 := rfl

end Go.Proofs.Ytphmefhnffoafaa

/- Contracts of slices.Grow, slices.Concat at []byte. -/
namespace Go.Proofs.Ytphmefhnffoafaa
open Go.RowKit
set_option linter.unusedVariables false

/-- 'append(s[:0], make([]T, n)...)' on nil. -/
theorem run_append_zeros {P : Program} (w : World) (t ti ty e : TypeId) (i : TypeInfo) (z : Value) (ht : P.underlying t = some (.slice e)) (hti : P.underlying ti = some (.int .i64)) (hi : P.info? e = some i) (hz : i.zero = some z)
    (hs : i.size = 1) (hzs : z.cells.size = 1) (n : Nat) (h0 : 0 < n) (hb : n * i.bytes ≤ 140737488355328) (hn : n ≤ 140737488355328) :
    (Builtin.append_ #[t, ti] ty #[.slice none 0 0, .int .i64 (n : Int)]).run P w = .ok (.slice (some ⟨w.heap.size, 0, none⟩) n (grownCap w n 0 e)) (w.drew.alloc (.cells (Builtin.zeroCells z.cells n ++ Builtin.zeroCells z.cells (grownCap w n 0 e - n)) e)) := by
  have h1 : IntKind.i64.wrap (n : Int) = n := IntWalk.i64_in _ (by omega)
  have h2 : ¬ ((n : Int) < 0) := by omega
  have h3 : ¬ (281474976710656 < (n : Int) * (i.bytes : Int)) := by
    have : ((n * i.bytes : Nat) : Int) ≤ 140737488355328 := by omega
    rw [Int.natCast_mul] at this
    omega
  have h4 : ¬ (9223372036854775807 < (n : Int)) := by omega
  have h5 : n ≠ 0 := by omega
  have h6 : ¬ (281474976710656 < Builtin.nextslicecap n 0 * i.bytes) := by rw [nextslicecap_zero h0]; omega
  simp [Builtin.append_, run_underlying ht, run_underlying hti, sizeOf, typeInfo, zeroValue, hi, hz, hs, asInt, asIntOf, h1, h2, h3, h4, h5, h6, Question.forced, run_firstCells_none, newRow, grownCap]

theorem wpl_zeros {P : Program} {w : World} {ops : Array Oper} {rest : List Oper} {o : Oper} {a : Act} {Q : Exit → Act → World → Prop} (hgd : o.guard = none) {s x : Operand} {t ti : TypeId}
    (ho : o.op = .call { callee := .builtin .append, args := #[s, x], argTypes := #[t, ti] }) (hti : P.underlying ti = some (.int .i64))
    {e : TypeId} {bytes : Nat} (HE : ElemT P t e 1 bytes) (hs : a.eval s = .slice none 0 0) {n : Nat} (hx : a.eval x = .int .i64 (n : Int)) (h0 : 0 < n) (hb : n * bytes ≤ 140737488355328) (hn : n ≤ 140737488355328)
    (h : ∀ c w', w'.ownsRow w.heap.size e 1 (.slice (some ⟨w.heap.size, 0, none⟩) 0 c) 0 [] → n ≤ c → Below w.heap.size w w' → wpList P ops Q rest (a.put o.dst (.slice (some ⟨w.heap.size, 0, none⟩) n c)) w') : wpList P ops Q (o :: rest) a w := by
  refine wpList_plain hgd fun K hK => ?_
  obtain ⟨i, z, hi, hz, hsz, hby, hzs, _⟩ := HE.hi
  have hrun := run_append_zeros (P := P) w t ti o.type e i z HE.ht hti hi hz hsz hzs n h0 (by rw [hby]; exact hb) hn
  unfold Oper.wp execOp
  simp only [ho, resolve, invoke, builtin, Sem.run_bind, Sem.run_pure, Result.andThen_ok, List.map_toArray, List.map_cons, List.map_nil, hs, hx, hrun]
  have hge := grownCap_ge w n 0 e
  refine hK _ _ (h _ _ ?_ hge ?_)
  · refine World.ownsRow_made w.drew _ _ (Nat.le_refl _) (grownCap_le_maxLen w n 0 e (by simp only [maxLen]; omega)) ?_
    simp [Builtin.zeroCells, hzs]; omega
  · exact (Below.drew (Below.refl _ _)).alloc (Nat.le_refl _) _

/-- A slice of slices of bytes. -/
def Parts (w : World) (Bd : Nat) (A : Option Addr) (n : Nat) (ps : List (Value × List UInt8)) : Prop :=
  Sl w Bd 1 A n (ps.map Prod.fst) ∧ ∀ p ∈ ps, ∃ A c, p.1 = .slice A p.2.length c ∧ p.2.length ≤ c ∧ Sl w Bd 1 A p.2.length (p.2.map B)

theorem Parts.below {w w' : World} {Bd : Nat} {A : Option Addr} {n : Nat} {ps : List (Value × List UInt8)} (h : Parts w Bd A n ps) (hb : Below Bd w w') : Parts w' Bd A n ps :=
  ⟨h.1.below hb, fun p hp => let ⟨A, c, e, hc, hs⟩ := h.2 p hp; ⟨A, c, e, hc, hs.below hb⟩⟩
theorem Parts.more {w : World} {Bd B' : Nat} {A : Option Addr} {n : Nat} {ps : List (Value × List UInt8)} (h : Parts w Bd A n ps) (hB : Bd ≤ B') : Parts w B' A n ps :=
  ⟨h.1.more hB, fun p hp => let ⟨A, c, e, hc, hs⟩ := h.2 p hp; ⟨A, c, e, hc, hs.more hB⟩⟩
theorem Parts.len {w : World} {Bd : Nat} {A : Option Addr} {n : Nat} {ps : List (Value × List UInt8)} (h : Parts w Bd A n ps) : ps.length = n := by
  have := h.1.len; simpa using this
theorem Parts.at_ {w : World} {Bd : Nat} {A : Option Addr} {n : Nat} {ps : List (Value × List UInt8)} (h : Parts w Bd A n ps) {k : Nat} (hk : k < n) :
    ∃ b off A2 c2 bs, A = some ⟨b, off, none⟩ ∧ ps[k]? = some (.slice A2 bs.length c2, bs) ∧ w.cell? ⟨b, off + k, none⟩ = some (.slice A2 bs.length c2) ∧ bs.length ≤ c2 ∧ Sl w Bd 1 A2 bs.length (bs.map B) := by
  obtain ⟨b, off, u, e, hb, hu, hc⟩ := h.1.at_ hk
  rw [List.getElem?_map] at hu
  obtain ⟨p, h1, rfl⟩ := Option.map_eq_some_iff.1 hu
  obtain ⟨A2, c2, he, hcc, hs⟩ := h.2 p (List.mem_of_getElem? h1)
  exact ⟨b, off, A2, c2, p.2, e, by rw [h1, ← he], by rw [hc, he], hcc, hs⟩

def cat (ps : List (Value × List UInt8)) : List UInt8 := (ps.map Prod.snd).flatten
theorem cat_take (ps : List (Value × List UInt8)) (k : Nat) (p : Value × List UInt8) (h : ps[k]? = some p) : cat (ps.take (k + 1)) = cat (ps.take k) ++ p.2 := by
  unfold cat
  rw [List.take_add_one, h]
  simp
theorem cat_le (ps : List (Value × List UInt8)) (k : Nat) : (cat (ps.take k)).length ≤ (cat ps).length := by
  unfold cat
  conv => rhs; rw [← List.take_append_drop k ps]
  simp only [List.map_append, List.flatten_append, List.length_append]
  omega
attribute [irreducible] cat
theorem bytes_one (bs : List UInt8) : ∀ u ∈ bs.map B, u.oneCell' = true := fun u hu => by obtain ⟨x, _, rfl⟩ := List.mem_map.1 hu; rfl

end Go.Proofs.Ytphmefhnffoafaa

/- Contract of slices.Chunk at []byte: the iterator that it hands back. -/
namespace Go.Proofs.Ytphmefhnffoafaa
open Go.RowKit Go.Shelf
set_option linter.unusedVariables false

/-- Below n₀ all blocks but gv are as they were. -/
def KeepX (gv n₀ : Nat) (W W' : World) : Prop := ∀ k, k < n₀ → k ≠ gv → W'.heap[k]? = W.heap[k]?

end Go.Proofs.Ytphmefhnffoafaa

/- Contract of sha.Sum. -/
namespace Go.Proofs.Ytphmefhnffoafaa
open Go.RowKit Go.Shelf
set_option linter.unusedVariables false

theorem i128 : Value.int .u8 128 = B 128 := rfl
theorem i0 : Value.int .u8 0 = B 0 := rfl
theorem zeros_lt (L j : Nat) (h : j < zerosFor L) : (L + 1 + j) % 64 ≠ 56 := by unfold zerosFor at h; omega
theorem zeros_eq (L : Nat) : (L + 1 + zerosFor L) % 64 = 56 := by unfold zerosFor; omega

attribute [local go_sem] Oper.semAt_some

theorem row_ne_blk {V : World} {Bd g : Nat} {t : TypeId} {cs : List Value} {row : Option Nat} (hb : Blk V g t cs) (hr : ∀ r, row = some r → Bd ≤ r ∧ ∃ o : Obj, V.heap[r]? = some o ∧ o.isCells = false) : some g ≠ row := by
  intro e
  obtain ⟨_, o, ho, hc⟩ := hr g e.symm
  unfold Blk at hb
  rw [hb] at ho
  cases ho
  cases hc
theorem row_ne_own {V : World} {Bd base : Nat} {e : TypeId} {sz n c g : Nat} {xs : List Value} {row : Option Nat} (h : V.ownsRow base e sz (.slice (some ⟨g, 0, none⟩) n c) n xs) (hr : ∀ r, row = some r → Bd ≤ r ∧ ∃ o : Obj, V.heap[r]? = some o ∧ o.isCells = false) : some g ≠ row := by
  intro he
  obtain ⟨_, o, ho, hc⟩ := hr g he.symm
  rcases h.2 with ⟨hv, _⟩ | ⟨g', cap, cur, hv, _, hg, _⟩
  · cases hv
  · injection hv with hA
    cases hA
    rw [hg] at ho
    cases ho
    cases hc
theorem keeps_of_below {V V' : World} (h : Below V.heap.size V V') : KeepsOthers V V' :=
  ⟨h.size, fun k o hk _ => (h.block k (Array.getElem?_eq_some_iff.1 hk).1).trans hk⟩

theorem run_copy_blk {P : Program} {w : World} {dT sT ty elem t : TypeId} {go o dl dc gq base : Nat} {xs cs : List Value} {m : Nat} (hu : P.underlying dT = some (.slice elem)) (hs : (P.info? elem).map (·.size) = some 1)
    (hb : Blk w go t xs) (hq : w.ownsRow base elem 1 (.slice (some ⟨gq, 0, none⟩) m m) m cs) (hm : m ≤ dl) (hfit : o + m ≤ xs.length) (h1 : ∀ v ∈ cs, v.oneCell' = true) :
    (Builtin.copy_ #[dT, sT] ty #[.slice (some ⟨go, o, none⟩) dl dc, .slice (some ⟨gq, 0, none⟩) m m]).run P w = .ok (goInt m) (w.setRow go (splice xs o cs).toArray) := by
  have hl : cs.length = m := by have := hq.1; omega
  have h := run_copy_row (P := P) w dT sT ty elem go o dl dc ⟨gq, 0, none⟩ m m xs.toArray t cs hu hs hb (by rw [hl]; exact (Nat.min_eq_left hm).symm) (fun j v hv => by
    have h1 := hq.cellAt j (by have := (List.getElem?_eq_some_iff.1 hv).1; omega)
    rw [hv] at h1
    have e : (Addr.add ⟨gq, 0, none⟩ j) = ⟨gq, j, none⟩ := by simp [Addr.add]; omega
    rw [e]; exact h1) (by simp; omega) h1
  rw [hl] at h
  rw [h]
  simp [splice, hl]
theorem splice_take {α : Type} (xs cs : List α) (o : Nat) (h : o ≤ xs.length) : (splice xs o cs).take (o + cs.length) = xs.take o ++ cs := by
  have hl : (xs.take o ++ cs).length = o + cs.length := by simp; omega
  rw [splice, ← List.append_assoc, ← hl]
  exact List.take_left' rfl
theorem blk_setRow {w : World} {g : Nat} {t : TypeId} {cs xs : List Value} (h : Blk w g t cs) : Blk (w.setRow g xs.toArray) g t xs := setRow_heap w g _ _ t _ h
theorem all_bytes (l : List UInt8) : ∀ v ∈ l.map B, v.oneCell' = true := fun v hv => by obtain ⟨x, _, rfl⟩ := List.mem_map.1 hv; rfl
theorem row_32 : RowT Try.prog 37 32 := ⟨_, Try.underlying37, by kernel_rfl, by kernel_rfl⟩
theorem len32 {v : Value} : (List.replicate 32 v).length = 32 := by simp

end Go.Proofs.Ytphmefhnffoafaa

/- Contracts of seisinref03: right, First, Rounds. -/
namespace Go.Proofs.Ytphmefhnffoafaa
open Go.RowKit Go.Shelf
set_option linter.unusedVariables false

attribute [local go_sem ↓ high] add_w
attribute [local go_sem high] xor_w and_w or_w not_w shr_w shl_w wrap_b8

theorem info_u32 : (Try.prog.info? 108).map (fun i => (i.zero, i.size, i.bytes)) = some (some (.int .u32 0), 1, 4) := by kernel_rfl
theorem first_vals : (firstSt.toList.map W) = [.int .u32 1779033703, .int .u32 3144134277, .int .u32 1013904242, .int .u32 2773480762, .int .u32 1359893119, .int .u32 2600822924, .int .u32 528734635, .int .u32 1541459225] := by
  simp [firstSt, St.toList, W, w32]
theorem round_vals : (roundKs.map W) = [
    .int .u32 1116352408, .int .u32 1899447441, .int .u32 3049323471, .int .u32 3921009573, .int .u32 961987163, .int .u32 1508970993, .int .u32 2453635748, .int .u32 2870763221, .int .u32 3624381080, .int .u32 310598401, .int .u32 607225278, .int .u32 1426881987, .int .u32 1925078388, .int .u32 2162078206, .int .u32 2614888103, .int .u32 3248222580,
    .int .u32 3835390401, .int .u32 4022224774, .int .u32 264347078, .int .u32 604807628, .int .u32 770255983, .int .u32 1249150122, .int .u32 1555081692, .int .u32 1996064986, .int .u32 2554220882, .int .u32 2821834349, .int .u32 2952996808, .int .u32 3210313671, .int .u32 3336571891, .int .u32 3584528711, .int .u32 113926993, .int .u32 338241895,
    .int .u32 666307205, .int .u32 773529912, .int .u32 1294757372, .int .u32 1396182291, .int .u32 1695183700, .int .u32 1986661051, .int .u32 2177026350, .int .u32 2456956037, .int .u32 2730485921, .int .u32 2820302411, .int .u32 3259730800, .int .u32 3345764771, .int .u32 3516065817, .int .u32 3600352804, .int .u32 4094571909, .int .u32 275423344,
    .int .u32 430227734, .int .u32 506948616, .int .u32 659060556, .int .u32 883997877, .int .u32 958139571, .int .u32 1322822218, .int .u32 1537002063, .int .u32 1747873779, .int .u32 1955562222, .int .u32 2024104815, .int .u32 2227730452, .int .u32 2361852424, .int .u32 2428436474, .int .u32 2756734187, .int .u32 3204031479, .int .u32 3329325298] := by
  simp [roundKs, W, w32]
end Go.Proofs.Ytphmefhnffoafaa

/- Contracts of seisinref01.Pick and sha.Same. -/
namespace Go.Proofs.Ytphmefhnffoafaa
open Go.RowKit Go.Shelf
set_option linter.unusedVariables false

attribute [local go_sem ↓ high] add_w
attribute [local go_sem high] xor_w and_w or_w not_w shr_w shl_w wrap_b8

theorem tmod_emod (k n : Int) (hn : 0 < n) : -n < k.tmod n ∧ k.tmod n < n ∧ k % n = if k.tmod n < 0 then k.tmod n + n else k.tmod n := by
  have h1 : k.tmod n < n := Int.tmod_lt_of_pos k hn
  have h2 : -n < k.tmod n := by
    have := Int.tmod_lt_of_pos (-k) hn
    rw [Int.neg_tmod] at this
    omega
  have h3 := Int.mul_tdiv_add_tmod k n
  have h4 : k % n = (k.tmod n) % n := by
    conv => lhs; rw [← h3]
    rw [Int.add_comm, Int.add_mul_emod_self_left]
  refine ⟨h2, h1, ?_⟩
  rw [h4]
  split
  · have : k.tmod n % n = (k.tmod n + n) % n := by simp
    rw [this]
    exact Int.emod_eq_of_lt (by omega) (by omega)
  · exact Int.emod_eq_of_lt (by omega) (by omega)

/-- The bytes so far are the same. -/
def orUpto (a b : List UInt8) (k : Nat) : UInt8 := (List.range k).foldl (fun x i => x ||| ((a[i]?.getD 0) ^^^ (b[i]?.getD 0))) 0
theorem orUpto_succ (a b : List UInt8) (k : Nat) : orUpto a b (k + 1) = orUpto a b k ||| ((a[k]?.getD 0) ^^^ (b[k]?.getD 0)) := by
  unfold orUpto; rw [List.range_succ, List.foldl_append]; rfl
theorem or_zero {x y : UInt8} : x ||| y = 0 ↔ x = 0 ∧ y = 0 := by
  constructor
  · intro h
    have h1 : x.toBitVec ||| y.toBitVec = 0 := by have := congrArg UInt8.toBitVec h; simpa using this
    have h2 := BitVec.or_eq_zero_iff.1 h1
    exact ⟨UInt8.toBitVec_inj.1 h2.1, UInt8.toBitVec_inj.1 h2.2⟩
  · rintro ⟨rfl, rfl⟩; rfl
theorem xor_zero {x y : UInt8} : x ^^^ y = 0 ↔ x = y := by
  constructor
  · intro h
    have h1 : x.toBitVec ^^^ y.toBitVec = 0 := by have := congrArg UInt8.toBitVec h; simpa using this
    exact UInt8.toBitVec_inj.1 (BitVec.xor_eq_zero_iff.1 h1)
  · rintro rfl; simp
theorem orUpto_zero (a b : List UInt8) (k : Nat) : orUpto a b k = 0 ↔ ∀ i, i < k → a[i]?.getD 0 = b[i]?.getD 0 := by
  induction k with
  | zero => exact ⟨fun _ i hi => absurd hi (by omega), fun _ => rfl⟩
  | succ k ih =>
    rw [orUpto_succ, or_zero, ih, xor_zero]
    constructor
    · rintro ⟨h1, h2⟩ i hi
      by_cases h : i = k
      · subst h; exact h2
      · exact h1 i (by omega)
    · intro h; exact ⟨fun i hi => h i (by omega), h k (by omega)⟩
theorem orUpto_all {a b : List UInt8} (ha : a.length = 32) (hb : b.length = 32) : (orUpto a b 32 = 0) ↔ a = b := by
  rw [orUpto_zero]
  constructor
  · intro h
    apply List.ext_getElem (by omega)
    intro i h1 h2
    have := h i (by omega)
    rw [List.getElem?_eq_getElem h1, List.getElem?_eq_getElem h2] at this
    exact this
  · rintro rfl _ _; rfl
attribute [irreducible] orUpto

attribute [local go_sem high] xor_b or_b
end Go.Proofs.Ytphmefhnffoafaa

/- A region that draws its order: a move first, then reads, then a tail in one order: 'x = append(x, ..reads..)'. -/
namespace Go.Proofs.Ytphmefhnffoafaa
open Go.RowKit

/-- The same operation, that waits for operation 0 besides. -/
def addE (o : Oper) : Oper := { o with after := o.after.push ⟨0, .data⟩ }
def withE (l : List Oper) (n : Nat) : List Oper := l.modify n addE
def start0 (l : List Oper) : Array Bool := (Array.replicate l.length false).setIfInBounds 0 true
def noAfter (l : List Oper) : Bool := match l[0]? with | some o => o.after.isEmpty | none => false
def tail0B (l : List Oper) (n : Nat) : Bool :=
  Region.noSelect l.toArray && Region.free .any l.toArray (Array.replicate l.length false) 0 && (Region.ready .any l.toArray (Array.replicate l.length false)).contains 0
  && Region.noSelect (withE l n).toArray && decide (n < l.length) && decide (1 ≤ n) && Region.sinkB .any (withE l n).toArray n && Region.chainB .any (withE l n).toArray n
  && Region.lexHead .any (withE l n).toArray (l.length - n) (n - 1) 1 (start0 l) && noAfter l

section
variable {P : Program} {l : List Oper} {n : Nat}
theorem withE_at (l : List Oper) (n i : Nat) : (withE l n)[i]? = if i = n then (l[i]?).map addE else l[i]? := by
  unfold withE
  rw [List.getElem?_modify]
  by_cases h : n = i
  · subst h; simp
  · rw [if_neg (fun e => h e.symm)]; cases l[i]? <;> simp [h]
theorem withE_length (l : List Oper) (n : Nat) : (withE l n).length = l.length := by simp [withE]
theorem yielded_withE (l : List Oper) (n : Nat) (t : Array Value) : yielded (withE l n).toArray t = yielded l.toArray t := by
  funext j
  have h : (((withE l n).toArray[j]?).bind (·.dst)) = ((l.toArray[j]?).bind (·.dst)) := by
    simp only [List.getElem?_toArray, withE_at]
    split
    · cases l[j]? <;> rfl
    · rfl
  unfold yielded
  rw [h]
theorem ready_withE {listed : Array Bool} (h0 : listed.getD 0 false = true) (md : Region.Mode) : Region.ready md (withE l n).toArray listed = Region.ready md l.toArray listed := by
  unfold Region.ready
  simp only [List.size_toArray, withE_length, List.getElem?_toArray, withE_at]
  apply List.filter_congr
  intro i _
  by_cases h : i = n
  · subst h
    rw [if_pos rfl]
    cases l[i]? with
    | none => rfl
    | some o => simp only [Option.map_some, addE, Option.getD_some, Array.all_push, h0, Bool.or_true, Bool.and_true]
  · rw [if_neg h]
theorem wp_addE (o : Oper) (a : Act) (w : World) (K : Act → World → Prop) (Q : Exit → Act → World → Prop) : (addE o).wp P a w K Q = o.wp P a w K Q := rfl
theorem asks_addE (o : Oper) (a : Act) (w : World) : (addE o).asks P a w = o.asks P a w := rfl
theorem wpOp_withE (Q : Exit → Act → World → Prop) (i : Nat) (K : Act → World → Prop) (a : Act) (w : World) : wpOp P (withE l n).toArray Q i K a w = wpOp P l.toArray Q i K a w := by
  unfold wpOp
  simp only [List.getElem?_toArray, withE_at, yielded_withE]
  by_cases h : i = n
  · rw [if_pos h]; cases l[i]? <;> rfl
  · rw [if_neg h]
theorem set_keeps {listed : Array Bool} (h0 : listed.getD 0 false = true) (i : Nat) : (listed.setIfInBounds i true).getD 0 false = true := getD_set_true h0
theorem wpAny_withE (Q : Exit → Act → World → Prop) (md : Region.Mode) : ∀ (f : Nat) (listed : Array Bool) (a : Act) (w : World), listed.getD 0 false = true → wpAny P md (withE l n).toArray Q f listed a w → wpAny P md l.toArray Q f listed a w
  | 0, listed, a, w, h0, h => by unfold wpAny at h ⊢; rw [ready_withE h0] at h; exact h
  | f + 1, listed, a, w, h0, h => by
    unfold wpAny at h ⊢
    rw [ready_withE h0] at h
    refine ⟨h.1, fun i hi => ?_⟩
    have h2 := h.2 i hi
    rw [wpOp_withE] at h2
    exact wpOp_mono (fun a' w' h3 => wpAny_withE Q md f _ a' w' (set_keeps h0 i) h3) h2
theorem wpList_withE (Q : Exit → Act → World → Prop) : ∀ (m : List Oper) (a : Act) (w : World), wpList P l.toArray Q m a w → wpList P (withE l n).toArray Q m a w
  | [], a, w, h => h
  | o :: m, a, w, h => by
    unfold wpList at h ⊢
    rw [yielded_withE]
    split
    · rename_i hw
      rw [if_pos hw] at h
      rcases h with h | h
      · exact .inl (Oper.wp_mono (fun a w h => wpList_withE Q m a w h) h)
      · exact .inr h
    · rename_i hw
      rw [if_neg hw] at h
      exact wpList_withE Q m _ w h
theorem wpStill_withE {w : World} {Q : Act → Prop} : ∀ (m : List Oper) (a : Act), wpStill P l.toArray w Q m a → wpStill P (withE l n).toArray w Q m a
  | [], a, h => h
  | o :: m, a, h => by
    unfold wpStill at h ⊢
    rw [yielded_withE]
    split
    · rename_i hw
      rw [if_pos hw] at h
      exact Oper.still_mono (fun a h => wpStill_withE m a h) h
    · rename_i hw
      rw [if_neg hw] at h
      exact wpStill_withE m _ h
theorem wpList_drop (Q : Exit → Act → World → Prop) (a : Act) (w : World) (ops : Array Oper) (h : wpList P ops Q (l.drop n) a w) : wpList P ops Q ((withE l n).drop n) a w := by
  have e : (withE l n).drop n = match l.drop n with | [] => [] | o :: m => addE o :: m := by
    apply List.ext_getElem?
    intro i
    rw [List.getElem?_drop, withE_at]
    cases hd : l.drop n with
    | nil =>
      have : l[n + i]? = none := by rw [← List.getElem?_drop, hd]; rfl
      rw [this]; split <;> rfl
    | cons o m =>
      have h2 : l[n + i]? = (o :: m)[i]? := by rw [← List.getElem?_drop, hd]
      rw [h2]
      cases i with
      | zero => simp
      | succ i => rw [if_neg (by omega)]; rfl
  rw [e]
  cases hd : l.drop n with
  | nil => rw [hd] at h; exact h
  | cons o m => rw [hd] at h; exact h

theorem wp_tail0 {id : Nat} {Q : Exit → Act → World → Prop} {a : Act} {w : World} {o0 : Oper} {x : Operand} (n : Nat) (hm : P.follows .mixedOrders = true) (h0 : l[0]? = some o0) (hg : o0.guard = none) (hop : o0.op = .move x) (hB : tail0B l n = true)
    (h : ∀ w2, Drawn w w2 → wpStill P l.toArray w2 (fun a' => wpList P l.toArray (NormalOnly Q) (l.drop n) a' w2) ((l.take n).drop 1) (a.put o0.dst (a.eval x))) : (Code.region id l.toArray true).wp P Q a w := by
  refine wp_normal ?_
  simp only [tail0B, Bool.and_eq_true, decide_eq_true_eq] at hB
  obtain ⟨⟨⟨⟨⟨⟨⟨⟨⟨hsel, hfree⟩, hready⟩, hsel'⟩, hn⟩, hn1⟩, hs⟩, hc⟩, hlex⟩, hna⟩ := hB
  have hH := h { w with drawn := w.drawn + 1 } ⟨1, rfl⟩
  generalize hw2 : { w with drawn := w.drawn + 1 } = w2 at hH
  refine wp_region_any hm ?_
  rw [hw2, List.size_toArray]
  have hy : Yields P l.toArray o0 (a.eval x) a := .inl ⟨by simp [Region.wanted, hg], fun w => by simp [execOp, hop]⟩
  obtain ⟨f, hf⟩ : ∃ f, l.length = f + 1 := ⟨l.length - 1, by omega⟩
  rw [hf]
  refine wpAny_take (i := 0) (by simpa using h0) hsel (by rw [← hf]; exact hfree) (by rw [← hf]; exact hready) (fun _ _ _ h => h) hy ?_
  have hst : (start0 l).getD 0 false = true := by
    unfold start0
    simp [show 0 < l.length by omega]
  rw [← hf]
  refine wpAny_withE (n := n) _ _ _ _ _ _ hst ?_
  have htl : (((withE l n).take n).drop 1).length = n - 1 := by simp [withE_length]; omega
  have hdl : ((withE l n).drop n).length = l.length - n := by simp [withE_length]
  have inv0 : HeadInv .any (withE l n).toArray n (start0 l) := by
    refine ⟨by simp [start0, withE_length], fun j oj hj hl e he _ => ?_, fun t ht ht2 => ?_⟩
    · by_cases hj0 : j = 0
      · subst hj0
        rw [List.getElem?_toArray, withE_at, if_neg (by omega), h0] at hj
        cases hj
        unfold noAfter at hna
        rw [h0] at hna
        simp only [Array.isEmpty_iff] at hna
        rw [hna] at he; simp at he
      · exfalso
        unfold start0 at hl
        rw [getD_set_ne false (by omega), getD_replicate_false] at hl
        cases hl
    · unfold start0
      rw [getD_set_ne true (by omega)]
      exact getD_in (by simp; simp [withE_length] at ht2; omega) (getD_replicate_false _ _)
  have hhead : ((withE l n).take n).drop 1 = (l.take n).drop 1 := by
    apply List.ext_getElem?
    intro i
    rw [List.getElem?_drop, List.getElem?_drop, List.getElem?_take, List.getElem?_take, withE_at]
    split
    · rw [if_neg (by omega)]
    · rfl
  have H := wpAnyL_lex (P := P) (md := .any) (g := l.length - n) hsel' hs hc (by simpa [withE_length] using hn) (((withE l n).take n).drop 1) 1 (start0 l) (a.put o0.dst (a.eval x)) (fun j hj => by
    rw [htl] at hj
    rw [List.getElem?_drop, List.getElem?_take, if_pos (by omega), List.getElem?_toArray]) (by rw [htl]; omega) inv0 (by rw [htl]; exact hlex) (by
      rw [hhead]
      exact wpStill_withE (n := n) _ _ hH)
  have := wpAny_of_head (Q' := NormalOnly Q) (g := l.length - n) (fun listed a' hL => by
    have := wpAny_of_seq (P := P) (md := .any) (Q' := NormalOnly Q) ((withE l n).drop n) n listed a' w2 (fun j => by simp [List.getElem?_drop]) (by rw [hdl]; exact hL.1) (wpList_withE (n := n) _ _ _ _ (wpList_drop (n := n) _ _ _ _ hL.2))
    rwa [hdl] at this) _ _ _ H
  rw [htl, show n - 1 + (l.length - n) = f by omega] at this
  exact this
end
end Go.Proofs.Ytphmefhnffoafaa

/- Contract of sha.Hex. -/
namespace Go.Proofs.Ytphmefhnffoafaa
open Go.RowKit Go.Shelf
set_option linter.unusedVariables false

def digB (n : Nat) : UInt8 := if n < 10 then UInt8.ofNat (48 + n) else UInt8.ofNat (87 + n)
def hexB (bs : List UInt8) : List UInt8 := bs.flatMap fun x => [digB (x.toNat / 16), digB (x.toNat % 16)]
theorem hexB_length (bs : List UInt8) : (hexB bs).length = 2 * bs.length := by
  unfold hexB
  induction bs with
  | nil => rfl
  | cons x xs ih => simp only [List.flatMap_cons, List.length_append, ih]; simp; omega
theorem hexB_snoc (bs : List UInt8) (k : Nat) (hk : k < bs.length) : hexB (bs.take (k + 1)) = hexB (bs.take k) ++ [digB ((bs[k]?.getD 0).toNat / 16), digB ((bs[k]?.getD 0).toNat % 16)] := by
  unfold hexB
  rw [List.take_add_one, List.flatMap_append, List.getElem?_eq_getElem hk]
  rfl
def digStr : ByteArray := ⟨#[48, 49, 50, 51, 52, 53, 54, 55, 56, 57, 97, 98, 99, 100, 101, 102]⟩
theorem digStr_size : digStr.size = 16 := by decide +kernel
theorem fold_digStr : (⟨#[48, 49, 50, 51, 52, 53, 54, 55, 56, 57, 97, 98, 99, 100, 101, 102]⟩ : ByteArray) = digStr := rfl
theorem digStr_at : ∀ i : Fin 16, (digStr[i.val]?).getD 0 = digB i.val := by decide +kernel
theorem run_index_digits {P : Program} (w : World) (t : TypeId) (k : IntKind) (i : Int) (h : P.underlying t = some .string) (h0 : 0 ≤ i) (h1 : i ≤ 15) :
    (Instr.index t (.string digStr) (.int k i)).run P w = .ok (.int .u8 (b8 (digB i.toNat))) w := by
  have hi : 0 ≤ i ∧ i < (digStr.size : Int) := by rw [digStr_size]; omega
  have h2 : i.toNat < digStr.size := by rw [digStr_size]; omega
  rw [run_index_string w t digStr k i h, dif_pos hi]
  have := digStr_at ⟨i.toNat, by omega⟩
  simp only [ByteArray.getElem?_lt' _ _ h2, Option.getD_some] at this
  rw [this]; rfl
theorem digit_at (i : Nat) (h : i < 16) : (#[48, 49, 50, 51, 52, 53, 54, 55, 56, 57, 97, 98, 99, 100, 101, 102] : Array UInt8)[i]? = some (digB i) := by
  revert h; revert i; decide

attribute [irreducible] hexB digB digStr
attribute [local go_sem high] fold_digStr run_index_digits
end Go.Proofs.Ytphmefhnffoafaa

/- A region that draws its order, walked along a plan: operations that leave the world are taken as soon as they can be, those that act stand in the order that the edges force (or fork). No program in sight.
   Classes: 0 an operation that looks at no world; 1 a read that stands whatever may still happen (Fut); 2 a read behind which all that act wait; 3 an operation that acts; 4 one that acts within Fut. -/
import Derived.Test.YtolbbhbfbpiljaaLocksPlayB3
set_option linter.unusedSimpArgs false
/- A region that draws its order, walked along a plan: operations that leave the world are taken as soon as they can be, those that act stand in the order that the edges force (or fork). No program in sight.
   Classes: 0 an operation that looks at no world; 1 a read that stands whatever may still happen (Fut); 2 a read behind which all that act wait; 3 an operation that acts; 4 one that acts within Fut. -/
namespace Go.Proofs.Ytolbbhbfbpiljaa
open Go.RowKit

inductive Plan where
  | done
  | get (i : Nat) (t : Plan)
  | act (i : Nat) (t : Plan)
  | fork (i : Nat) (s t : Plan)

def noQ : Exit → Act → World → Prop := fun _ _ _ => False
def plCls (cl : List Nat) (i : Nat) : Nat := cl.getD i 3
def plOkc : Nat → Nat → Bool
  | 0, _ => true
  | 1, c => decide (c ≤ 2) || c == 4
  | 2, c => decide (c ≤ 2)
  | _, _ => false

section
variable (P : Program) (md : Region.Mode) (ops : Array Oper) (Fut : World → World → Prop) (cl : List Nat) (Q : Exit → Act → World → Prop)

def plFree (i : Nat) (listed : Array Bool) : Bool :=
  (List.range ops.size).all fun j => j == i || listed.getD j true || (ancs md ops ops.size j).contains i || plOkc (plCls cl i) (plCls cl j)
def planB : Nat → Plan → List Nat → Array Bool → Bool
  | _, .done, hs, listed => hs.isEmpty && (Region.ready md ops listed).isEmpty
  | 0, _, _, _ => false
  | f + 1, .get i t, hs, listed => hs.isEmpty && decide (plCls cl i ≤ 2) && (Region.ready md ops listed).contains i && Region.free md ops listed i && plFree md ops cl i listed && planB f t [] (listed.setIfInBounds i true)
  | f + 1, .act i t, hs, listed => decide (3 ≤ plCls cl i) && (Region.ready md ops listed).all (fun j => (i :: hs).contains j) && !(Region.ready md ops listed).isEmpty && planB f t [] (listed.setIfInBounds i true)
  | f + 1, .fork i s t, hs, listed => decide (3 ≤ plCls cl i) && planB f s [] (listed.setIfInBounds i true) && planB (f + 1) t (i :: hs) listed

def plOK (c : Nat) (o : Oper) (a : Act) (w : World) (v : Value) : Prop :=
  match c with
  | 0 => ∀ w', (execOp a.eval o).run P w' = .ok (.value v) w'
  | 1 => ∀ w', Fut w w' → (execOp a.eval o).run P w' = .ok (.value v) w'
  | _ => (execOp a.eval o).run P w = .ok (.value v) w
def wpActs (i : Nat) (K : Act → World → Prop) (a : Act) (w : World) : Prop :=
  match ops[i]? with
  | none => False
  | some o => if Region.wanted o (yielded ops a.tmps) then o.wp P a w (fun a' w' => (plCls cl i = 4 → Fut w w') ∧ K a' w') noQ else K (a.put o.dst undef) w
/-- The walk along the plan. -/
def wpS : Plan → Act → World → Prop
  | .done, a, w => Q .normal a w
  | .get i t, a, w => match ops[i]? with
    | none => False
    | some o => if Region.wanted o (yielded ops a.tmps) then ∃ v, plOK P Fut (plCls cl i) o a w v ∧ wpS t (a.put o.dst v) w else wpS t (a.put o.dst undef) w
  | .act i t, a, w => wpActs P ops Fut cl i (wpS t) a w
  | .fork i s t, a, w => wpActs P ops Fut cl i (wpS s) a w ∧ wpS t a w
def wpOpF (i : Nat) (K : Act → World → Prop) (a : Act) (w : World) : Prop :=
  match ops[i]? with
  | none => False
  | some o => if Region.wanted o (yielded ops a.tmps) then
      (if plCls cl i ≤ 2 then ∃ v, (execOp a.eval o).run P w = .ok (.value v) w ∧ K (a.put o.dst v) w else o.wp P a w (fun a' w' => (plCls cl i = 4 → Fut w w') ∧ K a' w') noQ)
    else K (a.put o.dst undef) w
def wpAnyF : Nat → Array Bool → Act → World → Prop
  | 0, listed, a, w => Region.ready md ops listed = [] ∧ Q .normal a w
  | f + 1, listed, a, w => (Region.ready md ops listed = [] → Q .normal a w) ∧ ∀ i ∈ Region.ready md ops listed, wpOpF P ops Fut cl i (wpAnyF f (listed.setIfInBounds i true)) a w
end

section
variable {P : Program} {md : Region.Mode} {ops : Array Oper} {Fut : World → World → Prop} {cl : List Nat} {Q : Exit → Act → World → Prop}

theorem oper_wp_no {o : Oper} {a : Act} {w : World} {K K' : Act → World → Prop} {Q : Exit → Act → World → Prop} (h : ∀ a w, K a w → K' a w) (hh : o.wp P a w K noQ) : o.wp P a w K' Q := by
  unfold Oper.wp at *
  generalize (execOp a.eval o).run P w = r at *
  cases r with
  | ok n w' =>
    cases n <;> simp only [Oper.upon] at hh ⊢
    case value => exact h _ _ hh
    case skip => exact h _ _ hh
    case defer => exact h _ _ hh
    case enter f args =>
      refine Calls.mono hh fun e w'' he => ?_
      cases e with
      | returned u => exact h _ _ he
      | panicked c => exact he.elim
      | outgrown => obtain ⟨_, _, hf⟩ := he; exact hf.elim
    case row => exact Rows.mono hh fun _ _ he => h _ _ he
  | halt x w' =>
    cases x <;> simp only [Oper.upon] at hh ⊢
    case panic u => exact hh.elim
theorem wpOpF_mono {i : Nat} {K K' : Act → World → Prop} {a : Act} {w : World} (h : ∀ a w, K a w → K' a w) (hh : wpOpF P ops Fut cl i K a w) : wpOpF P ops Fut cl i K' a w := by
  unfold wpOpF at *
  cases ho : ops[i]? with
  | none => rw [ho] at hh; exact hh
  | some o =>
    rw [ho] at hh
    simp only at hh ⊢
    split
    · rename_i hw
      rw [if_pos hw] at hh
      split
      · rename_i hc; rw [if_pos hc] at hh; obtain ⟨v, h1, h2⟩ := hh; exact ⟨v, h1, h _ _ h2⟩
      · rename_i hc; rw [if_neg hc] at hh; exact oper_wp_no (fun a w h1 => ⟨h1.1, h _ _ h1.2⟩) hh
    · rename_i hw; rw [if_neg hw] at hh; exact h _ _ hh
theorem wpOp_of_F {i : Nat} {K : Act → World → Prop} {a : Act} {w : World} (hh : wpOpF P ops Fut cl i K a w) : wpOp P ops Q i K a w := by
  unfold wpOpF at hh
  unfold wpOp
  cases ho : ops[i]? with
  | none => rw [ho] at hh; exact hh.elim
  | some o =>
    rw [ho] at hh
    simp only at hh ⊢
    split
    · rename_i hw
      rw [if_pos hw] at hh
      left
      split at hh
      · obtain ⟨v, h1, h2⟩ := hh
        unfold Oper.wp; rw [h1]; exact h2
      · exact oper_wp_no (fun a w h1 => h1.2) hh
    · rename_i hw; rw [if_neg hw] at hh; exact hh
theorem wpAny_of_F : ∀ (f : Nat) (listed : Array Bool) (a : Act) (w : World), wpAnyF P md ops Fut cl Q f listed a w → wpAny P md ops Q f listed a w
  | 0, _, _, _, h => h
  | f + 1, _, _, _, h => ⟨h.1, fun i hi => wpOp_of_F (wpOpF_mono (fun a w h1 => wpAny_of_F f _ a w h1) (h.2 i hi))⟩

/-- Another operation, moved ahead of one that leaves the world. -/
theorem wpOpF_put {j : Nat} {oi oj : Oper} {v : Value} (hj : ops[j]? = some oj) (hap : oi.apart ops oj = true) (hsi : ∀ cs b, oi.op ≠ .select cs b) (hsj : ∀ cs b, oj.op ≠ .select cs b)
    {K : Act → World → Prop} {a : Act} {w : World} (h : wpOpF P ops Fut cl j K (a.put oi.dst v) w) :
    wpOpF P ops Fut cl j (fun a' w' => (execOp a'.eval oi = execOp a.eval oi ∧ Region.wanted oi (yielded ops a'.tmps) = Region.wanted oi (yielded ops a.tmps)) ∧ (plCls cl j ≤ 2 → w' = w) ∧ (plCls cl j = 4 → w' = w ∨ Fut w w') ∧ K (a'.put oi.dst v) w') a w := by
  obtain ⟨h1, h2, h3⟩ := Oper.apart_spec hap
  have keep : ∀ (a : Act) u, execOp (a.put oj.dst u).eval oi = execOp a.eval oi ∧ Region.wanted oi (yielded ops (a.put oj.dst u).tmps) = Region.wanted oi (yielded ops a.tmps) := fun a u => ⟨execOp_put oi hsi a oj.dst u h3, wanted_put oi a oj.dst u h3⟩
  unfold wpOpF at *
  rw [hj] at h ⊢
  simp only at h ⊢
  rw [wanted_put oj a oi.dst v h1] at h
  split
  · rename_i hw
    rw [if_pos hw] at h
    rw [execOp_put oj hsj a oi.dst v h1] at h
    split
    · rename_i hc
      rw [if_pos hc] at h
      obtain ⟨u, e1, e2⟩ := h
      exact ⟨u, e1, keep a u, fun _ => by trivial, fun _ => .inl (by trivial), by rw [← Act.put_comm a v u h2]; exact e2⟩
    · rename_i hc
      rw [if_neg hc] at h
      unfold Oper.wp at *
      rw [execOp_put oj hsj a oi.dst v h1] at h
      generalize (execOp a.eval oj).run P w = r at *
      cases r with
      | ok n w' =>
        cases n <;> simp only [Oper.upon] at h ⊢
        case value u => exact ⟨h.1, keep a u, fun e => absurd e hc, fun e => .inr (h.1 e), by rw [← Act.put_comm a v u h2]; exact h.2⟩
        case skip => exact ⟨h.1, keep a undef, fun e => absurd e hc, fun e => .inr (h.1 e), by rw [← Act.put_comm a v undef h2]; exact h.2⟩
        case defer d =>
          refine ⟨h.1, keep { a with defers := d :: a.defers } undef, fun e => absurd e hc, fun e => .inr (h.1 e), ?_⟩
          rw [← Act.put_comm _ v undef h2, ← Act.put_defers]
          exact h.2
        case enter f args =>
          refine Calls.mono h fun e w'' he => ?_
          cases e with
          | returned u => exact ⟨he.1, keep a u, fun e => absurd e hc, fun e => .inr (he.1 e), by rw [← Act.put_comm a v u h2]; exact he.2⟩
          | panicked c => exact he
          | outgrown => exact he
        case row row args => exact Rows.mono h fun u w'' he => ⟨he.1, keep a u, fun e => absurd e hc, fun e => .inr (he.1 e), by rw [← Act.put_comm a v u h2]; exact he.2⟩
      | halt x w' =>
        cases x <;> simp only [Oper.upon] at h ⊢
        case panic u => exact h.elim
  · rename_i hw
    rw [if_neg hw] at h
    exact ⟨keep a undef, fun _ => by trivial, fun _ => .inl (by trivial), by rw [← Act.put_comm a v undef h2]; exact h⟩

/-- An operation that leaves the world may be taken first. -/
theorem wpAnyF_first {i : Nat} {oi : Oper} {v : Value} (hi : ops[i]? = some oi) (hsel : ∀ (j : Nat) (o : Oper) cs b, ops[j]? = some o → o.op ≠ .select cs b) (hc : plCls cl i ≤ 2) (hrefl : ∀ w, Fut w w) (htr : ∀ w1 w2 w3, Fut w1 w2 → Fut w2 w3 → Fut w1 w3) :
    ∀ (f : Nat) (listed : Array Bool) (a : Act) (w : World), PClosed md ops listed →
      (∀ j oj, ops[j]? = some oj → j ≠ i → listed.getD j true = false → i ∉ ancs md ops ops.size j → oi.apart ops oj = true ∧ plOkc (plCls cl i) (plCls cl j) = true) →
      i ∈ Region.ready md ops listed → (if Region.wanted oi (yielded ops a.tmps) then plOK P Fut (plCls cl i) oi a w v else v = undef) →
      wpAnyF P md ops Fut cl Q f (listed.setIfInBounds i true) (a.put oi.dst v) w → wpAnyF P md ops Fut cl Q (f + 1) listed a w := by
  have own : ∀ (a : Act) (w : World) (K : Act → World → Prop), (if Region.wanted oi (yielded ops a.tmps) then plOK P Fut (plCls cl i) oi a w v else v = undef) → K (a.put oi.dst v) w → wpOpF P ops Fut cl i K a w := by
    intro a w K hy hK
    unfold wpOpF
    rw [hi]
    simp only
    split
    · rename_i hw
      rw [if_pos hw] at hy
      try rw [if_pos hc]
      refine ⟨v, ?_, hK⟩
      unfold plOK at hy
      split at hy
      · exact hy w
      · exact hy w (hrefl w)
      · exact hy
    · rename_i hw
      rw [if_neg hw] at hy
      rw [← hy]; exact hK
  intro f
  induction f with
  | zero =>
    intro listed a w _ _ hr hy H
    refine ⟨fun h => (by rw [h] at hr; cases hr), fun j hj => ?_⟩
    by_cases hji : j = i
    · subst hji; exact own a w _ hy H
    · have := ready_mono hj hji
      rw [H.1] at this
      cases this
  | succ f ih =>
    intro listed a w hcl hfree hr hy H
    refine ⟨fun h => (by rw [h] at hr; cases hr), fun j hj => ?_⟩
    by_cases hji : j = i
    · subst hji; exact own a w _ hy H
    · have h1 := H.2 j (ready_mono hj hji)
      obtain ⟨hjun, oj, hoj, hall⟩ := mem_ready.1 hj
      have hnot : i ∉ ancs md ops ops.size j := fun hm => by
        have := ancs_listed hcl ops.size j (fun oi' hoi' => by rw [hoj] at hoi'; cases hoi'; exact hall) i hm
        rw [getD_tf (mem_ready.1 hr).1] at this
        cases this
      obtain ⟨hap, hok⟩ := hfree j oj hoj hji hjun hnot
      have h2 := wpOpF_put hoj hap (fun cs b => hsel i oi cs b hi) (fun cs b => hsel j oj cs b hoj) h1
      refine wpOpF_mono (fun a' w' h3 => ?_) h2
      obtain ⟨⟨k1, k2⟩, k3, k4, k5⟩ := h3
      refine ih (listed.setIfInBounds j true) a' w' (closed_set hcl hj) (fun k ok hk hki hun hno => hfree k ok hk hki ?_ hno) (ready_mono hr (Ne.symm hji)) ?_ ?_
      · by_cases hjk : j = k
        · subst hjk; exact hjun
        · rw [getD_ne true hjk] at hun; exact hun
      · rw [k2]
        split
        · rename_i hw
          rw [if_pos hw] at hy
          unfold plOK at hy ⊢
          rw [k1]
          split at hy
          · exact hy
          · rename_i hc1
            rw [hc1] at hok
            simp only [plOkc, Bool.or_eq_true, decide_eq_true_eq, beq_iff_eq] at hok
            intro w'' hf
            rcases hok with hok | hok
            · rw [k3 hok] at hf; exact hy w'' hf
            · rcases k4 hok with e | e
              · rw [e] at hf; exact hy w'' hf
              · exact hy w'' (htr _ _ _ e hf)
          · rename_i n1 n2
            have h22 : plCls cl i = 2 := by
              have : plCls cl i ≠ 0 := n1
              have : plCls cl i ≠ 1 := n2
              omega
            rw [h22] at hok
            simp only [plOkc, decide_eq_true_eq] at hok
            rw [k3 hok]; exact hy
        · rename_i hw
          rw [if_neg hw] at hy
          exact hy
      · rw [Array.setIfInBounds_comm _ _ hji]
        exact k5

theorem wpOpF_of_acts {i : Nat} {K : Act → World → Prop} {a : Act} {w : World} (hc : 3 ≤ plCls cl i) (h : wpActs P ops Fut cl i K a w) : wpOpF P ops Fut cl i K a w := by
  unfold wpActs at h
  unfold wpOpF
  cases ho : ops[i]? with
  | none => rw [ho] at h; exact h
  | some o =>
    rw [ho] at h
    simp only at h ⊢
    rw [if_neg (show ¬ plCls cl i ≤ 2 by omega)]
    exact h
theorem wpAnyF_of_plan (hs : Region.noSelect ops = true) (hrefl : ∀ w, Fut w w) (htr : ∀ w1 w2 w3, Fut w1 w2 → Fut w2 w3 → Fut w1 w3) :
    ∀ (p : Plan) (f : Nat) (hds : List Nat) (listed : Array Bool) (a : Act) (w : World), PClosed md ops listed → planB md ops cl f p hds listed = true →
      (∀ i ∈ hds, i ∈ Region.ready md ops listed → ∀ g, f = g + 1 → wpOpF P ops Fut cl i (wpAnyF P md ops Fut cl Q g (listed.setIfInBounds i true)) a w) → wpS P ops Fut cl Q p a w → wpAnyF P md ops Fut cl Q f listed a w
  | .done, f, hds, listed, a, w, hcl, hB, hh, h => by
    have hr : Region.ready md ops listed = [] := by
      cases f <;> (simp only [planB, Bool.and_eq_true] at hB; simpa using hB.2)
    cases f with
    | zero => exact ⟨hr, h⟩
    | succ f => exact ⟨fun _ => h, fun i hi => by rw [hr] at hi; cases hi⟩
  | .get i t, f, hds, listed, a, w, hcl, hB, hh, h => by
    cases f with
    | zero => simp [planB] at hB
    | succ f =>
      simp only [planB, Bool.and_eq_true, decide_eq_true_eq] at hB
      obtain ⟨⟨⟨⟨⟨_, h1⟩, h2⟩, h3⟩, h4⟩, h5⟩ := hB
      have hr : i ∈ Region.ready md ops listed := by simpa using h2
      unfold wpS at h
      cases ho : ops[i]? with
      | none => rw [ho] at h; exact h.elim
      | some o =>
        rw [ho] at h
        simp only at h
        have hfree : ∀ j oj, ops[j]? = some oj → j ≠ i → listed.getD j true = false → i ∉ ancs md ops ops.size j → o.apart ops oj = true ∧ plOkc (plCls cl i) (plCls cl j) = true := by
          intro j oj hoj hne hun hno
          have hj : j < ops.size := (Array.getElem?_eq_some_iff.1 hoj).1
          constructor
          · refine Region.free_spec ho h3 j oj hoj hne hun fun e he hb heq => hno ?_
            obtain ⟨n, hn⟩ : ∃ n, ops.size = n + 1 := ⟨ops.size - 1, by omega⟩
            rw [hn]
            unfold ancs
            refine List.mem_flatMap.2 ⟨e.on, ?_, by rw [heq]; exact List.mem_cons_self⟩
            rw [hoj]
            exact List.mem_map.2 ⟨e, List.mem_filter.2 ⟨by simpa using he, hb⟩, rfl⟩
          · unfold plFree at h4
            have := List.all_eq_true.1 h4 j (List.mem_range.2 hj)
            simp only [Bool.or_eq_true, beq_iff_eq] at this
            rcases this with ((e | e) | e) | e
            · exact absurd e hne
            · rw [hun] at e; cases e
            · exact absurd (by simpa using e) hno
            · exact e
        have next : ∀ v, (if Region.wanted o (yielded ops a.tmps) then plOK P Fut (plCls cl i) o a w v else v = undef) → wpS P ops Fut cl Q t (a.put o.dst v) w → wpAnyF P md ops Fut cl Q (f + 1) listed a w := fun v hy hk =>
          wpAnyF_first ho (Region.noSelect_spec hs) h1 hrefl htr f listed a w hcl hfree hr hy (wpAnyF_of_plan hs hrefl htr t f [] _ _ w (closed_set hcl hr) h5 (fun j hj => by cases hj) hk)
        split at h
        · rename_i hw
          obtain ⟨v, hv, hk⟩ := h
          exact next v (by rw [if_pos hw]; exact hv) hk
        · rename_i hw
          exact next undef (by rw [if_neg hw]) h
  | .act i t, f, hds, listed, a, w, hcl, hB, hh, h => by
    cases f with
    | zero => simp [planB] at hB
    | succ f =>
      simp only [planB, Bool.and_eq_true, decide_eq_true_eq] at hB
      obtain ⟨⟨⟨h1, h2⟩, h3⟩, h4⟩ := hB
      refine ⟨fun e => by rw [e] at h3; simp at h3, fun j hj => ?_⟩
      have hm := List.all_eq_true.1 h2 j hj
      have hm : j = i ∨ j ∈ hds := by simpa using hm
      rcases hm with e | e
      · subst e
        refine wpOpF_of_acts h1 ?_
        unfold wpS at h
        unfold wpActs at h ⊢
        cases ho : ops[j]? with
        | none => rw [ho] at h; exact h
        | some o =>
          rw [ho] at h
          simp only at h ⊢
          split
          · rename_i hw
            rw [if_pos hw] at h
            exact oper_wp_no (fun a w h1 => ⟨h1.1, wpAnyF_of_plan hs hrefl htr t f [] _ _ _ (closed_set hcl hj) h4 (fun j hj => by cases hj) h1.2⟩) h
          · rename_i hw
            rw [if_neg hw] at h
            exact wpAnyF_of_plan hs hrefl htr t f [] _ _ _ (closed_set hcl hj) h4 (fun j hj => by cases hj) h
      · exact hh j e hj f rfl
  | .fork i s t, f, hds, listed, a, w, hcl, hB, hh, h => by
    cases f with
    | zero => simp [planB] at hB
    | succ f =>
      simp only [planB, Bool.and_eq_true, decide_eq_true_eq] at hB
      obtain ⟨⟨h1, h2⟩, h3⟩ := hB
      unfold wpS at h
      refine wpAnyF_of_plan hs hrefl htr t (f + 1) (i :: hds) listed a w hcl h3 (fun j hj hr g hg => ?_) h.2
      obtain rfl : f = g := by omega
      rcases List.mem_cons.1 hj with e | e
      · subst e
        refine wpOpF_of_acts h1 ?_
        have h0 := h.1
        unfold wpActs at h0 ⊢
        cases ho : ops[j]? with
        | none => rw [ho] at h0; exact h0
        | some o =>
          rw [ho] at h0
          simp only at h0 ⊢
          split
          · rename_i hw
            rw [if_pos hw] at h0
            exact oper_wp_no (fun a w h1 => ⟨h1.1, wpAnyF_of_plan hs hrefl htr s f [] _ _ _ (closed_set hcl hr) h2 (fun j hj => by cases hj) h1.2⟩) h0
          · rename_i hw
            rw [if_neg hw] at h0
            exact wpAnyF_of_plan hs hrefl htr s f [] _ _ _ (closed_set hcl hr) h2 (fun j hj => by cases hj) h0
      · exact hh j e hr f rfl

/-- What may happen: memory is made; nothing that was there turns. -/
def Grow (w w' : World) : Prop := Below w.heap.size w w'
theorem Grow.refl (w : World) : Grow w w := Below.refl _ _
theorem Grow.trans (w1 w2 w3 : World) (h : Grow w1 w2) (k : Grow w2 w3) : Grow w1 w3 := below_chain h k
theorem Drawn.grow {w w' : World} (h : Drawn w w') : Grow w w' := h.all
theorem _root_.Go.RowKit.Below.grow' {w0 w w' : World} (h : Below w0.heap.size w0 w) (k : Grow w w') : Below w0.heap.size w0 w' := below_step h h.size k
theorem Sl.grow {w w' : World} {sz n : Nat} {A : Option Addr} {xs : List Value} (h : Sl w w.heap.size sz A n xs) (k : Grow w w') : Sl w' w'.heap.size sz A n xs := (h.below k).more k.size
theorem Blk.grow {w w' : World} {g : Nat} {t : TypeId} {cs : List Value} (h : Blk w g t cs) (k : Grow w w') : Blk w' g t cs := h.call k
theorem _root_.Go.World.ownsRow.grow {w w' : World} {base : Nat} {e : TypeId} {sz n c : Nat} {A : Option Addr} {xs : List Value} (h : w.ownsRow base e sz (.slice A n c) n xs) (k : Grow w w') : w'.ownsRow base e sz (.slice A n c) n xs := own_below h k
/-- A new block: the world under a letter. -/
theorem alloc_new (w : World) (cs : Array Value) (T : TypeId) : Blk (w.alloc (.cells cs T)) w.heap.size T cs.toList ∧ Grow w (w.alloc (.cells cs T)) ∧ (w.alloc (.cells cs T)).heap.size = w.heap.size + 1 :=
  ⟨by have := heap_alloc_new w (.cells cs T); simpa [Blk] using this, (Below.refl _ _).alloc (Nat.le_refl _) _, by simp⟩
theorem alloc_eq {w w2 : World} {cs : Array Value} {T : TypeId} (h : w.alloc (.cells cs T) = w2) : Blk w2 w.heap.size T cs.toList ∧ Grow w w2 ∧ w2.heap.size = w.heap.size + 1 := by
  subst h; exact alloc_new w cs T
theorem Sl.to1 {w : World} {B n k : Nat} {A : Option Addr} {xs : List Value} (h : Sl w B 1 A n xs) (hk : k ≤ n) : Sl w B 1 A k (xs.take k) := by
  refine ⟨by rw [List.length_take, h.len]; omega, fun hn => ?_⟩
  obtain ⟨b, off, e, hb, hc⟩ := h.2 (by omega)
  refine ⟨b, off, e, hb, fun j u hu => hc j u ?_⟩
  rw [List.getElem?_take] at hu
  split at hu
  · exact hu
  · cases hu
theorem Sl.from1 {w : World} {B n k c : Nat} {A : Option Addr} {xs : List Value} (h : Sl w B 1 A n xs) (hk : k ≤ n) (hc : n ≤ c) : Sl w B 1 (if c = k then A else Option.map (fun x => x.add k) A) (n - k) (xs.drop k) := by
  have h1 := h.cut (k := k) (m := n - k) (cap := c) (by omega) hc
  rw [Nat.mul_one, Nat.mul_one] at h1
  rw [List.take_of_length_le (by rw [List.length_drop, h.len]; exact Nat.le_refl _)] at h1
  exact h1
def planOf (l : List Oper) (cl : List Nat) (p : Plan) : Bool := Region.noSelect l.toArray && planB .any l.toArray cl l.length p [] (Array.replicate l.length false)
/-- The law. -/
theorem wp_plan {id : Nat} {a : Act} {w : World} {l : List Oper} (Fut : World → World → Prop) (cl : List Nat) (p : Plan) (hm : P.follows .mixedOrders = true) (hB : planOf l cl p = true) (hrefl : ∀ w, Fut w w) (htr : ∀ w1 w2 w3, Fut w1 w2 → Fut w2 w3 → Fut w1 w3)
    (h : ∀ w2, Drawn w w2 → wpS P l.toArray Fut cl Q p a w2) : (Code.region id l.toArray true).wp P Q a w := by
  replace h := h w.drew (Drawn.one w)
  simp only [planOf, Bool.and_eq_true] at hB
  refine wp_region_any hm (wpAny_of_F (Fut := Fut) (cl := cl) _ _ _ _ ?_)
  have h0 := wpAnyF_of_plan (Q := Q) (md := .any) hB.1 hrefl htr p l.length [] (Array.replicate l.length false) a w.drew (fun j oj _ hj => by
    rw [Array.getD_eq_getD_getElem?, Array.getElem?_replicate] at hj
    split at hj <;> simp at hj) hB.2 (fun j hj => by cases hj) h
  simpa using h0

/-! ### Steps -/
variable {l : List Oper} {o : Oper} {i : Nat} {t s : Plan} {a : Act} {w : World}
theorem pl_done (h : Q .normal a w) : wpS P ops Fut cl Q .done a w := h
/-- An operation that looks at no world. -/
theorem pl_calm {v : Value} (hi : ops[i]? = some o) (hc : plCls cl i = 0) (hw : Region.wanted o (yielded ops a.tmps) = true) (h : ∀ w', (execOp a.eval o).run P w' = .ok (.value v) w')
    (hk : ∀ K : Act → World → Prop, (∀ a w, wpS P ops Fut cl Q t a w → K a w) → K (a.put o.dst v) w) : wpS P ops Fut cl Q (.get i t) a w := by
  unfold wpS; rw [hi]; simp only; rw [if_pos hw, hc]; exact ⟨v, h, hk _ fun _ _ h => h⟩
theorem pl_read {v : Value} (hi : ops[i]? = some o) (hc : plCls cl i = 1) (hw : Region.wanted o (yielded ops a.tmps) = true) (h : ∀ w', Fut w w' → (execOp a.eval o).run P w' = .ok (.value v) w')
    (hk : ∀ K : Act → World → Prop, (∀ a w, wpS P ops Fut cl Q t a w → K a w) → K (a.put o.dst v) w) : wpS P ops Fut cl Q (.get i t) a w := by
  unfold wpS; rw [hi]; simp only; rw [if_pos hw, hc]; exact ⟨v, h, hk _ fun _ _ h => h⟩
theorem pl_now {v : Value} (hi : ops[i]? = some o) (hc : plCls cl i = 2) (hw : Region.wanted o (yielded ops a.tmps) = true) (h : (execOp a.eval o).run P w = .ok (.value v) w)
    (hk : ∀ K : Act → World → Prop, (∀ a w, wpS P ops Fut cl Q t a w → K a w) → K (a.put o.dst v) w) : wpS P ops Fut cl Q (.get i t) a w := by
  unfold wpS; rw [hi]; simp only; rw [if_pos hw, hc]; exact ⟨v, h, hk _ fun _ _ h => h⟩
theorem pl_skip (hi : ops[i]? = some o) (hw : Region.wanted o (yielded ops a.tmps) = false)
    (hk : ∀ K : Act → World → Prop, (∀ a w, wpS P ops Fut cl Q t a w → K a w) → K (a.put o.dst undef) w) : wpS P ops Fut cl Q (.get i t) a w := by
  unfold wpS; rw [hi]; simp only; rw [if_neg (by rw [hw]; simp)]; exact hk _ fun _ _ h => h
theorem pl_skipa (hi : ops[i]? = some o) (hw : Region.wanted o (yielded ops a.tmps) = false)
    (hk : ∀ K : Act → World → Prop, (∀ a w, wpS P ops Fut cl Q t a w → K a w) → K (a.put o.dst undef) w) : wpS P ops Fut cl Q (.act i t) a w := by
  unfold wpS wpActs; rw [hi]; simp only; rw [if_neg (by rw [hw]; simp)]; exact hk _ fun _ _ h => h
/-- Only the way that goes on. -/
def toK (K : Act → World → Prop) : Exit → Act → World → Prop
  | .normal, a, w => K a w
  | _, _, _ => False
theorem acts_of_list {K : Act → World → Prop} (hi : ops[i]? = some o) (h : wpList P ops (toK fun a' w' => (plCls cl i = 4 → Fut w w') ∧ K a' w') [o] a w) (hw : Region.wanted o (yielded ops a.tmps) = true) : wpActs P ops Fut cl i K a w := by
  unfold wpActs; rw [hi]; simp only; rw [if_pos hw]
  unfold wpList at h
  rw [if_pos hw] at h
  have e : (fun a' w' => wpList P ops (toK fun a' w' => (plCls cl i = 4 → Fut w w') ∧ K a' w') [] a' w') = fun a' w' => (plCls cl i = 4 → Fut w w') ∧ K a' w' := rfl
  rcases h with h | ⟨_, _, _, hf⟩
  · unfold Oper.wp at h ⊢
    generalize (execOp a.eval o).run P w = r at *
    cases r with
    | ok n w' =>
      cases n <;> simp only [Oper.upon] at h ⊢
      case value => exact h
      case skip => exact h
      case defer => exact h
      case enter f args =>
        refine Calls.mono h fun e w'' he => ?_
        cases e with
        | returned u => exact he
        | panicked c => exact he.elim
        | outgrown => obtain ⟨_, _, hf⟩ := he; exact hf.elim
      case row => exact h
    | halt x w' =>
      cases x <;> simp only [Oper.upon] at h ⊢
      case panic u => exact h.elim
  · exact hf.elim
/-- An operation that acts: walked as a list of one. -/
theorem pl_act (hi : ops[i]? = some o) (hw : Region.wanted o (yielded ops a.tmps) = true)
    (hk : ∀ K : Act → World → Prop, (∀ a' w', (plCls cl i = 4 → Fut w w') → wpS P ops Fut cl Q t a' w' → K a' w') → wpList P ops (toK K) [o] a w) : wpS P ops Fut cl Q (.act i t) a w := by
  unfold wpS
  exact acts_of_list hi (hk _ fun _ _ h1 h2 => ⟨h1, h2⟩) hw
theorem pl_fork (hi : ops[i]? = some o) (hw : Region.wanted o (yielded ops a.tmps) = true)
    (hk : ∀ K : Act → World → Prop, (∀ a' w', (plCls cl i = 4 → Fut w w') → wpS P ops Fut cl Q s a' w' → K a' w') → wpList P ops (toK K) [o] a w) (ht : wpS P ops Fut cl Q t a w) : wpS P ops Fut cl Q (.fork i s t) a w := by
  unfold wpS
  exact ⟨acts_of_list hi (hk _ fun _ _ h1 h2 => ⟨h1, h2⟩) hw, ht⟩
/-- A cell read; what may happen besides makes memory alone. -/
theorem pl_load {T : TypeId} {x : Operand} {p : Addr} {v : Value} (hi : ops[i]? = some o) (hc : plCls cl i = 1) (hw : Region.wanted o (yielded ops a.tmps) = true) (ho : o.op = .load T x) (hx : a.eval x = .pointer (some p))
    (hT : (match P.underlying T with | some (.struct _) | some (.array _ _) => false | some _ => true | none => false) = true) (hv : w.cell? p = some v)
    (hk : ∀ K : Act → World → Prop, (∀ a w, wpS P ops Grow cl Q t a w → K a w) → K (a.put o.dst v) w) : wpS P ops Grow cl Q (.get i t) a w := by
  refine pl_read hi hc hw (fun w' hf => ?_) hk
  have hv' : w'.cell? p = some v := by
    have := World.block_lt_of_cell? w p hv
    rw [hf.cell this]; exact hv
  unfold execOp
  simp only [ho, hx, Instr.loadAt, Instr.sureAddr, Sem.run_bind, Sem.run_pure, Result.andThen_ok]
  cases hd : P.underlying T with
  | none => rw [hd] at hT; cases hT
  | some d =>
    rw [hd] at hT
    have hagg : (isAgg T).run P w' = .ok false w' := by
      unfold isAgg
      rw [Sem.run_bind, run_underlying hd w']
      cases d <;> simp_all
    simp [loadVar, hagg, load, Sem.run, hv']
theorem pl_loadnow {T : TypeId} {x : Operand} {p : Addr} {v : Value} (hi : ops[i]? = some o) (hc : plCls cl i = 2) (hw : Region.wanted o (yielded ops a.tmps) = true) (ho : o.op = .load T x) (hx : a.eval x = .pointer (some p))
    (hT : (match P.underlying T with | some (.struct _) | some (.array _ _) => false | some _ => true | none => false) = true) (hv : w.cell? p = some v)
    (hk : ∀ K : Act → World → Prop, (∀ a w, wpS P ops Fut cl Q t a w → K a w) → K (a.put o.dst v) w) : wpS P ops Fut cl Q (.get i t) a w := by
  refine pl_now hi hc hw ?_ hk
  unfold execOp
  simp only [ho, hx, Instr.loadAt, Instr.sureAddr, Sem.run_bind, Sem.run_pure, Result.andThen_ok]
  cases hd : P.underlying T with
  | none => rw [hd] at hT; cases hT
  | some d =>
    rw [hd] at hT
    have hagg : (isAgg T).run P w = .ok false w := by
      unfold isAgg
      rw [Sem.run_bind, run_underlying hd w]
      cases d <;> simp_all
    simp [loadVar, hagg, load, Sem.run, hv]
/-- A whole block read. -/
theorem pl_loadb {T : TypeId} {x : Operand} {n : Nat} {g : Nat} {T' : TypeId} {cs : List Value} (hi : ops[i]? = some o) (hc : plCls cl i = 1) (hw : Region.wanted o (yielded ops a.tmps) = true) (ho : o.op = .load T x) (hT : RowT P T n)
    (hb : Blk w g T' cs) (hx : a.eval x = .pointer (some ⟨g, 0, none⟩)) (hn : cs.length = n)
    (hk : ∀ K : Act → World → Prop, (∀ a w, wpS P ops Grow cl Q t a w → K a w) → K (a.put o.dst (.agg cs.toArray)) w) : wpS P ops Grow cl Q (.get i t) a w := by
  refine pl_read hi hc hw (fun w' hf => ?_) hk
  obtain ⟨d, hu, hd, hi⟩ := hT
  have hrun := run_loadVar_row (P := P) w' g T' T cs.toArray (0, 0) d (hb.call hf) hu (by revert hd; cases d <;> simp) (by rw [hi]; simp [hn])
  unfold execOp
  simp only [ho, hx, Instr.loadAt, Instr.sureAddr, Sem.run_bind, Sem.run_pure, Result.andThen_ok, hrun]
theorem pl_loadbnow {T : TypeId} {x : Operand} {n : Nat} {g : Nat} {T' : TypeId} {cs : List Value} (hi : ops[i]? = some o) (hc : plCls cl i = 2) (hw : Region.wanted o (yielded ops a.tmps) = true) (ho : o.op = .load T x) (hT : RowT P T n)
    (hb : Blk w g T' cs) (hx : a.eval x = .pointer (some ⟨g, 0, none⟩)) (hn : cs.length = n)
    (hk : ∀ K : Act → World → Prop, (∀ a w, wpS P ops Fut cl Q t a w → K a w) → K (a.put o.dst (.agg cs.toArray)) w) : wpS P ops Fut cl Q (.get i t) a w := by
  refine pl_now hi hc hw ?_ hk
  obtain ⟨d, hu, hd, hi⟩ := hT
  have hrun := run_loadVar_row (P := P) w g T' T cs.toArray (0, 0) d hb hu (by revert hd; cases d <;> simp) (by rw [hi]; simp [hn])
  unfold execOp
  simp only [ho, hx, Instr.loadAt, Instr.sureAddr, Sem.run_bind, Sem.run_pure, Result.andThen_ok, hrun]
end
attribute [irreducible] wpS wpActs
end Go.Proofs.Ytolbbhbfbpiljaa

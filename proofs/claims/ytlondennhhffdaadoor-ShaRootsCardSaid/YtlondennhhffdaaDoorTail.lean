/- A region that draws its order: a move first, then reads, then a tail in one order: 'x = append(x, ..reads..)'. -/
import Derived.Test.YtlondennhhffdaaDoorBase
namespace Go.Proofs.YtlondennhhffdaaDoor
open Go.RowKit

/-- The same operation, that waits for operation 0 besides. -/
def addE (o : Oper) : Oper := { o with after := o.after.push ⟨0, .data⟩ }
def withE (l : List Oper) (n : Nat) : List Oper := l.modify n addE
def start0 (l : List Oper) : Array Bool := (Array.replicate l.length false).setIfInBounds 0 true
def noAfter (l : List Oper) : Bool := match l[0]? with | some o => o.after.isEmpty | none => false
def tail0B (l : List Oper) (n : Nat) : Bool :=
  Region.noSelect l.toArray && Region.free .any l.toArray (Array.replicate l.length false) 0 && (Region.ready .any l.toArray (Array.replicate l.length false)).contains 0
  && Region.noSelect (withE l n).toArray && decide (n < l.length) && decide (1 ≤ n) && Region.sinkB .any (withE l n).toArray n && Region.chainB .any (withE l n).toArray n
  && Region.lexHead .any (withE l n).toArray (l.length - n) (n - 1) 1 (start0 l) && noAfter l

section
variable {P : Program} {l : List Oper} {n : Nat}
theorem withE_at (l : List Oper) (n i : Nat) : (withE l n)[i]? = if i = n then (l[i]?).map addE else l[i]? := by
  unfold withE
  rw [List.getElem?_modify]
  by_cases h : n = i
  · subst h; simp
  · rw [if_neg (fun e => h e.symm)]; cases l[i]? <;> simp [h]
theorem withE_length (l : List Oper) (n : Nat) : (withE l n).length = l.length := by simp [withE]
theorem yielded_withE (l : List Oper) (n : Nat) (t : Array Value) : yielded (withE l n).toArray t = yielded l.toArray t := by
  funext j
  have h : (((withE l n).toArray[j]?).bind (·.dst)) = ((l.toArray[j]?).bind (·.dst)) := by
    simp only [List.getElem?_toArray, withE_at]
    split
    · cases l[j]? <;> rfl
    · rfl
  unfold yielded
  rw [h]
theorem ready_withE {listed : Array Bool} (h0 : listed.getD 0 false = true) (md : Region.Mode) : Region.ready md (withE l n).toArray listed = Region.ready md l.toArray listed := by
  unfold Region.ready
  simp only [List.size_toArray, withE_length, List.getElem?_toArray, withE_at]
  apply List.filter_congr
  intro i _
  by_cases h : i = n
  · subst h
    rw [if_pos rfl]
    cases l[i]? with
    | none => rfl
    | some o => simp only [Option.map_some, addE, Option.getD_some, Array.all_push, h0, Bool.or_true, Bool.and_true]
  · rw [if_neg h]
theorem wp_addE (o : Oper) (a : Act) (w : World) (K : Act → World → Prop) (Q : Exit → Act → World → Prop) : (addE o).wp P a w K Q = o.wp P a w K Q := rfl
theorem asks_addE (o : Oper) (a : Act) (w : World) : (addE o).asks P a w = o.asks P a w := rfl
theorem wpOp_withE (Q : Exit → Act → World → Prop) (i : Nat) (K : Act → World → Prop) (a : Act) (w : World) : wpOp P (withE l n).toArray Q i K a w = wpOp P l.toArray Q i K a w := by
  unfold wpOp
  simp only [List.getElem?_toArray, withE_at, yielded_withE]
  by_cases h : i = n
  · rw [if_pos h]; cases l[i]? <;> rfl
  · rw [if_neg h]
theorem set_keeps {listed : Array Bool} (h0 : listed.getD 0 false = true) (i : Nat) : (listed.setIfInBounds i true).getD 0 false = true := getD_set_true h0
theorem wpAny_withE (Q : Exit → Act → World → Prop) (md : Region.Mode) : ∀ (f : Nat) (listed : Array Bool) (a : Act) (w : World), listed.getD 0 false = true → wpAny P md (withE l n).toArray Q f listed a w → wpAny P md l.toArray Q f listed a w
  | 0, listed, a, w, h0, h => by unfold wpAny at h ⊢; rw [ready_withE h0] at h; exact h
  | f + 1, listed, a, w, h0, h => by
    unfold wpAny at h ⊢
    rw [ready_withE h0] at h
    refine ⟨h.1, fun i hi => ?_⟩
    have h2 := h.2 i hi
    rw [wpOp_withE] at h2
    exact wpOp_mono (fun a' w' h3 => wpAny_withE Q md f _ a' w' (set_keeps h0 i) h3) h2
theorem wpList_withE (Q : Exit → Act → World → Prop) : ∀ (m : List Oper) (a : Act) (w : World), wpList P l.toArray Q m a w → wpList P (withE l n).toArray Q m a w
  | [], a, w, h => h
  | o :: m, a, w, h => by
    unfold wpList at h ⊢
    rw [yielded_withE]
    split
    · rename_i hw
      rw [if_pos hw] at h
      rcases h with h | h
      · exact .inl (Oper.wp_mono (fun a w h => wpList_withE Q m a w h) h)
      · exact .inr h
    · rename_i hw
      rw [if_neg hw] at h
      exact wpList_withE Q m _ w h
theorem wpStill_withE {w : World} {Q : Act → Prop} : ∀ (m : List Oper) (a : Act), wpStill P l.toArray w Q m a → wpStill P (withE l n).toArray w Q m a
  | [], a, h => h
  | o :: m, a, h => by
    unfold wpStill at h ⊢
    rw [yielded_withE]
    split
    · rename_i hw
      rw [if_pos hw] at h
      exact Oper.still_mono (fun a h => wpStill_withE m a h) h
    · rename_i hw
      rw [if_neg hw] at h
      exact wpStill_withE m _ h
theorem wpList_drop (Q : Exit → Act → World → Prop) (a : Act) (w : World) (ops : Array Oper) (h : wpList P ops Q (l.drop n) a w) : wpList P ops Q ((withE l n).drop n) a w := by
  have e : (withE l n).drop n = match l.drop n with | [] => [] | o :: m => addE o :: m := by
    apply List.ext_getElem?
    intro i
    rw [List.getElem?_drop, withE_at]
    cases hd : l.drop n with
    | nil =>
      have : l[n + i]? = none := by rw [← List.getElem?_drop, hd]; rfl
      rw [this]; split <;> rfl
    | cons o m =>
      have h2 : l[n + i]? = (o :: m)[i]? := by rw [← List.getElem?_drop, hd]
      rw [h2]
      cases i with
      | zero => simp
      | succ i => rw [if_neg (by omega)]; rfl
  rw [e]
  cases hd : l.drop n with
  | nil => rw [hd] at h; exact h
  | cons o m => rw [hd] at h; exact h

theorem wp_tail0 {id : Nat} {Q : Exit → Act → World → Prop} {a : Act} {w : World} {o0 : Oper} {x : Operand} (n : Nat) (hm : P.follows .mixedOrders = true) (h0 : l[0]? = some o0) (hg : o0.guard = none) (hop : o0.op = .move x) (hB : tail0B l n = true)
    (h : ∀ w2, Drawn w w2 → wpStill P l.toArray w2 (fun a' => wpList P l.toArray (NormalOnly Q) (l.drop n) a' w2) ((l.take n).drop 1) (a.put o0.dst (a.eval x))) : (Code.region id l.toArray true).wp P Q a w := by
  refine wp_normal ?_
  simp only [tail0B, Bool.and_eq_true, decide_eq_true_eq] at hB
  obtain ⟨⟨⟨⟨⟨⟨⟨⟨⟨hsel, hfree⟩, hready⟩, hsel'⟩, hn⟩, hn1⟩, hs⟩, hc⟩, hlex⟩, hna⟩ := hB
  have hH := h { w with drawn := w.drawn + 1 } ⟨1, rfl⟩
  generalize hw2 : { w with drawn := w.drawn + 1 } = w2 at hH
  refine wp_region_any hm ?_
  rw [hw2, List.size_toArray]
  have hy : Yields P l.toArray o0 (a.eval x) a := .inl ⟨by simp [Region.wanted, hg], fun w => by simp [execOp, hop]⟩
  obtain ⟨f, hf⟩ : ∃ f, l.length = f + 1 := ⟨l.length - 1, by omega⟩
  rw [hf]
  refine wpAny_take (i := 0) (by simpa using h0) hsel (by rw [← hf]; exact hfree) (by rw [← hf]; exact hready) (fun _ _ _ h => h) hy ?_
  have hst : (start0 l).getD 0 false = true := by
    unfold start0
    simp [show 0 < l.length by omega]
  rw [← hf]
  refine wpAny_withE (n := n) _ _ _ _ _ _ hst ?_
  have htl : (((withE l n).take n).drop 1).length = n - 1 := by simp [withE_length]; omega
  have hdl : ((withE l n).drop n).length = l.length - n := by simp [withE_length]
  have inv0 : HeadInv .any (withE l n).toArray n (start0 l) := by
    refine ⟨by simp [start0, withE_length], fun j oj hj hl e he _ => ?_, fun t ht ht2 => ?_⟩
    · by_cases hj0 : j = 0
      · subst hj0
        rw [List.getElem?_toArray, withE_at, if_neg (by omega), h0] at hj
        cases hj
        unfold noAfter at hna
        rw [h0] at hna
        simp only [Array.isEmpty_iff] at hna
        rw [hna] at he; simp at he
      · exfalso
        unfold start0 at hl
        rw [getD_set_ne false (by omega), getD_replicate_false] at hl
        cases hl
    · unfold start0
      rw [getD_set_ne true (by omega)]
      exact getD_in (by simp; simp [withE_length] at ht2; omega) (getD_replicate_false _ _)
  have hhead : ((withE l n).take n).drop 1 = (l.take n).drop 1 := by
    apply List.ext_getElem?
    intro i
    rw [List.getElem?_drop, List.getElem?_drop, List.getElem?_take, List.getElem?_take, withE_at]
    split
    · rw [if_neg (by omega)]
    · rfl
  have H := wpAnyL_lex (P := P) (md := .any) (g := l.length - n) hsel' hs hc (by simpa [withE_length] using hn) (((withE l n).take n).drop 1) 1 (start0 l) (a.put o0.dst (a.eval x)) (fun j hj => by
    rw [htl] at hj
    rw [List.getElem?_drop, List.getElem?_take, if_pos (by omega), List.getElem?_toArray]) (by rw [htl]; omega) inv0 (by rw [htl]; exact hlex) (by
      rw [hhead]
      exact wpStill_withE (n := n) _ _ hH)
  have := wpAny_of_head (Q' := NormalOnly Q) (g := l.length - n) (fun listed a' hL => by
    have := wpAny_of_seq (P := P) (md := .any) (Q' := NormalOnly Q) ((withE l n).drop n) n listed a' w2 (fun j => by simp [List.getElem?_drop]) (by rw [hdl]; exact hL.1) (wpList_withE (n := n) _ _ _ _ (wpList_drop (n := n) _ _ _ _ hL.2))
    rwa [hdl] at this) _ _ _ H
  rw [htl, show n - 1 + (l.length - n) = f by omega] at this
  exact this
end
end Go.Proofs.YtlondennhhffdaaDoor

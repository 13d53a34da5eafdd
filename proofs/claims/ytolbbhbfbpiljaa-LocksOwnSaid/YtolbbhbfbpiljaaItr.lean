/- Iterators over maps, told by the map's entries: the range, its step. No program in sight. -/
import Derived.Test.YtolbbhbfbpiljaaMap
import Derived.Shelf.SlIter.Collect
namespace Go.Proofs.Ytolbbhbfbpiljaa
open Go.RowKit
open Go.ChangeMaps (setBlock)
set_option linter.unusedVariables false
/-- Block r is an iterator over the map in block b; vs have come. -/
structure ItAt (w : World) (b r : Nat) (es : Array MapEntry) (clock : Nat) (vs : List MapEntry) : Prop where
  map : w.heap[b]? = some (.map es clock)
  it : ∃ since seen c0, w.heap[r]? = some (.mapIter (some b) since seen c0) ∧ seen.toList = vs.map (·.born) ∧ (∀ x ∈ es.toList, x.born < since) ∧ since ≤ c0 ∧ since ≤ clock
  sub : ∀ e ∈ vs, e ∈ es.toList
  nd : (vs.map (·.born)).Nodup
def itLeft (w : World) (b r : Nat) : Nat :=
  match w.heap[b]?, w.heap[r]? with
  | some (.map es _), some (.mapIter _ _ seen _) => es.size - seen.size
  | _, _ => 0
section
variable {P : Program} {w w' : World} {b r clock : Nat} {es : Array MapEntry} {vs : List MapEntry} {k t e : TypeId}
theorem ItAt.of_walks (h : ItAt w b r es clock vs) (hk : KeepsWalks w w') : ItAt w' b r es clock vs := by
  obtain ⟨h1, ⟨since, seen, c0, h2, h3⟩, h4, h5⟩ := h
  exact ⟨hk.same b _ h1 rfl, ⟨since, seen, c0, hk.same r _ h2 rfl, h3⟩, h4, h5⟩
theorem ItAt.walk (h : ItAt w b r es clock vs) : ∃ o : Obj, w.heap[r]? = some o ∧ o.isWalk = true := by
  obtain ⟨_, ⟨since, seen, c0, h2, _⟩, _, _⟩ := h
  exact ⟨_, h2, rfl⟩
theorem ItAt.left_eq (h : ItAt w b r es clock vs) : itLeft w b r = es.size - vs.length := by
  obtain ⟨h1, ⟨since, seen, c0, h2, h3, _⟩, _, _⟩ := h
  unfold itLeft
  rw [h1, h2]
  simp only
  have := congrArg List.length h3
  rw [Array.length_toList, List.length_map] at this
  rw [this]
theorem ItAt.lt (h : ItAt w b r es clock vs) : r < w.heap.size ∧ b < w.heap.size := by
  obtain ⟨h1, ⟨since, seen, c0, h2, _⟩, _, _⟩ := h
  exact ⟨(Array.getElem?_eq_some_iff.1 h2).1, (Array.getElem?_eq_some_iff.1 h1).1⟩
theorem ItAt.len (h : ItAt w b r es clock vs) : vs.length ≤ es.size := by
  have h1 : vs.Nodup := by
    have := h.nd
    unfold List.Nodup at this ⊢
    rw [List.pairwise_map] at this
    exact this.imp (fun hne e => hne (by rw [e]))
  have := h1.length_le_of_subset (l₂ := es.toList) (fun x hx => h.sub x hx)
  rwa [Array.length_toList] at this
theorem it_range (ht : P.underlying t = some (.map k e)) (hb : w.heap[b]? = some (.map es clock)) (hm : MapOK P k es clock) :
    ∃ w', (Instr.range t (.map (some b))).run P w = .ok (.pointer (some ⟨w.heap.size, 0, none⟩)) w' ∧ ItAt w' b w.heap.size es clock [] ∧ w.grownBy w' none ∧ w'.heap.size = w.heap.size + 1 := by
  have hlt := (Array.getElem?_eq_some_iff.1 hb).1
  refine ⟨_, run_range_map w t k e b es clock ht hb, ⟨((MapKept.heap_alloc w _).2 b hlt).trans hb, ⟨clock, #[], clock, (MapKept.heap_alloc w _).1, rfl, hm.young, Nat.le_refl _, Nat.le_refl _⟩, by simp, by simp⟩, World.grownBy_alloc w _ none, by simp⟩
theorem it_next (h : ItAt w b r es clock vs) (hm : MapOK P k es clock) (ty : TypeId) :
    (vs.Perm es.toList ∧ (Instr.next (.pointer (some ⟨r, 0, none⟩)) false ty).run P w = .ok (.tuple #[.bool false]) w) ∨
    ∃ en w', en ∈ es.toList ∧ (Instr.next (.pointer (some ⟨r, 0, none⟩)) false ty).run P w = .ok (.tuple #[.bool true, en.key, en.val]) w' ∧ ItAt w' b r es clock (vs ++ [en]) ∧ vs.length < es.size ∧ w.grownBy w' (some r) ∧ w'.heap.size = w.heap.size ∧
      (Instr.entry (.pointer (some ⟨r, 0, none⟩))).run P w' = .ok (.tuple #[en.key, en.val]) w' := by
  have hlen := h.len
  have hltr := h.lt.1
  have hltb := h.lt.2
  have hnv : vs.Nodup := by
    have := h.nd
    unfold List.Nodup at this ⊢
    rw [List.pairwise_map] at this
    exact this.imp (fun hne e => hne (by rw [e]))
  have hne : es.toList.Nodup := by
    have := hm.born
    unfold List.Nodup at this ⊢
    rw [List.pairwise_map] at this
    exact this.imp (fun hne e => hne (by rw [e]))
  obtain ⟨h1, ⟨since, seen, c0, h2, h3, hold, hsc, hsk⟩, h4, h5⟩ := h
  have hseen : ∀ x : MapEntry, seen.contains x.born = true ↔ x.born ∈ vs.map (·.born) := fun x => by
    rw [← h3, Array.contains_iff_mem, Array.mem_toList_iff]
  rcases run_next_at (P := P) w ty r b since c0 seen es clock h2 h1 hold hsc with ⟨h0, hrun⟩ | ⟨en, hen, w1, hal, hrun⟩
  · refine .inl ⟨(List.perm_ext_iff_of_nodup hnv hne).2 fun x => ⟨h4 x, fun hx => ?_⟩, hrun⟩
    have hc : seen.contains x.born = true := all_seen es seen h0 x hx
    obtain ⟨y, hy, hyb⟩ := List.mem_map.1 ((hseen x).1 hc)
    have hye := h4 y hy
    have : y = x := by
      have hp := hm.born
      unfold List.Nodup at hp
      rw [List.pairwise_map] at hp
      exact Classical.byContradiction fun hyx => by
        obtain ⟨i, hi, rfl⟩ := List.getElem_of_mem hye
        obtain ⟨j, hj, rfl⟩ := List.getElem_of_mem hx
        have hij : i ≠ j := fun e => hyx (by subst e; rfl)
        rcases Nat.lt_or_gt_of_ne hij with q | q
        · exact List.pairwise_iff_getElem.1 hp i j hi hj q hyb
        · exact List.pairwise_iff_getElem.1 hp j i hj hi q hyb.symm
    rw [← this]; exact hy
  · have hin : en ∈ es.toList ∧ seen.contains en.born = false := by
      unfold leftOf at hen
      rw [Array.toList_filter, List.mem_filter] at hen
      exact ⟨hen.1, by simpa using hen.2⟩
    have hnot : en.born ∉ vs.map (·.born) := fun hh => by rw [(hseen en).2 hh] at hin; cases hin.2
    have hr1 : w1.heap[r]? = some (.mapIter (some b) since seen c0) := by rcases hal with rfl | rfl <;> exact h2
    have hb1 : w1.heap[b]? = some (.map es clock) := by rcases hal with rfl | rfl <;> exact h1
    have hne2 : r ≠ b := fun e => by rw [e, h1] at h2; cases h2
    have hgr : w1.grownBy (setBlock w1 r (.mapIter (some b) since (seen.push en.born) clock)) (some r) := withBlk_grown w1 r _
    have hmap : (setBlock w1 r (.mapIter (some b) since (seen.push en.born) clock)).heap[b]? = some (.map es clock) := (hgr.block b (Array.getElem?_eq_some_iff.1 hb1).1 (fun e => by injection e with e; exact hne2 e.symm)).trans hb1
    have hit : (setBlock w1 r (.mapIter (some b) since (seen.push en.born) clock)).heap[r]? = some (.mapIter (some b) since (seen.push en.born) clock) := withBlk_heap hr1
    have hnd : ((vs ++ [en]).map (·.born)).Nodup := by
      rw [List.map_append, List.nodup_append]
      refine ⟨h5, by simp, fun a ha c hc hac => ?_⟩
      have : c = en.born := by simpa using hc
      subst this; subst hac; exact hnot ha
    refine .inr ⟨en, _, hin.1, hrun, ⟨hmap, ⟨since, seen.push en.born, clock, hit, by simp [h3], hold, hsk, hsk⟩, fun x hx => ?_, hnd⟩, ?_, ?_, ?_, run_entry_at _ r b since seen es clock en hit hmap hin.1 hm.born⟩
    · rcases List.mem_append.1 hx with hx | hx
      · exact h4 x hx
      · have : x = en := by simpa using hx
        rw [this]; exact hin.1
    · have hnv2 : (vs ++ [en]).Nodup := by
        unfold List.Nodup at hnd ⊢
        rw [List.pairwise_map] at hnd
        exact hnd.imp (fun hne e => hne (by rw [e]))
      have := hnv2.length_le_of_subset (l₂ := es.toList) (fun x hx => by
        rcases List.mem_append.1 hx with hx | hx
        · exact h4 x hx
        · have : x = en := by simpa using hx
          rw [this]; exact hin.1)
      have e1 := Array.length_toList (xs := es)
      rw [List.length_append, List.length_singleton] at this
      omega
    · rcases hal with rfl | rfl
      · exact hgr
      · exact ⟨hgr.os, hgr.tape, hgr.output, hgr.size, hgr.block⟩
    · rcases hal with rfl | rfl <;> exact withBlk_size _ _ _
end
section
variable {F : Fence} {n : Nat} {P : Program} (w : World) {ops : Array Oper} {rest : List Oper} {o : Oper} {a : Act} {Q : Exit → Act → World → Prop} {k t e : TypeId} {es : Array MapEntry} {clock b r : Nat} {vs : List MapEntry}
theorem wpi_range (hg : o.guard = none) {m : Operand} (hop : o.op = Op.range t m) (ht : P.underlying t = some (.map k e)) (hm : a.eval m = .map (some b)) (hb : w.heap[b]? = some (.map es clock)) (hk : MapOK P k es clock)
    (hK : ∀ w', ItAt w' b w.heap.size es clock [] → w.grownBy w' none → w'.heap.size = w.heap.size + 1 → wpListIn F n P ops Q rest (a.put o.dst (.pointer (some ⟨w.heap.size, 0, none⟩))) w') : wpListIn F n P ops Q (o :: rest) a w := by
  refine wpListIn_plain hg fun K' hK' => ?_
  obtain ⟨w', hrun, r1, r2, r3⟩ := it_range ht hb hk
  unfold Oper.wpIn
  refine ⟨?_, ?_⟩
  · simp [Oper.about, hop]
  · rw [Oper.semAt_plain F _ _ (by rw [hop]; intro c hc'; cases hc')]
    simp [execOp, hop, hm, hrun, Result.andThen]
    exact hK' _ _ (hK w' r1 r2 r3)
theorem wpi_next (hg : o.guard = none) {it : Operand} (hop : o.op = Op.next it false) (hit : a.eval it = .pointer (some ⟨r, 0, none⟩)) (h : ItAt w b r es clock vs) (hk : MapOK P k es clock)
    (hDone : vs.Perm es.toList → wpListIn F n P ops Q rest (a.put o.dst (.tuple #[.bool false])) w)
    (hMore : ∀ (en : MapEntry) (w' : World), en ∈ es.toList → ItAt w' b r es clock (vs ++ [en]) → vs.length < es.size → w.grownBy w' (some r) → w'.heap.size = w.heap.size → (Instr.entry (.pointer (some ⟨r, 0, none⟩))).run P w' = .ok (.tuple #[en.key, en.val]) w' → wpListIn F n P ops Q rest (a.put o.dst (.tuple #[.bool true, en.key, en.val])) w') :
    wpListIn F n P ops Q (o :: rest) a w := by
  refine wpListIn_plain hg fun K' hK' => ?_
  unfold Oper.wpIn
  refine ⟨by simp [Oper.about, hop], ?_⟩
  rw [Oper.semAt_plain F _ _ (by rw [hop]; intro c hc'; cases hc')]
  rcases it_next h hk o.type with ⟨h0, hrun⟩ | ⟨en, w', h1, hrun, h2, h3, h4, h5, h6⟩
  · simp [execOp, hop, hit, hrun, Result.andThen]
    exact hK' _ _ (hDone h0)
  · simp [execOp, hop, hit, hrun, Result.andThen]
    exact hK' _ _ (hMore en w' h1 h2 h3 h4 h5 h6)
end
end Go.Proofs.Ytolbbhbfbpiljaa

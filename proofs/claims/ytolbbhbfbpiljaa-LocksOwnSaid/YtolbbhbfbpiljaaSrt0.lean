/- A slice of structs that the call has built, sorted by the library: between rows of the call's own and the sort's words. No program in sight. -/
import Derived.Test.YtolbbhbfbpiljaaBase
import Derived.Shelf.SlSortCmp.NoneTotal
import Derived.Sort.OwnSorted
namespace Go.Proofs.Ytolbbhbfbpiljaa
open Go.RowKit Go.Sort
set_option linter.unusedVariables false
set_option linter.unusedSectionVars false
section
variable {α : Type} [Inhabited α]
theorem fmk_len (enc : α → List Value) (k : Nat) (hk : ∀ x, (enc x).length = k) : ∀ l : List α, (l.flatMap enc).length = l.length * k
  | [] => by simp
  | x :: l => by rw [List.flatMap_cons, List.length_append, fmk_len enc k hk l, hk, List.length_cons, Nat.add_mul]; omega
theorem fmk_get (enc : α → List Value) (k : Nat) (h0 : 0 < k) (hk : ∀ x, (enc x).length = k) : ∀ (l : List α) (t : Nat), t < l.length * k → (l.flatMap enc)[t]? = some ((enc l.toArray[t / k]!)[t % k]!)
  | [], t, h => by simp at h
  | x :: l, t, h => by
    rw [List.flatMap_cons]
    by_cases ht : t < k
    · rw [List.getElem?_append_left (by rw [hk]; exact ht), Nat.div_eq_of_lt ht, Nat.mod_eq_of_lt ht, List.getElem?_eq_getElem (by rw [hk]; exact ht)]
      simp [hk, ht]
    · have hge : k ≤ t := by omega
      rw [List.getElem?_append_right (by rw [hk]; exact hge), hk]
      have hlt : t - k < l.length * k := by rw [List.length_cons, Nat.add_mul] at h; omega
      rw [fmk_get enc k h0 hk l (t - k) hlt]
      have e1 : t / k = (t - k) / k + 1 := by
        conv => lhs; rw [show t = (t - k) + k by omega]
        exact Nat.add_div_right _ h0
      have e2 : t % k = (t - k) % k := by
        conv => lhs; rw [show t = (t - k) + k by omega]
        exact Nat.add_mod_right _ _
      rw [e1, e2]
      have hq : (t - k) / k < l.length := Nat.div_lt_of_lt_mul (by rw [Nat.mul_comm]; exact hlt)
      congr 3
      simp [hq]
theorem flatK_list (enc : α → List Value) (k : Nat) (h0 : 0 < k) (hk : ∀ x, (enc x).length = k) (l : List α) : (flatK enc k l.toArray).toList = l.flatMap enc := by
  apply List.ext_getElem?
  intro t
  by_cases ht : t < l.length * k
  · rw [fmk_get enc k h0 hk l t ht]
    unfold flatK
    simp [ht]
  · rw [List.getElem?_eq_none (by rw [Array.length_toList, size_flatK, List.size_toArray]; omega), List.getElem?_eq_none (by rw [fmk_len enc k hk]; omega)]
theorem holdsK_of_own {w : World} {g : Nat} {cur : Array Value} {e : TypeId} (enc : α → List Value) (k : Nat) (h0 : 0 < k) (hk : ∀ x, (enc x).length = k) {l : List α} (hb : w.heap[g]? = some (.cells cur e (0, 0))) (ht : cur.toList.take (l.length * k) = l.flatMap enc) : HoldsK enc k w g 0 l.toArray := by
  intro j hj
  have hj' : j < l.length * k := by simpa using hj
  refine ⟨?_, by simp [World.frozen?, hb]⟩
  have h1 : (cur.toList.take (l.length * k))[j]? = (l.flatMap enc)[j]? := by rw [ht]
  rw [List.getElem?_take_of_lt hj', ← flatK_list enc k h0 hk l] at h1
  simp only [World.cell?, hb, Nat.zero_add]
  simp only [Option.isSome_none, Bool.false_eq_true, if_false]
  rw [← Array.getElem?_toList, h1, Array.getElem?_toList, Array.getElem?_eq_getElem hj, getElem!_pos _ j hj]
  rfl
theorem heap_sortedK {w : World} {g n : Nat} {os : Array Obj} {cur : Array Value} {e : TypeId} {fr : Nat × Nat} (enc : α → List Value) (k : Nat) (d : Array α) (hb : w.heap[g]? = some (.cells cur e fr)) :
    (sortWorldK enc k w g 0 n d os).heap[g]? = some (.cells (putCells id 0 (flatK enc k d) cur) e fr) := by
  have hg : g < w.heap.size := (Array.getElem?_eq_some_iff.1 hb).1
  unfold sortWorldK
  rw [heap_grow_old _ _ (by simpa [putRowK, putRow, mapBlock, Sort.ahead] using hg)]
  simp [putRowK, putRow, mapBlock, Sort.ahead, Array.getElem?_modify, hb, onCells]
theorem grownBy_sortedK {w : World} {g n : Nat} {os : Array Obj} (enc : α → List Value) (k : Nat) (d : Array α) : w.grownBy (sortWorldK enc k w g 0 n d os) (some g) := by
  unfold sortWorldK
  refine ⟨rfl, rfl, rfl, by simp [putRowK, putRow, mapBlock, Sort.ahead], fun j hj hne => ?_⟩
  rw [heap_grow_old _ _ (by simpa [putRowK, putRow, mapBlock, Sort.ahead] using hj)]
  have : g ≠ j := fun e => hne (by rw [e])
  simp [putRowK, putRow, mapBlock, Sort.ahead, Array.getElem?_modify, this]
theorem take_putCellsK (cur F : Array Value) (h : F.size ≤ cur.size) : (putCells id 0 F cur).toList.take F.size = F.toList := by
  apply List.ext_getElem?
  intro j
  by_cases hj : j < F.size
  · rw [List.getElem?_take_of_lt hj, Array.getElem?_toList]
    simp [putCells, hj, show j < cur.size by omega]
  · rw [List.getElem?_take_eq_none (by omega), List.getElem?_eq_none (by simp; omega)]
theorem ownsRow_sortedK {w : World} {base g cap n : Nat} {e : TypeId} {os : Array Obj} {cur : Array Value} (enc : α → List Value) (k : Nat) (h0 : 0 < k) (hk : ∀ x, (enc x).length = k) {ss ts : List α} (hl : ts.length = ss.length) (hbase : base ≤ g) (hb : w.heap[g]? = some (.cells cur e (0, 0)))
    (h1 : ss.length ≤ cap) (h2 : cap ≤ maxLen) (h3 : cur.size = cap * k) :
    (sortWorldK enc k w g 0 n ts.toArray os).ownsRow base e k (.slice (some ⟨g, 0, none⟩) ss.length cap) ss.length (ts.flatMap enc) := by
  have hm : ss.length * k ≤ cap * k := Nat.mul_le_mul_right _ h1
  refine ⟨by rw [fmk_len enc k hk, hl], .inr ⟨g, cap, _, rfl, hbase, heap_sortedK enc k _ hb, h1, h2, by simp [putCells, h3], ?_⟩⟩
  have hs : (flatK enc k ts.toArray).size = ss.length * k := by rw [size_flatK, List.size_toArray, hl]
  rw [← hs, take_putCellsK _ _ (by omega), flatK_list enc k h0 hk]
end
end Go.Proofs.Ytolbbhbfbpiljaa

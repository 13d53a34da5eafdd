/- Struct values built of parts that are not written out. No program in sight. -/
import Derived.Test.YtolbbhbfbpiljaaBase
import Derived.Great.FillDense
import Derived.Laws.CopyOwn
import Derived.Laws.Tables
namespace Go.Proofs.Ytolbbhbfbpiljaa
open Go.RowKit
set_option linter.unusedVariables false

theorem fill_nil {place : Nat → Option (Nat × Nat)} {cells : List Value} : Instr.fill place cells.toArray [] = some cells.toArray := rfl
theorem splice_get {α : Type} (L cs : List α) (off k : Nat) (h : off + cs.length ≤ L.length) : (splice L off cs)[k]? = if off ≤ k ∧ k < off + cs.length then cs[k - off]? else L[k]? := by
  unfold splice
  have hl : (L.take off).length = off := by rw [List.length_take]; omega
  by_cases h1 : k < off
  · rw [if_neg (by omega), List.getElem?_append_left (by omega), List.getElem?_take, if_pos h1]
  · rw [List.getElem?_append_right (by omega), hl]
    by_cases h2 : k - off < cs.length
    · rw [if_pos (by omega), List.getElem?_append_left h2]
    · rw [if_neg (by omega), List.getElem?_append_right (by omega), List.getElem?_drop]
      congr 1; omega
theorem fill_cons {place : Nat → Option (Nat × Nat)} {cells cs : List Value} {i off s : Nat} {v : Value} {rest : List (Nat × Value)} (hp : place i = some (off, s)) (hv : v.cells = cs.toArray) (hs : cs.length = s) (hle : off + s ≤ cells.length) :
    Instr.fill place cells.toArray ((i, v) :: rest) = Instr.fill place (splice cells off cs).toArray rest := by
  conv => lhs; unfold Instr.fill
  simp only [hp]
  have hsz : v.cells.size = s := by rw [hv]; simpa using hs
  rw [if_neg (by simp [hsz]; omega)]
  congr 1
  obtain ⟨h1, h2⟩ := Great.foldl_set off cs 0 cells.toArray
  have e : (v.cells.zipIdx.foldl (fun cs (x : Value × Nat) => cs.setIfInBounds (off + x.2) x.1) cells.toArray) = ((cs.zipIdx 0).foldl (fun cs (x : Value × Nat) => cs.setIfInBounds (off + x.2) x.1) cells.toArray) := by
    rw [hv, ← Array.foldl_toList, Array.toList_zipIdx]
  refine Eq.trans e ?_
  apply Array.ext_getElem?
  intro k
  rw [h2 k]
  simp only [Nat.add_zero, List.size_toArray, List.getElem?_toArray]
  rw [splice_get _ _ _ _ (by omega)]
  by_cases hk : off ≤ k ∧ k < off + cs.length
  · rw [if_pos ⟨hk.1, hk.2, by omega⟩, if_pos hk]
  · rw [if_neg (fun h => hk ⟨h.1, h.2.1⟩), if_neg hk]
theorem splice_mid {α : Type} {pre old post new : List α} {off : Nat} (h1 : pre.length = off) (h2 : old.length = new.length) : splice (pre ++ (old ++ post)) off new = pre ++ (new ++ post) := by
  unfold splice
  rw [← h1, List.take_left, ← h2, ← List.drop_drop, List.drop_left, List.drop_left]
section
variable {P : Program} {ops : Array Oper} {rest : List Oper} {o : Oper} {a : Act} {w : World} {Q : Exit → Act → World → Prop}
theorem exec_build {ev : Operand → Value} {t : TypeId} {parts : Array (Nat × Operand)} {cells : List Value} (ho : o.op = .build t parts) (h : P.built t (parts.toList.map fun (i, x) => (i, ev x)) = some cells.toArray) (w : World) :
    (execOp ev o).run P w = .ok (.value (.agg cells.toArray)) w := by
  unfold execOp
  simp only [ho, Sem.run_bind, run_build w t (parts.map fun (i, x) => (i, ev x)) _ (by rw [Array.toList_map]; exact h), Result.andThen_ok]
  rfl
theorem wpl_build (hgd : o.guard = none) {t : TypeId} {parts : Array (Nat × Operand)} (ho : o.op = .build t parts) {cells : List Value} (h : P.built t (parts.toList.map fun (i, x) => (i, a.eval x)) = some cells.toArray)
    (hk : wpList P ops Q rest (a.put o.dst (.agg cells.toArray)) w) : wpList P ops Q (o :: rest) a w := by
  refine wpList_plain hgd fun K hK => ?_
  unfold Oper.wp
  rw [exec_build ho h w]
  exact hK _ _ hk
end
end Go.Proofs.Ytolbbhbfbpiljaa

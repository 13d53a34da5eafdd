/- Whole structs in a walk inside a fence: laid, stored, loaded, put into a row. No program in sight. -/
import Derived.Test.YtolbbhbfbpiljaaBase
import Derived.Test.YtolbbhbfbpiljaaBuild
import Derived.OwnWalkIn
import Derived.Maps.OwnIn
namespace Go.Proofs.Ytolbbhbfbpiljaa
open Go.RowKit
set_option linter.unusedVariables false
section
variable {F : Fence} {n : Nat} {P : Program} {w : World} {ops : Array Oper} {rest : List Oper} {o : Oper} {a : Act} {Q : Exit → Act → World → Prop}
theorem wpi_run (hg : o.guard = none) (hc : ∀ c, o.op ≠ .call c) (hd : ∀ c, o.op ≠ .defer c) {r : Result Next} (hr : (execOp a.eval o).run P w = r) (h : ∀ K : Act → World → Prop, (∀ a w, wpListIn F n P ops Q rest a w → K a w) → o.uponIn F n P a K Q r) : wpListIn F n P ops Q (o :: rest) a w := by
  refine wpListIn_plain hg fun K hK => ?_
  unfold Oper.wpIn
  refine ⟨?_, ?_⟩
  · intro f hf
    unfold Oper.about at hf
    split at hf
    · rename_i c hcc; exact absurd hcc (hc c)
    · cases hf
  · rw [Oper.semAt_plain F _ _ hd, hr]; exact h K hK
theorem wpi_alloc (hgd : o.guard = none) {T : TypeId} (ho : o.op = .alloc T) {zs : List Value} (hz : (P.info? T).map (·.zero) = some (some (.agg zs.toArray)))
    (h : ∀ w', Blk w' w.heap.size T zs → w' = w.alloc (.cells zs.toArray T) → wpListIn F n P ops Q rest (a.put o.dst (.pointer (some ⟨w.heap.size, 0, none⟩))) w') : wpListIn F n P ops Q (o :: rest) a w := by
  obtain ⟨i, hi, hzz⟩ := Option.map_eq_some_iff.1 hz
  have hrun : (Instr.alloc T true (.tuple #[])).run P w = .ok (.pointer (some ⟨w.heap.size, 0, none⟩)) (w.alloc (.cells zs.toArray T)) := by
    simp [Instr.alloc, zeroValue, typeInfo, hi, hzz, newVar, newRow, Value.cells]
  refine wpi_run hgd (by rw [ho]; intro c e; cases e) (by rw [ho]; intro c e; cases e) (r := .ok (.value (.pointer (some ⟨w.heap.size, 0, none⟩))) (w.alloc (.cells zs.toArray T))) ?_ (fun K hK => hK _ _ (h _ (heap_alloc_new _ _) rfl))
  unfold execOp
  simp only [ho, Sem.run_bind, hrun, Result.andThen_ok, Sem.run_pure]
theorem wpi_storeb (hgd : o.guard = none) {T : TypeId} {x y : Operand} (ho : o.op = .store T x y) {m : Nat} (hT : RowT P T m) {g : Nat} {t : TypeId} {old cs : List Value} (hb : Blk w g t old) (hx : a.eval x = .pointer (some ⟨g, 0, none⟩)) (hy : a.eval y = .agg cs.toArray)
    (hol : old.length = m) (hn : cs.length = m) (h1 : ∀ u ∈ cs, u.oneCell' = true)
    (h : ∀ w', Blk w' g t cs → w.grownBy w' (some g) → w'.heap.size = w.heap.size → wpListIn F n P ops Q rest (a.put o.dst undef) w') : wpListIn F n P ops Q (o :: rest) a w := by
  have hk := h _ (setRow_heap w g _ _ t _ hb) ⟨rfl, rfl, rfl, by simp, fun k _ hk => setRow_other w g k _ (fun e => hk (by simp [e]))⟩ (by simp)
  refine wpListIn_plain hgd fun K hK => ?_
  unfold Oper.wpIn
  refine ⟨?_, ?_⟩
  · intro f hf
    simp only [Oper.about, ho] at hf
    cases hf
  · rw [Oper.semAt_plain F _ _ (by rw [ho]; intro c e; cases e)]
    unfold execOp
    simp only [ho, hx, hy, Sem.run_bind, run_storeb hT hb hol hn h1, Result.andThen_ok, Sem.run_pure]
    exact hK _ _ hk
theorem wpi_loadb (hgd : o.guard = none) {T : TypeId} {x : Operand} (ho : o.op = .load T x) {m : Nat} (hT : RowT P T m) {g : Nat} {t : TypeId} {cs : List Value} (hb : Blk w g t cs) (hx : a.eval x = .pointer (some ⟨g, 0, none⟩)) (hn : cs.length = m)
    (h : wpListIn F n P ops Q rest (a.put o.dst (.agg cs.toArray)) w) : wpListIn F n P ops Q (o :: rest) a w := by
  obtain ⟨d, hu, hd, hi⟩ := hT
  have hrun := run_loadVar_row (P := P) w g t T cs.toArray (0, 0) d hb hu (by revert hd; cases d <;> simp) (by rw [hi]; simp [hn])
  refine wpListIn_plain hgd fun K hK => ?_
  unfold Oper.wpIn
  refine ⟨?_, ?_⟩
  · intro f hf
    simp only [Oper.about, ho] at hf
    cases hf
  · rw [Oper.semAt_plain F _ _ (by rw [ho]; intro c e; cases e)]
    unfold execOp
    simp only [ho, hx, Instr.loadAt, Instr.sureAddr, Sem.run_bind, Sem.run_pure, Result.andThen_ok, hrun]
    exact hK _ _ h
theorem run_row1i {t e : TypeId} {sz bytes : Nat} (HE : ElemT P t e sz bytes) {ys : List Value} (hl : ys.length = sz) (h24 : sz ≤ 16777216) :
    (Instr.buildSlice t 1 #[(0, .agg ys.toArray)]).run P w = .ok (.slice (some ⟨w.heap.size, 0, none⟩) 1 1) (w.alloc (.cells ys.toArray e)) := by
  obtain ⟨i, z, hi, hz, hsz, hby, hzs, h0⟩ := HE.hi
  have h1 : ¬ (16777216 < i.size) := by omega
  have h2 : ¬ (i.size = 0) := by omega
  have hf : Instr.fill (fun k => some (k * i.size, i.size)) ((Array.range i.size).map fun k => z.cells[k % z.cells.size]!) [(0, .agg ys.toArray)] = some ys.toArray := by
    obtain ⟨cs, hcs⟩ : ∃ cs : List Value, cs = ((Array.range i.size).map fun k => z.cells[k % z.cells.size]!).toList := ⟨_, rfl⟩
    have e1 : ((Array.range i.size).map fun k => z.cells[k % z.cells.size]!) = cs.toArray := by rw [hcs]
    have hcl : cs.length = i.size := by rw [hcs]; simp
    rw [e1, fill_cons (off := 0) (s := i.size) (cs := ys) (by simp) rfl (by omega) (by omega), fill_nil]
    congr 2
    unfold splice
    rw [List.drop_of_length_le (by omega)]; simp
  simp [Instr.buildSlice, run_underlying HE.ht, sizeOf, typeInfo, zeroValue, hi, hz, h1, h2, hf, newRow]
theorem wpi_row1 (hgd : o.guard = none) {t : TypeId} {x : Operand} (ho : o.op = .buildSlice t 1 #[(0, x)]) {e : TypeId} {sz bytes : Nat} (HE : ElemT P t e sz bytes) {ys : List Value}
    (hx : a.eval x = .agg ys.toArray) (hl : ys.length = sz) (h24 : sz ≤ 16777216)
    (h : ∀ w', Blk w' w.heap.size e ys → w' = w.alloc (.cells ys.toArray e) → wpListIn F n P ops Q rest (a.put o.dst (.slice (some ⟨w.heap.size, 0, none⟩) 1 1)) w') : wpListIn F n P ops Q (o :: rest) a w := by
  have hr := run_row1i (P := P) (w := w) HE hl h24
  refine wpi_run hgd (by rw [ho]; intro c e; cases e) (by rw [ho]; intro c e; cases e) (r := .ok (.value (.slice (some ⟨w.heap.size, 0, none⟩) 1 1)) (w.alloc (.cells ys.toArray e))) ?_ (fun K hK => hK _ _ (h _ (heap_alloc_new _ _) rfl))
  unfold execOp
  simp only [ho, List.map_toArray, List.map_cons, List.map_nil, hx, Sem.run_bind, hr, Result.andThen_ok, Sem.run_pure]
end
theorem cell_row_new (w : World) (ys : List Value) (e : TypeId) : ∀ (j : Nat) (u : Value), ys[j]? = some u → (w.alloc (.cells ys.toArray e)).cell? ((⟨w.heap.size, 0, none⟩ : Addr).add j) = some u := by
  intro j u hj
  rw [Addr.add_lit, Nat.zero_add]
  have h : Blk (w.alloc (.cells ys.toArray e)) w.heap.size e ys := heap_alloc_new _ _
  exact h.at_ hj
end Go.Proofs.Ytolbbhbfbpiljaa

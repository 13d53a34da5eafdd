/- Words on rows of elements of more cells than one: copied into, appended to in place, cleared behind. No program in sight. -/
import Derived.Test.YtolbbhbfbpiljaaFlow
import Derived.Test.YtolbbhbfbpiljaaStop
import Derived.Test.YtolbbhbfbpiljaaBuild
import Derived.Test.YtolbbhbfbpiljaaWords
import Derived.Lib.SliceRun
import Derived.Lib.AppendZerosOnto
import Derived.Laws.CopyOwn
import Derived.Deep.CutBlock
namespace Go.Proofs.Ytolbbhbfbpiljaa
open Go.RowKit
set_option linter.unusedVariables false
set_option linter.unusedSimpArgs false
theorem wanted_none {o : Oper} {y : Nat → Option Bool} (h : o.guard = none) : Region.wanted o y = true := by unfold Region.wanted; rw [h]
/-- A block that holds n cells. -/
def At (w : World) (g : Nat) (T : TypeId) (n : Nat) (xs : List Value) : Prop := Blk w g T xs ∧ xs.length = n
theorem at_mk {w : World} {g : Nat} {T : TypeId} {n : Nat} {xs : List Value} (h : Blk w g T xs) (hn : xs.length = n) : At w g T n xs := ⟨h, hn⟩
theorem At.blk {w : World} {g : Nat} {T : TypeId} {n : Nat} {xs : List Value} (h : At w g T n xs) : Blk w g T xs := h.1
theorem At.len {w : World} {g : Nat} {T : TypeId} {n : Nat} {xs : List Value} (h : At w g T n xs) : xs.length = n := h.2
theorem At.grow {w w' : World} {g : Nat} {T : TypeId} {n : Nat} {xs : List Value} (h : At w g T n xs) (k : Grow w w') : At w' g T n xs := ⟨h.1.grow k, h.2⟩
theorem At.lt {w : World} {g : Nat} {T : TypeId} {n : Nat} {xs : List Value} (h : At w g T n xs) : g < w.heap.size := h.1.lt
theorem At.off {w w' : World} {g g2 : Nat} {T : TypeId} {n : Nat} {xs : List Value} (h : At w g T n xs) (k : w.grownBy w' (some g2)) (hne : g ≠ g2) : At w' g T n xs := ⟨h.1.grown k (by simpa using hne), h.2⟩
theorem var_grow {w w1 w2 : World} (h1 : Below w.heap.size w w1) (hz : w1.heap.size = w.heap.size + 1) (hg : w1.grownBy w2 (some w.heap.size)) : Grow w w2 :=
  h1.grown hg (by omega) (by intro g hg; cases hg; exact Nat.le_refl _)
theorem put_below {w0 w w2 : World} {g : Nat} (h : Below w0.heap.size w0 w) (hg : w0.heap.size ≤ g) (k : w.grownBy w2 (some g)) : Below w0.heap.size w0 w2 :=
  h.grown k h.size (by intro q hq; cases hq; exact hg)
/-- n cells, each one. -/
def Cl (n : Nat) (xs : List Value) : Prop := xs.length = n ∧ ∀ u ∈ xs, u.oneCell' = true
theorem Cl.len {n : Nat} {xs : List Value} (h : Cl n xs) : xs.length = n := h.1
theorem Cl.one {n : Nat} {xs : List Value} (h : Cl n xs) : ∀ u ∈ xs, u.oneCell' = true := h.2
theorem all_bytes (l : List UInt8) : ∀ v ∈ l.map B, v.oneCell' = true := fun v hv => by obtain ⟨x, _, rfl⟩ := List.mem_map.1 hv; rfl

section
variable {P : Program} {w : World} {base g n c i : Nat} {A : Option Addr} {e dT sT ty : TypeId} {sz bytes : Nat} {xs : List Value}
theorem own_take (h : w.ownsRow base e sz (.slice A n c) n xs) (hi : i ≤ n) : w.ownsRow base e sz (.slice A i c) i (xs.take (i * sz)) := by
  have hm : i * sz ≤ n * sz := Nat.mul_le_mul_right _ hi
  refine ⟨by rw [List.length_take, h.1]; omega, ?_⟩
  rcases h.2 with ⟨hv, h0⟩ | ⟨g, cap, cur, hv, hbg, hh, hcap, hm2, hs, ht⟩
  · injection hv with h1 h2 h3
    subst h1 h3
    obtain rfl : i = 0 := by omega
    exact .inl ⟨rfl, rfl⟩
  · injection hv with h1 h2 h3
    subst h1 h3
    refine .inr ⟨g, _, cur, rfl, hbg, hh, by omega, hm2, hs, ?_⟩
    rw [← ht, List.take_take, Nat.min_eq_left hm]
theorem own_room (h : w.ownsRow base e sz (.slice A n c) n xs) (hr : n + i ≤ c) : ∃ ys : List Value, ys.length = i * sz ∧ w.ownsRow base e sz (.slice A (n + i) c) (n + i) (xs ++ ys) := by
  rcases h.2 with ⟨hv, h0⟩ | ⟨g, cap, cur, hv, hbg, hh, hcap, hm2, hs, ht⟩
  · injection hv with h1 h2 h3
    subst h1 h3
    obtain rfl : n = 0 := h0
    obtain rfl : i = 0 := by omega
    exact ⟨[], by simp, by simpa using h⟩
  · injection hv with h1 h2 h3
    subst h1 h3
    have hx := h.1
    have hm : (n + i) * sz ≤ c * sz := Nat.mul_le_mul_right _ hr
    have hl : (cur.toList.take ((n + i) * sz)).length = (n + i) * sz := by rw [List.length_take, Array.length_toList, hs, Nat.min_eq_left hm]
    have e1 : cur.toList.take ((n + i) * sz) = xs ++ (cur.toList.drop (n * sz)).take (i * sz) := by rw [Nat.add_mul, List.take_add, ht]
    refine ⟨(cur.toList.drop (n * sz)).take (i * sz), ?_, ?_⟩
    · have := congrArg List.length e1
      rw [hl, List.length_append, hx, Nat.add_mul] at this
      omega
    · rw [← e1]
      exact ⟨hl, .inr ⟨g, _, cur, rfl, hbg, hh, hr, hm2, hs, rfl⟩⟩
/-- What a store over the cells from o on leaves. -/
theorem own_splice {cs : List Value} {o : Nat} {cur : Array Value} (hh : w.heap[g]? = some (.cells cur e (0, 0))) (hbg : base ≤ g) (hcap : n ≤ c) (hm2 : c ≤ maxLen) (hs : cur.size = c * sz) (ht : cur.toList.take (n * sz) = xs) (hx : xs.length = n * sz) (ho : o + cs.length ≤ n * sz) :
    (w.setRow g (cur.toList.take o ++ cs ++ cur.toList.drop (o + cs.length)).toArray).ownsRow base e sz (.slice (some ⟨g, 0, none⟩) n c) n (splice xs o cs) := by
  have hmul : n * sz ≤ c * sz := Nat.mul_le_mul_right _ hcap
  have e1 : (cur.toList.take o ++ cs ++ cur.toList.drop (o + cs.length)) = splice cur.toList o cs := by unfold splice; rw [List.append_assoc]
  have hl : (splice cur.toList o cs).length = c * sz := by rw [length_splice _ _ _ (by rw [Array.length_toList (xs := cur)]; omega), Array.length_toList, hs]
  refine ⟨by rw [length_splice _ _ _ (by omega), hx], .inr ⟨g, c, _, rfl, hbg, setRow_heap w g cur _ e _ hh, hcap, hm2, by rw [e1, List.size_toArray, hl], ?_⟩⟩
  rw [e1, List.toList_toArray]
  apply List.ext_getElem?
  intro k
  rw [List.getElem?_take, splice_get _ _ _ _ (by rw [Array.length_toList (xs := cur)]; omega), splice_get _ _ _ _ (by omega), ← ht]
  rw [List.getElem?_take]
  split
  · rfl
  · split
    · omega
    · rfl
/-- 'copy(dst, src)' into a row of the call's own. -/
theorem run_copy_own (HE : ElemT P dT e sz bytes) (h : w.ownsRow base e sz (.slice (some ⟨g, 0, none⟩) n c) n xs) {o dl dc sl sc k : Nat} {ad : Addr} {cs : List Value} (hk : Nat.min sl dl = k) (hcs : cs.length = k * sz) (ho : o + cs.length ≤ n * sz)
    (hsrc : ∀ j v, cs[j]? = some v → w.cell? (ad.add j) = some v) (h1 : ∀ v ∈ cs, v.oneCell' = true) :
    ∃ w', (Builtin.copy_ #[dT, sT] ty #[.slice (some ⟨g, o, none⟩) dl dc, .slice (some ad) sl sc]).run P w = .ok (goInt k) w' ∧ w'.ownsRow base e sz (.slice (some ⟨g, 0, none⟩) n c) n (splice xs o cs) ∧ w.grownBy w' (some g) ∧ w'.heap.size = w.heap.size := by
  obtain ⟨i, z, hi, hz, hsz, hby, hzs, h0⟩ := HE.hi
  rcases h.2 with ⟨hv, _⟩ | ⟨g', cap, cur, hv, hbg, hh, hcap, hm2, hs, ht⟩
  · cases hv
  · injection hv with hv1 hv2 hv3
    injection hv1 with hv1
    injection hv1 with hv1
    subst hv1 hv3
    have hl := run_loadCells_list (P := P) w ad cs hsrc
    have hmul : n * sz ≤ c * sz := Nat.mul_le_mul_right _ hcap
    have hst := run_storeCells_at P g o e cs 0 cur w hh (by simp; omega) h1
    simp only [Nat.add_zero] at hst
    refine ⟨_, ?_, own_splice hh hbg hcap hm2 hs ht h.1 ho, ⟨rfl, rfl, rfl, by simp, fun k _ hk => setRow_other w g k _ (fun e => hk (by simp [e]))⟩, by simp⟩
    subst hsz
    simp [Builtin.copy_, run_underlying HE.ht, Builtin.lenOf, Builtin.firstCells, sizeOf, typeInfo, hi, hk, ← hcs, hl, hst]
/-- 'append(s, src...)' where there is room. -/
theorem run_app_room (HE : ElemT P dT e sz bytes) (h : w.ownsRow base e sz (.slice (some ⟨g, 0, none⟩) n c) n xs) {m c2 : Nat} {ad : Addr} {cs : List Value} (hcs : cs.length = m * sz) (hr : n + m ≤ c)
    (hsrc : ∀ j v, cs[j]? = some v → w.cell? (ad.add j) = some v) (h1 : ∀ v ∈ cs, v.oneCell' = true) :
    ∃ w', (Builtin.append_ #[dT, dT] ty #[.slice (some ⟨g, 0, none⟩) n c, .slice (some ad) m c2]).run P w = .ok (.slice (some ⟨g, 0, none⟩) (n + m) c) w' ∧ w'.ownsRow base e sz (.slice (some ⟨g, 0, none⟩) (n + m) c) (n + m) (xs ++ cs) ∧ w.grownBy w' (some g) ∧ w'.heap.size = w.heap.size := by
  obtain ⟨i, z, hi, hz, hsz, hby, hzs, h0⟩ := HE.hi
  subst hsz
  rcases h.2 with ⟨hv, _⟩ | ⟨g', cap, cur, hv, hbg, hh, hcap, hm2, hs, ht⟩
  · cases hv
  · injection hv with hv1 hv2 hv3
    injection hv1 with hv1
    injection hv1 with hv1
    subst hv1 hv3
    have hmul : (n + m) * i.size ≤ c * i.size := Nat.mul_le_mul_right _ hr
    rw [Nat.add_mul] at hmul
    have hrun := run_append_room (P := P) w dT ty e i HE.ht hi g n c cur hh ad m c2 cs hcs hsrc h1 hr (by omega)
    refine ⟨_, hrun, ⟨by rw [List.length_append, h.1, hcs, Nat.add_mul], .inr ⟨g, c, _, rfl, hbg, setRow_heap w g cur _ e _ hh, hr, hm2, ?_, ?_⟩⟩, ⟨rfl, rfl, rfl, by simp, fun k _ hk => setRow_other w g k _ (fun e => hk (by simp [e]))⟩, by simp⟩
    · simp only [List.size_toArray, List.length_append, List.length_take, List.length_drop, Array.length_toList]
      omega
    · rw [ht, Nat.add_mul, ← h.1, ← hcs, List.toList_toArray, ← List.length_append]
      exact List.take_left
/-- 'clear(s[n:n+m])' behind a row's end. -/
theorem run_clear_own (HE : ElemT P dT e sz bytes) {zs : List Value} (hzz : (P.info? e).map (·.zero) = some (some (.agg zs.toArray))) (hz1 : ∀ v ∈ zs, v.oneCell' = true) (h : w.ownsRow base e sz (.slice (some ⟨g, 0, none⟩) n c) n xs) {m c2 : Nat} (hr : n + m ≤ c) :
    ∃ w', (Builtin.clear_ #[dT] ty #[.slice (some ⟨g, n * sz, none⟩) m c2]).run P w = .ok (.tuple #[]) w' ∧ w'.ownsRow base e sz (.slice (some ⟨g, 0, none⟩) n c) n xs ∧ w.grownBy w' (some g) ∧ w'.heap.size = w.heap.size := by
  obtain ⟨i, z, hi, hz, hsz, hby, hzs, h0⟩ := HE.hi
  have hza : z = .agg zs.toArray := by
    rw [hi] at hzz
    simp only [Option.map_some, Option.some.injEq, hz] at hzz
    exact hzz
  rcases h.2 with ⟨hv, _⟩ | ⟨g', cap, cur, hv, hbg, hh, hcap, hm2, hs, ht⟩
  · cases hv
  · injection hv with hv1 hv2 hv3
    injection hv1 with hv1
    injection hv1 with hv1
    subst hv1 hv3
    cases m with
    | zero => exact ⟨w, by simp [Builtin.clear_, run_underlying HE.ht], h, World.grownBy.refl w _, rfl⟩
    | succ m =>
      have hmul : (n + (m + 1)) * sz ≤ c * sz := Nat.mul_le_mul_right _ hr
      rw [Nat.add_mul] at hmul
      obtain ⟨ys, hys⟩ : ∃ ys, ys = (Builtin.zeroCells zs.toArray (m + 1)).toList := ⟨_, rfl⟩
      have hzl : zs.length = sz := by rw [hza] at hzs; simpa [Value.cells] using hzs
      have hyl : ys.length = (m + 1) * sz := by rw [hys]; simp [Builtin.zeroCells, hzl]
      have hy1 : ∀ v ∈ ys, v.oneCell' = true := by
        intro v hv
        rw [hys] at hv
        simp only [Builtin.zeroCells, Array.toList_map, Array.toList_range, List.mem_map, List.mem_range, List.size_toArray] at hv
        obtain ⟨q, hq, rfl⟩ := hv
        have hlt : q % zs.length < zs.length := Nat.mod_lt _ (by omega)
        have : zs.toArray[q % zs.length]! = zs[q % zs.length] := by simp [hlt]
        rw [this]
        exact hz1 _ (List.getElem_mem hlt)
      have hst := run_storeCells_at P g (n * sz) e ys 0 cur w hh (by simp; omega) hy1
      simp only [Nat.add_zero] at hst
      refine ⟨w.setRow g (cur.toList.take (n * sz) ++ ys ++ cur.toList.drop (n * sz + ys.length)).toArray, ?_, ⟨h.1, .inr ⟨g, c, _, rfl, hbg, setRow_heap w g cur _ e _ hh, hcap, hm2, ?_, ?_⟩⟩, ⟨rfl, rfl, rfl, by simp, fun k _ hk => setRow_other w g k _ (fun e => hk (by simp [e]))⟩, by simp⟩
      · have hzv : ∀ w, (zeroValue e).run P w = .ok (.agg zs.toArray) w := fun w => by simp [zeroValue, typeInfo, hi, hz, hza]
        simp [Builtin.clear_, run_underlying HE.ht, hzv, Value.cells, ← hys, hst]
      · simp only [List.size_toArray, List.length_append, List.length_take, List.length_drop, Array.length_toList]
        omega
      · rw [List.toList_toArray, List.append_assoc, List.take_append_of_le_length (by rw [List.length_take, Array.length_toList]; omega), List.take_take, Nat.min_self]
        exact ht
end
section
variable {P : Program} {ops : Array Oper} {rest : List Oper} {o : Oper} {a : Act} {w : World} {Q : Exit → Act → World → Prop}
theorem wpl_store1 (hgd : o.guard = none) {T : TypeId} {x y : Operand} (ho : o.op = .store T x y) {g i : Nat} {t : TypeId} {cs : List Value} {v : Value} (hb : Blk w g t cs) (hx : a.eval x = .pointer (some ⟨g, i, none⟩)) (hy : a.eval y = v)
    (hT : (P.info? T).map (·.size) = some 1) (hv : v.cells = #[v]) (h1 : v.oneCell' = true) (hi : i < cs.length)
    (h : ∀ w', Blk w' g t (cs.set i v) → w.grownBy w' (some g) → w'.heap.size = w.heap.size → wpList P ops Q rest (a.put o.dst undef) w') : wpList P ops Q (o :: rest) a w := by
  refine wpList_plain hgd fun K hK => ?_
  have hc := hb.at_ (List.getElem?_eq_getElem hi)
  have hf := hb.frozen i
  have hrun : (Instr.storeAt T (.pointer (some ⟨g, i, none⟩)) v).run P w = .ok () (w.setCell ⟨g, i, none⟩ v) := by
    obtain ⟨inf, hi2, hs⟩ := Option.map_eq_some_iff.1 hT
    have e0 : Addr.add ⟨g, i, none⟩ 0 = ⟨g, i, none⟩ := by rw [Addr.add_lit]; rfl
    have e1 : (store ⟨g, i, none⟩ v).run P w = .ok () (w.setCell ⟨g, i, none⟩ v) := by rw [run_store _ _ _ _ _ h1]; simp [stored, hc, hf]
    simp [Instr.storeAt, Instr.sureAddr, storeVar, sizeOf, typeInfo, hi2, hs, hv, storeCells, e0, e1]
  unfold Oper.wp execOp
  simp only [ho, hx, hy, Sem.run_bind, hrun, Result.andThen_ok, Sem.run_pure]
  exact hK _ _ (h _ (hb.set_ i v) (grown_set w g i v) (by simp))
end
theorem wpl_clear_run {P : Program} {w : World} {ops : Array Oper} {rest : List Oper} {o : Oper} {a : Act} {Q : Exit → Act → World → Prop} (hgd : o.guard = none) {d : Operand} {t : TypeId}
    (ho : o.op = .call { callee := .builtin .clear, args := #[d], argTypes := #[t] }) {v : Value} (hd : a.eval d = v) {v' : Value} {w' : World}
    (hr : (Builtin.clear_ #[t] o.type #[v]).run P w = .ok v' w') (h : wpList P ops Q rest (a.put o.dst v') w') : wpList P ops Q (o :: rest) a w := by
  refine wpList_plain hgd fun K hK => ?_
  unfold Oper.wp execOp
  simp only [ho, resolve, invoke, builtin, Sem.run_bind, Sem.run_pure, Result.andThen_ok, List.map_toArray, List.map_cons, List.map_nil, hd, hr]
  exact hK _ _ h
theorem wpl_copy_run {P : Program} {w : World} {ops : Array Oper} {rest : List Oper} {o : Oper} {a : Act} {Q : Exit → Act → World → Prop} (hgd : o.guard = none) {d s : Operand} {t t' : TypeId}
    (ho : o.op = .call { callee := .builtin .copy, args := #[d, s], argTypes := #[t, t'] }) {v u : Value} (hd : a.eval d = v) (hs : a.eval s = u) {v' : Value} {w' : World}
    (hr : (Builtin.copy_ #[t, t'] o.type #[v, u]).run P w = .ok v' w') (h : wpList P ops Q rest (a.put o.dst v') w') : wpList P ops Q (o :: rest) a w := by
  refine wpList_plain hgd fun K hK => ?_
  unfold Oper.wp execOp
  simp only [ho, resolve, invoke, builtin, Sem.run_bind, Sem.run_pure, Result.andThen_ok, List.map_toArray, List.map_cons, List.map_nil, hd, hs, hr]
  exact hK _ _ h
theorem own_of_block {w w' : World} {base n c : Nat} {A : Option Addr} {e : TypeId} {sz : Nat} {xs : List Value} (h : w.ownsRow base e sz (.slice A n c) n xs) (k : ∀ b, A.map Addr.block = some b → w'.heap[b]? = w.heap[b]?) : w'.ownsRow base e sz (.slice A n c) n xs := by
  refine ⟨h.1, ?_⟩
  rcases h.2 with h2 | ⟨g, cap, cur, hv, hg, hh, r⟩
  · exact .inl h2
  · refine .inr ⟨g, cap, cur, hv, hg, ?_, r⟩
    injection hv with hA
    rw [k g (by rw [hA]; rfl)]; exact hh
theorem run_row1 {P : Program} {w : World} {t e : TypeId} {sz bytes : Nat} (HE : ElemT P t e sz bytes) {ys : List Value} (hl : ys.length = sz) (h24 : sz ≤ 16777216) :
    (Instr.buildSlice t 1 #[(0, .agg ys.toArray)]).run P w = .ok (.slice (some ⟨w.heap.size, 0, none⟩) 1 1) (w.alloc (.cells ys.toArray e)) := by
  obtain ⟨i, z, hi, hz, hsz, hby, hzs, h0⟩ := HE.hi
  have h1 : ¬ (16777216 < i.size) := by omega
  have h2 : ¬ (i.size = 0) := by omega
  have hf : Instr.fill (fun k => some (k * i.size, i.size)) ((Array.range i.size).map fun k => z.cells[k % z.cells.size]!) [(0, .agg ys.toArray)] = some ys.toArray := by
    obtain ⟨cs, hcs⟩ : ∃ cs : List Value, cs = ((Array.range i.size).map fun k => z.cells[k % z.cells.size]!).toList := ⟨_, rfl⟩
    have e1 : ((Array.range i.size).map fun k => z.cells[k % z.cells.size]!) = cs.toArray := by rw [hcs]
    have hcl : cs.length = i.size := by rw [hcs]; simp
    rw [e1, fill_cons (off := 0) (s := i.size) (cs := ys) (by simp) rfl (by omega) (by omega), fill_nil]
    congr 2
    unfold splice
    rw [List.drop_of_length_le (by omega)]; simp
  simp [Instr.buildSlice, run_underlying HE.ht, sizeOf, typeInfo, zeroValue, hi, hz, h1, h2, hf, newRow]
theorem wpl_row1 {P : Program} {w : World} {ops : Array Oper} {rest : List Oper} {o : Oper} {a : Act} {Q : Exit → Act → World → Prop} (hgd : o.guard = none) {t : TypeId} {x : Operand} (ho : o.op = .buildSlice t 1 #[(0, x)]) {e : TypeId} {sz bytes : Nat} (HE : ElemT P t e sz bytes) {ys : List Value}
    (hx : a.eval x = .agg ys.toArray) (hl : ys.length = sz) (h24 : sz ≤ 16777216)
    (h : ∀ w', Blk w' w.heap.size e ys → Grow w w' → w'.heap.size = w.heap.size + 1 → wpList P ops Q rest (a.put o.dst (.slice (some ⟨w.heap.size, 0, none⟩) 1 1)) w') : wpList P ops Q (o :: rest) a w := by
  refine wpList_plain hgd fun K hK => ?_
  have hr := run_row1 (P := P) (w := w) HE hl h24
  obtain ⟨n1, n2, n3⟩ := alloc_new w ys.toArray e
  unfold Oper.wp execOp
  simp only [ho, List.map_toArray, List.map_cons, List.map_nil, hx, Sem.run_bind, hr, Result.andThen_ok, Sem.run_pure]
  exact hK _ _ (h _ n1 n2 n3)
end Go.Proofs.Ytolbbhbfbpiljaa

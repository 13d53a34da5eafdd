/- Whole structs in a walk inside a fence: laid, stored, loaded, put into a row. No program in sight. -/
import Derived.Test.YtolbbhbfbpiljaaLocksPlayB1
import Derived.Test.YtolbbhbfbpiljaaLocksPlayB5
import Derived.OwnWalkIn
import Derived.Maps.OwnIn
import Derived.RangeFuncBound
import Derived.RangeFuncGives
import Derived.Maps.AppendAt
import Derived.Shelf.Abstract
import Derived.Shelf.RegionOpen
set_option linter.unusedSimpArgs false
/- Whole structs in a walk inside a fence: laid, stored, loaded, put into a row. No program in sight. -/
namespace Go.Proofs.Ytolbbhbfbpiljaa
open Go.RowKit
set_option linter.unusedVariables false
section
variable {F : Fence} {n : Nat} {P : Program} {w : World} {ops : Array Oper} {rest : List Oper} {o : Oper} {a : Act} {Q : Exit → Act → World → Prop}
theorem wpi_run (hg : o.guard = none) (hc : ∀ c, o.op ≠ .call c) (hd : ∀ c, o.op ≠ .defer c) {r : Result Next} (hr : (execOp a.eval o).run P w = r) (h : ∀ K : Act → World → Prop, (∀ a w, wpListIn F n P ops Q rest a w → K a w) → o.uponIn F n P a K Q r) : wpListIn F n P ops Q (o :: rest) a w := by
  refine wpListIn_plain hg fun K hK => ?_
  unfold Oper.wpIn
  refine ⟨?_, ?_⟩
  · intro f hf
    unfold Oper.about at hf
    split at hf
    · rename_i c hcc; exact absurd hcc (hc c)
    · cases hf
  · rw [Oper.semAt_plain F _ _ hd, hr]; exact h K hK
theorem wpi_alloc (hgd : o.guard = none) {T : TypeId} (ho : o.op = .alloc T) {zs : List Value} (hz : (P.info? T).map (·.zero) = some (some (.agg zs.toArray)))
    (h : ∀ w', Blk w' w.heap.size T zs → w' = w.alloc (.cells zs.toArray T) → wpListIn F n P ops Q rest (a.put o.dst (.pointer (some ⟨w.heap.size, 0, none⟩))) w') : wpListIn F n P ops Q (o :: rest) a w := by
  obtain ⟨i, hi, hzz⟩ := Option.map_eq_some_iff.1 hz
  have hrun : (Instr.alloc T true (.tuple #[])).run P w = .ok (.pointer (some ⟨w.heap.size, 0, none⟩)) (w.alloc (.cells zs.toArray T)) := by
    simp [Instr.alloc, zeroValue, typeInfo, hi, hzz, newVar, newRow, Value.cells]
  refine wpi_run hgd (by rw [ho]; intro c e; cases e) (by rw [ho]; intro c e; cases e) (r := .ok (.value (.pointer (some ⟨w.heap.size, 0, none⟩))) (w.alloc (.cells zs.toArray T))) ?_ (fun K hK => hK _ _ (h _ (heap_alloc_new _ _) rfl))
  unfold execOp
  simp only [ho, Sem.run_bind, hrun, Result.andThen_ok, Sem.run_pure]
theorem wpi_storeb (hgd : o.guard = none) {T : TypeId} {x y : Operand} (ho : o.op = .store T x y) {m : Nat} (hT : RowT P T m) {g : Nat} {t : TypeId} {old cs : List Value} (hb : Blk w g t old) (hx : a.eval x = .pointer (some ⟨g, 0, none⟩)) (hy : a.eval y = .agg cs.toArray)
    (hol : old.length = m) (hn : cs.length = m) (h1 : ∀ u ∈ cs, u.oneCell' = true)
    (h : ∀ w', Blk w' g t cs → w.grownBy w' (some g) → w'.heap.size = w.heap.size → wpListIn F n P ops Q rest (a.put o.dst undef) w') : wpListIn F n P ops Q (o :: rest) a w := by
  have hk := h _ (setRow_heap w g _ _ t _ hb) ⟨rfl, rfl, rfl, by simp, fun k _ hk => setRow_other w g k _ (fun e => hk (by simp [e]))⟩ (by simp)
  refine wpListIn_plain hgd fun K hK => ?_
  unfold Oper.wpIn
  refine ⟨?_, ?_⟩
  · intro f hf
    simp only [Oper.about, ho] at hf
    cases hf
  · rw [Oper.semAt_plain F _ _ (by rw [ho]; intro c e; cases e)]
    unfold execOp
    simp only [ho, hx, hy, Sem.run_bind, run_storeb hT hb hol hn h1, Result.andThen_ok, Sem.run_pure]
    exact hK _ _ hk
theorem wpi_loadb (hgd : o.guard = none) {T : TypeId} {x : Operand} (ho : o.op = .load T x) {m : Nat} (hT : RowT P T m) {g : Nat} {t : TypeId} {cs : List Value} (hb : Blk w g t cs) (hx : a.eval x = .pointer (some ⟨g, 0, none⟩)) (hn : cs.length = m)
    (h : wpListIn F n P ops Q rest (a.put o.dst (.agg cs.toArray)) w) : wpListIn F n P ops Q (o :: rest) a w := by
  obtain ⟨d, hu, hd, hi⟩ := hT
  have hrun := run_loadVar_row (P := P) w g t T cs.toArray (0, 0) d hb hu (by revert hd; cases d <;> simp) (by rw [hi]; simp [hn])
  refine wpListIn_plain hgd fun K hK => ?_
  unfold Oper.wpIn
  refine ⟨?_, ?_⟩
  · intro f hf
    simp only [Oper.about, ho] at hf
    cases hf
  · rw [Oper.semAt_plain F _ _ (by rw [ho]; intro c e; cases e)]
    unfold execOp
    simp only [ho, hx, Instr.loadAt, Instr.sureAddr, Sem.run_bind, Sem.run_pure, Result.andThen_ok, hrun]
    exact hK _ _ h
theorem run_row1i {t e : TypeId} {sz bytes : Nat} (HE : ElemT P t e sz bytes) {ys : List Value} (hl : ys.length = sz) (h24 : sz ≤ 16777216) :
    (Instr.buildSlice t 1 #[(0, .agg ys.toArray)]).run P w = .ok (.slice (some ⟨w.heap.size, 0, none⟩) 1 1) (w.alloc (.cells ys.toArray e)) := by
  obtain ⟨i, z, hi, hz, hsz, hby, hzs, h0⟩ := HE.hi
  have h1 : ¬ (16777216 < i.size) := by omega
  have h2 : ¬ (i.size = 0) := by omega
  have hf : Instr.fill (fun k => some (k * i.size, i.size)) ((Array.range i.size).map fun k => z.cells[k % z.cells.size]!) [(0, .agg ys.toArray)] = some ys.toArray := by
    obtain ⟨cs, hcs⟩ : ∃ cs : List Value, cs = ((Array.range i.size).map fun k => z.cells[k % z.cells.size]!).toList := ⟨_, rfl⟩
    have e1 : ((Array.range i.size).map fun k => z.cells[k % z.cells.size]!) = cs.toArray := by rw [hcs]
    have hcl : cs.length = i.size := by rw [hcs]; simp
    rw [e1, fill_cons (off := 0) (s := i.size) (cs := ys) (by simp) rfl (by omega) (by omega), fill_nil]
    congr 2
    unfold splice
    rw [List.drop_of_length_le (by omega)]; simp
  simp [Instr.buildSlice, run_underlying HE.ht, sizeOf, typeInfo, zeroValue, hi, hz, h1, h2, hf, newRow]
theorem wpi_row1 (hgd : o.guard = none) {t : TypeId} {x : Operand} (ho : o.op = .buildSlice t 1 #[(0, x)]) {e : TypeId} {sz bytes : Nat} (HE : ElemT P t e sz bytes) {ys : List Value}
    (hx : a.eval x = .agg ys.toArray) (hl : ys.length = sz) (h24 : sz ≤ 16777216)
    (h : ∀ w', Blk w' w.heap.size e ys → w' = w.alloc (.cells ys.toArray e) → wpListIn F n P ops Q rest (a.put o.dst (.slice (some ⟨w.heap.size, 0, none⟩) 1 1)) w') : wpListIn F n P ops Q (o :: rest) a w := by
  have hr := run_row1i (P := P) (w := w) HE hl h24
  refine wpi_run hgd (by rw [ho]; intro c e; cases e) (by rw [ho]; intro c e; cases e) (r := .ok (.value (.slice (some ⟨w.heap.size, 0, none⟩) 1 1)) (w.alloc (.cells ys.toArray e))) ?_ (fun K hK => hK _ _ (h _ (heap_alloc_new _ _) rfl))
  unfold execOp
  simp only [ho, List.map_toArray, List.map_cons, List.map_nil, hx, Sem.run_bind, hr, Result.andThen_ok, Sem.run_pure]
end
theorem cell_row_new (w : World) (ys : List Value) (e : TypeId) : ∀ (j : Nat) (u : Value), ys[j]? = some u → (w.alloc (.cells ys.toArray e)).cell? ((⟨w.heap.size, 0, none⟩ : Addr).add j) = some u := by
  intro j u hj
  rw [Addr.add_lit, Nat.zero_add]
  have h : Blk (w.alloc (.cells ys.toArray e)) w.heap.size e ys := heap_alloc_new _ _
  exact h.at_ hj
end Go.Proofs.Ytolbbhbfbpiljaa

/- slices.AppendSeq(nil, seq), slices.Collect(seq) of outputs, against whatever iterator value. -/
namespace Go.Proofs.Ytolbbhbfbpiljaa
open Go.RowKit Go.Maps Go.Sort Go.Shelf
set_option linter.unusedVariables false
def encPV (p : PtS) : Value := .agg (encPt p).toArray
theorem encPV_inj {p q : PtS} (h : encPV p = encPV q) : p = q := encPt_inj (by unfold encPV at h; injection h with h; exact congrArg Array.toList h)
/-- The range over a function in a body: its assignment, its body. -/
def rfOf : Code → Option (Code × Code)
  | .rangeFunc _ _ a c => some (a, c)
  | .seq a b => match rfOf a with
    | some x => some x
    | none => rfOf b
  | .cond _ a b => match rfOf a with
    | some x => some x
    | none => rfOf b
  | .block _ a => rfOf a
  | .loop a => rfOf a
  | .scope a => rfOf a
  | _ => none
noncomputable def apAs : Code := (((Try.f124.body.map rfOf).getD none).getD (.skip, .skip)).1
noncomputable def apBd : Code := (((Try.f124.body.map rfOf).getD none).getD (.skip, .skip)).2
noncomputable def apRec (fn : FuncId) (sv : Value) (Bs D : Nat) (st : LoopState) (pend : Option Code) : Loop :=
  { state := st, pending := pend, fn, tmps := #[.slice none 0 0, sv, .pointer (some ⟨Bs, 0, none⟩), undef, .slice none 0 0, undef, sv, undef, undef, undef, undef, undef, undef], params := #[7], assign := apAs, body := apBd, defers := D }
structure ApAt (w0 : World) (fn : FuncId) (sv : Value) (Bs l D : Nat) (ss : List PtS) (W : World) : Prop where
  box : ∃ v, W.heap[Bs]? = some (.cells #[v] 56 (0, 0)) ∧ W.ownsRow w0.heap.size 52 33 v ss.length (ss.flatMap encPt) ∧ (v = .slice none 0 0 ↔ ss = [])
  L : W.heap[l]? = some (.loop (apRec fn sv Bs D .ready none))
  K : W.heap[D]? = some (.deferred (some []))
  below : Below w0.heap.size w0 W
theorem ap_abides (w0 : World) (fn : FuncId) (sv : Value) (Bs l D B : Nat) (hB : w0.heap.size ≤ B) : AbidesFrom B (ApAt w0 fn sv Bs l D) := fun s W W' row h hg hrow => by
  have hrow' : ∀ r, row = some r → ∃ o : Obj, W.heap[r]? = some o ∧ o.isWalk = true := fun r e => (hrow r e).2
  obtain ⟨v, hv, hr, hn⟩ := h.box
  exact ⟨⟨v, (grownBy_keeps hg hrow' hv rfl).trans hv, ownsRow_abides_a hr hg hrow', hn⟩, (grownBy_keeps hg hrow' h.L rfl).trans h.L, (grownBy_keeps hg hrow' h.K rfl).trans h.K,
    h.below.grown hg h.below.size (fun k e => Nat.le_trans hB (hrow k e).1)⟩
theorem info_pt2 : ∃ i z, Try.prog.info? 52 = some i ∧ i.zero = some z ∧ i.size = 33 ∧ i.bytes = 40 ∧ z.cells.size = 33 ∧ 0 < 33 := el_pt.hi
theorem zero_pt : (Try.prog.info? 52).map (·.zero) = some (some (.agg (ptV (pt 0)).toArray)) := by kernel_rfl
theorem grownBy_up {a b : World} {r : Option Nat} (h : a.grownBy b none) : a.grownBy b r := ⟨h.os, h.tape, h.output, h.size, fun k hk _ => h.block k hk (by simp)⟩
theorem grownBy_trans0 {a b c : World} {r : Option Nat} (h : a.grownBy b r) (k : b.grownBy c r) : a.grownBy c r :=
  ⟨k.os.trans h.os, k.tape.trans h.tape, k.output.trans h.output, Nat.le_trans h.size k.size, fun i hi hn => (k.block i (Nat.lt_of_lt_of_le hi h.size) hn).trans (h.block i hi hn)⟩
theorem own_new {W w' : World} {base : Nat} {e : TypeId} {size : Nat} {v : Value} {k : Nat} {xs : List Value} {q : Nat} (h : W.ownsRow base e size v k xs) (hg : W.grownBy w' (some q)) (hq : W.heap.size ≤ q) : w'.ownsRow base e size v k xs :=
  h.kept hg (by
    rcases h.2 with ⟨rfl, _⟩ | ⟨g, cap, cur, rfl, _, hgb, _⟩
    · exact .inl rfl
    · refine .inr fun e' => ?_
      have : g = q := by simpa [Value.ownBlock] using e'
      have := (Array.getElem?_eq_some_iff.1 hgb).1
      omega)
set_option maxRecDepth 100000 in
set_option maxHeartbeats 4000000 in
theorem ap_yield (F : Fence) (m : Nat) (w0 : World) (fn : FuncId) (hfn : F.fn fn) (sv : Value) (Bs l D : Nat) (hBl : Bs ≠ l) (hDl : D ≠ l) (hDB : D ≠ Bs) (h0B : w0.heap.size ≤ Bs) (h0l : w0.heap.size ≤ l)
    (N : Nat) (hN : N ≤ 1000000) (ss : List PtS) (x : PtS) (W : World) (h : ApAt w0 fn sv Bs l D ss W) (hlen : ss.length < N) :
    YieldAt F m Try.prog l #[encPV x] W fun e W' => e = .returned (.bool true) ∧ ApAt w0 fn sv Bs l D (ss ++ [x]) W' ∧ KeepsWalks W W' := by
  have hne : (56 : Nat) ≠ 52 := by decide
  obtain ⟨i0, z, hi, hz0, hz1, hz2, hz3, _⟩ := info_pt2
  obtain ⟨v, hv, hrow, _⟩ := h.box
  have hml : (1000000 : Nat) ≤ maxLen := by decide
  refine ⟨fn, #[.slice none 0 0, sv, .pointer (some ⟨Bs, 0, none⟩), undef, .slice none 0 0, undef, sv, encPV x, undef, undef, undef, undef, undef], apAs, apBd, by simpa [apRec] using run_yield (P := Try.prog) (args := #[encPV x]) h.L rfl, roundIn_of_wpIn hfn ?_⟩
  have HX := Lib.hid (encPt_len x); have HX1 := Lib.hid (encPt_one x)
  unfold encPV
  obtain ⟨xs, hxs⟩ : ∃ xs, xs = encPt x := ⟨_, rfl⟩
  have HXE := Lib.hid hxs
  rw [← hxs] at HX HX1 ⊢
  have HH := Lib.hid h; have HROW := Lib.hid hrow; have HVV := Lib.hid hv
  have HZP := Lib.hid (ptV_length (pt_ok 0 (by decide)).1)
  clear hxs h hrow hv
  conv => arg 4; whnf
  gi_wp2_with (first | (with_reducible refine wpi_alloc (o := ⟨some 5, _, _, _, _, _⟩) rfl rfl zero_pt ?_) | gi_round_op_a)
  intro V1 hb1 hV1
  have hg1 : W.grownBy V1 none := by rw [hV1]; exact World.grownBy_alloc W _ none
  have hkw1 : KeepsWalks W V1 := by rw [hV1]; exact KeepsWalks.alloc _ _
  have HB1 := Lib.hid hb1
  obtain ⟨gv, hgv⟩ : ∃ g, g = W.heap.size := ⟨_, rfl⟩
  rw [← hgv] at HB1 ⊢
  have HGV := Lib.hid hgv
  clear hb1 hV1 hgv
  gi_wp2_with (first | (with_reducible refine wpi_storeb (o := ⟨none, .store _ _ _, _, _, _, _⟩) rfl rfl row_point HB1.out rfl rfl HZP.out HX.out HX1.out ?_) | gi_round_op_a)
  intro V2 hb2 hg2 hsz2
  have HB2 := Lib.hid hb2
  have hgW2 : W.grownBy V2 (some W.heap.size) := by rw [← HGV.out]; exact grownBy_trans0 (grownBy_up hg1) hg2
  have hkw2 : KeepsWalks W V2 := hkw1.trans (KeepsWalks.of_grownBy hg2 (fun j o hj ho => by cases hj; rw [HB1.out] at ho; cases ho; rfl))
  clear hb2 hg2 hsz2 hg1 hkw1 HB1
  -- the world behind the assignment: all as it was
  have hold : ∀ {k : Nat} {o : Obj}, W.heap[k]? = some o → V2.heap[k]? = some o := fun {k o} hk => (hgW2.block k (Array.getElem?_eq_some_iff.1 hk).1 (fun e => by injection e with e; have := (Array.getElem?_eq_some_iff.1 hk).1; omega)).trans hk
  have hL0 : V2.heap[l]? = some (.loop (apRec fn sv Bs D .ready none)) := hold HH.out.L
  have hv0 : V2.heap[Bs]? = some (.cells #[v] 56 (0, 0)) := hold HVV.out
  have hK0 : V2.heap[D]? = some (.deferred (some [])) := hold HH.out.K
  have hrow0 : V2.ownsRow w0.heap.size 52 33 v ss.length (ss.flatMap encPt) := own_new HROW.out hgW2 (Nat.le_refl _)
  have hb0 : Below w0.heap.size w0 V2 := HH.out.below.grown hgW2 HH.out.below.size (fun k e => by cases e; exact HH.out.below.size)
  have hl : l < V2.heap.size := (Array.getElem?_eq_some_iff.1 hL0).1
  have hgl : gv ≠ l := fun e => by rw [← e, HB2.out] at hL0; cases hL0
  have hgB : gv ≠ Bs := fun e => by rw [← e, HB2.out] at hv0; injection hv0 with h1; injection h1 with _ h2; exact hne h2.symm
  have hbr := run_beginRound (P := Try.prog) hL0 rfl
  obtain ⟨W2, hW2⟩ : ∃ W2, V2.putObj l (.loop { apRec fn sv Bs D .ready none with state := .busy }) = W2 := ⟨_, rfl⟩
  rw [hW2] at hbr
  have hg2 : V2.grownBy W2 (some l) := by rw [← hW2]; exact grownBy_putObj_a _ _ _
  have hk2 : KeepsWalks V2 W2 := by rw [← hW2]; exact KeepsWalks.putObj _ hL0 rfl
  have hv2 : W2.heap[Bs]? = some (.cells #[v] 56 (0, 0)) := by rw [← hW2]; exact (World.putObj_heap_other hBl).trans hv0
  have hK2 : W2.heap[D]? = some (.deferred (some [])) := by rw [← hW2]; exact (World.putObj_heap_other hDl).trans hK0
  have hL2 : W2.heap[l]? = some (.loop { apRec fn sv Bs D .ready none with state := .busy }) := by rw [← hW2]; exact World.putObj_heap_same hl
  have hrow2 : W2.ownsRow w0.heap.size 52 33 v ss.length (ss.flatMap encPt) := hrow0.kept hg2 (ownsRow_ne_a hrow0 hL0 (fun cur e => by cases e))
  have hb2 : Below w0.heap.size w0 W2 := hb0.grown hg2 hb0.size (fun k e => by cases e; exact h0l)
  have HBV := Lib.hid (show Blk W2 gv 52 xs from HB2.out.grown hg2 (fun e => hgl (Option.some.inj e)))
  have hkW2 : KeepsWalks W W2 := hkw2.trans hk2
  obtain ⟨hc2, hf2⟩ := cell_of_box_a hv2
  have hBlt : Bs < W2.heap.size := (Array.getElem?_eq_some_iff.1 hv2).1
  have hl2 : l < W2.heap.size := (Array.getElem?_eq_some_iff.1 hL2).1
  have hDlt : D < W2.heap.size := (Array.getElem?_eq_some_iff.1 hK2).1
  have HV2 := Lib.hid hv2; have HK2 := Lib.hid hK2; have HL2 := Lib.hid hL2; have HR2 := Lib.hid hrow2; have HBB := Lib.hid hb2; have HKW := Lib.hid hkW2; have HLT := Lib.hid (show Bs < W2.heap.size ∧ l < W2.heap.size ∧ D < W2.heap.size from ⟨hBlt, hl2, hDlt⟩)
  have HNE := Lib.hid (show ∀ (j : Nat) (o : Obj), W2.heap[j]? = some o → (∀ cur, o ≠ .cells cur 52 (0, 0)) → some j ≠ v.ownBlock from fun j o hj hno => by
    rcases ownsRow_ne_a hrow2 hj hno with e | e
    · rw [e]; simp
    · exact fun e' => e e'.symm)
  have HHI := Lib.hid hi; have HHZ := Lib.hid hz0; have HZ1 := Lib.hid hz1; have HZ2 := Lib.hid hz2; have HZ3 := Lib.hid hz3
  have HNEQ := Lib.hid hne
  clear hW2 hold hL0 hv0 hK0 hrow0 hb0 hl hg2 hk2 hv2 hK2 hL2 hrow2 hb2 hkw2 hgW2 HB2 hkW2 hBlt hl2 hDlt hi hz0 hz1 hz2 hz3 hne hgl hgB HVV HROW
  gi_wp2
  clear hbr
  conv => arg 4; whnf
  gi_wp2_with (first | (with_reducible refine wpi_loadb (o := ⟨some 9, _, _, _, _, _⟩) rfl rfl row_point HBV.out rfl HX.out ?_) | (refine wpi_row1 (o := ⟨some 10, .buildSlice _ _ _, _, _, _, _⟩) rfl rfl el_pt (by first | rfl | (go_simp; done)) HX.out (by omega) ?_) | gi_round_op_a)
  intro W3 hb3 hW3
  have HW3 := Lib.hid hW3
  have hsrc : ∀ (j : Nat) (u : Value), xs[j]? = some u → W3.cell? ((⟨W2.heap.size, 0, none⟩ : Addr).add j) = some u := by rw [hW3]; exact cell_row_new W2 xs 52
  have hrow3 : W3.ownsRow w0.heap.size 52 33 v ss.length (ss.flatMap encPt) := by rw [hW3]; exact HR2.out.alloc _
  have hw3s : W3.heap.size = W2.heap.size + 1 := by rw [hW3]; simp
  have hlow3 : ∀ k, k < W2.heap.size → W3.heap[k]? = W2.heap[k]? := fun k hk => by rw [hW3]; exact Below.heap_alloc _ _ k hk
  have hkw3 : KeepsWalks W2 W3 := by rw [hW3]; exact KeepsWalks.alloc _ _
  have hb30 : Below w0.heap.size w0 W3 := by rw [hW3]; exact HBB.out.alloc HBB.out.size _
  have HSRC := Lib.hid hsrc; have HR3 := Lib.hid hrow3; have HB3 := Lib.hid hb30; have HLOW3 := Lib.hid hlow3; have HKW3 := Lib.hid hkw3; have HS3 := Lib.hid hw3s
  generalize hgx : W2.heap.size = gx at HSRC HLOW3 HS3 ⊢
  have HGX := Lib.hid hgx
  clear hb3 hW3 hsrc hrow3 hb30 hlow3 hkw3 hw3s hgx
  gi_wp2_with (first
    | (gi_at_builtin; refine wpListIn_append_own _ rfl _ _ 56 rfl w0.heap.size 52 i0 z 33 40 Try.underlying56 HHI.out HHZ.out HZ1.out HZ2.out HZ3.out (by decide) v ss.length (ss.flatMap encPt) rfl HR3.out ⟨gx, 0, none⟩ 1 1 xs rfl (by rw [HX.out]) HSRC.out HX1.out (by omega) (by omega) HB3.out.size ?_
       intro v' w3 hown' hg3 hnil3
       have hv3 : w3.heap[Bs]? = some (.cells #[v] 56 (0, 0)) := (hg3.block Bs (by have := HLT.out.1; have := HS3.out; have := HGX.out; omega) (HNE.out _ _ HV2.out (fun cur e => by injection e with _ e2; exact HNEQ.out e2))).trans ((HLOW3.out Bs (by have := HLT.out.1; have := HGX.out; omega)).trans HV2.out)
       obtain ⟨hc3, hf3⟩ := cell_of_box_a hv3
       obtain ⟨g', cap', cur', rfl, hbase', hgb', hr1, hr2, hr3, hr4⟩ : ∃ g' cap' cur', v' = .slice (some ⟨g', 0, none⟩) (ss.length + 1) cap' ∧ w0.heap.size ≤ g' ∧ w3.heap[g']? = some (.cells cur' 52 (0, 0)) ∧ ss.length + 1 ≤ cap' ∧ cap' ≤ maxLen ∧ cur'.size = cap' * 33 ∧ cur'.toList.take ((ss.length + 1) * 33) = ss.flatMap encPt ++ xs := by
         rcases hown'.2 with ⟨_, h0⟩ | h'
         · exact absurd h0 (by omega)
         · exact h'
       go_frame)
    | gi_round_op_a)
  have hg3' : W3.grownBy w3 v.ownBlock := hg3
  have hL3 : w3.heap[l]? = some (.loop { apRec fn sv Bs D .ready none with state := .busy }) := (hg3'.block l (by have := HLT.out.2.1; have := HS3.out; have := HGX.out; omega) (HNE.out _ _ HL2.out (fun cur e => by cases e))).trans ((HLOW3.out l (by have := HLT.out.2.1; have := HGX.out; omega)).trans HL2.out)
  have hK3 : w3.heap[D]? = some (.deferred (some [])) := (hg3'.block D (by have := HLT.out.2.2; have := HS3.out; have := HGX.out; omega) (HNE.out _ _ HK2.out (fun cur e => by cases e))).trans ((HLOW3.out D (by have := HLT.out.2.2; have := HGX.out; omega)).trans HK2.out)
  obtain ⟨w4, hw4⟩ : ∃ w4, w3.setCell ⟨Bs, 0, none⟩ (.slice (some ⟨g', 0, none⟩) (ss.length + 1) cap') = w4 := ⟨_, rfl⟩
  rw [hw4]
  have hg4 : w3.grownBy w4 (some Bs) := by rw [← hw4]; exact grownBy_setCell0_a _ _ _
  have hv4 : w4.heap[Bs]? = some (.cells #[.slice (some ⟨g', 0, none⟩) (ss.length + 1) cap'] 56 (0, 0)) := by rw [← hw4]; exact heap_setCell_box_a _ hv3
  have hL4 : w4.heap[l]? = some (.loop { apRec fn sv Bs D .ready none with state := .busy }) := (hg4.block l (Array.getElem?_eq_some_iff.1 hL3).1 (fun e => hBl (by cases e; rfl))).trans hL3
  have hK4 : w4.heap[D]? = some (.deferred (some [])) := (hg4.block D (Array.getElem?_eq_some_iff.1 hK3).1 (fun e => hDB (by cases e; rfl))).trans hK3
  have hrow4 := hown'.kept hg4 (ownsRow_ne_a hown' hv3 (fun cur e => by injection e with _ e2; exact HNEQ.out e2))
  have hl4 : l < w4.heap.size := (Array.getElem?_eq_some_iff.1 hL4).1
  have hb3 : Below w0.heap.size w0 w3 := HB3.out.grown hg3' HB3.out.size (fun k e => (HR3.out.lt k e).1)
  have hb4 : Below w0.heap.size w0 w4 := hb3.grown hg4 hb3.size (fun k e => by cases e; exact h0B)
  have hk4 : KeepsWalks W w4 := ((HKW.out.trans HKW3.out).trans (KeepsWalks.of_grownBy hg3' (ownsRow_not_walk_a HR3.out))).trans (by rw [← hw4]; exact KeepsWalks.setCell _ _ _)
  clear hw4
  refine ⟨_, _, run_endRound none hL4, rfl, ⟨⟨_, (World.putObj_heap_other hBl).trans hv4, ?_, by simp⟩, World.putObj_heap_same hl4, (World.putObj_heap_other hDl).trans hK4, hb4.grown (grownBy_putObj_a _ _ _) hb4.size (fun k e => by cases e; exact h0l)⟩, hk4.trans (KeepsWalks.putObj _ hL4 rfl)⟩
  have := hrow4.kept (grownBy_putObj_a w4 l (.loop { { apRec fn sv Bs D .ready none with state := .busy } with state := if (none : Option Code).isNone then .ready else .done, pending := none })) (ownsRow_ne_a hrow4 hL4 (fun cur e => by cases e))
  rw [HXE.out] at this
  simpa using this
set_option maxRecDepth 100000 in
set_option maxHeartbeats 2000000 in
theorem ap_in (F : Fence) (n : Nat) (h11 : F.fn 124) (hro : F.round = none) (hn : 2 ≤ n) (g : Nat) (lb : Array Value) (hFg : F.fn g) (eg : ∀ args w, (callFunc g args).run Try.prog w = .ok (.enter g args) w)
    (S : List PtS → Prop) (N : Nat) (hN : N ≤ 1000000) (w : World) (hseq : SeqGives F (n - 1) Try.prog g lb encPV S N w) :
    CallsIn F n Try.prog 124 #[.slice none 0 0, .func (.func g) #[] lb] w fun e w' => ∃ (v : Value) (ss : List PtS), e = .returned v ∧ S ss ∧ w'.ownsRow w.heap.size 52 33 v ss.length (ss.flatMap encPt) ∧ (v = .slice none 0 0 ↔ ss = []) ∧ Below w.heap.size w w' := by
  have h1 : 1 ≤ n := by omega
  refine callsIn_of_wp_marks Try.func124 rfl h11 ?_ hro
  simp only [Try.ntmps124, List.size_toArray, List.length_cons, List.length_nil, Nat.reduceAdd, Nat.reduceSub, Array.replicate_succ, Array.replicate_zero, List.push_toArray, List.append_toArray, List.nil_append, List.cons_append]
  gi_wp2
  refine wpIn_rangeFunc ?_
  intro fn hfn
  rw [hro]
  obtain ⟨W0, hW0⟩ : ∃ W0, w.alloc (.cells #[.slice none 0 0] 56) = W0 := ⟨_, rfl⟩
  have hs0 : W0.heap.size = w.heap.size + 1 := by rw [← hW0]; simp
  have hv0 : W0.heap[w.heap.size]? = some (.cells #[.slice none 0 0] 56 (0, 0)) := by rw [← hW0]; exact World.alloc_heap_new w _
  have hb0 : Below w.heap.size w W0 := by rw [← hW0]; exact (Below.refl _ w).alloc (Nat.le_refl _) _
  rw [hW0]
  obtain ⟨W1, hW1⟩ : ∃ W1, (W0.alloc (.deferred (some []))).alloc (.loop (apRec fn (.func (.func g) #[] lb) w.heap.size W0.heap.size .ready none)) = W1 := ⟨_, rfl⟩
  have hold : ∀ k, k < W0.heap.size → W1.heap[k]? = W0.heap[k]? := fun k hk => by
    rw [← hW1]; exact (Below.heap_alloc _ _ k (by simp; omega)).trans (Below.heap_alloc _ _ k hk)
  have hb1 : Below w.heap.size w W1 := by rw [← hW1]; exact (hb0.alloc hb0.size _).alloc (by have := hb0.size; simp; omega) _
  have hs1 : W1.heap.size = W0.heap.size + 2 := by rw [← hW1]; simp
  have hM : ApAt w fn (.func (.func g) #[] lb) w.heap.size (W0.heap.size + 1) W0.heap.size [] W1 :=
    ⟨⟨_, (hold w.heap.size (by omega)).trans hv0, ⟨rfl, .inl ⟨rfl, rfl⟩⟩, by simp⟩,
     by rw [← hW1]; have := World.alloc_heap_new (W0.alloc (.deferred (some []))) (.loop (apRec fn (.func (.func g) #[] lb) w.heap.size W0.heap.size .ready none)); rwa [World.size_alloc] at this,
     by rw [← hW1]; exact (Below.heap_alloc _ _ _ (by simp)).trans (World.alloc_heap_new W0 _), hb1⟩
  refine ⟨W0.heap.size + 1, [{ target := .collected W0.heap.size, args := #[] }], W1, { target := .fn (.func g) lb, args := #[.func (.yield (W0.heap.size + 1)) #[] #[]] }, W1, g,
    #[.func (.yield (W0.heap.size + 1)) #[] #[]] ++ lb, W1, ?_, ?_, ?_, ?_, fun _ => h1, ?_⟩
  · rw [← hW1]; exact run_enterLoop_outer _ _ _ _ _
  · simp [resolve, go_sem]
  · intro f' hf'; simp [Target.leads] at hf'; subst hf'; exact hFg
  · simp [invoke, go_sem, eg]
  · refine (hseq (W0.heap.size + 1) (ApAt w fn (.func (.func g) #[] lb) w.heap.size (W0.heap.size + 1) W0.heap.size) W1 hb1 (ap_abides _ _ _ _ _ _ _ hb1.size)
      (fun pre x W hJ hl => ap_yield F (n - 1 - 1) w fn hfn _ w.heap.size (W0.heap.size + 1) W0.heap.size (by omega) (by omega) (by omega) (Nat.le_refl _) (by omega) N hN pre x W hJ hl) hM).mono ?_
    rintro e W2 ⟨⟨v0, rfl⟩, ss, hS, h2⟩
    obtain ⟨v, hv, hrow, hnil⟩ := h2.box
    have hend := run_endLoop (P := Try.prog) h2.L (by simp [apRec])
    obtain ⟨W3, hW3⟩ : ∃ W3, W2.putObj (W0.heap.size + 1) (.loop { apRec fn (.func (.func g) #[] lb) w.heap.size W0.heap.size .ready none with state := .exhausted }) = W3 := ⟨_, rfl⟩
    rw [hW3] at hend
    have hg3 : W2.grownBy W3 (some (W0.heap.size + 1)) := by rw [← hW3]; exact grownBy_putObj_a _ _ _
    have hv3 : W3.heap[w.heap.size]? = some (.cells #[v] 56 (0, 0)) := by rw [← hW3]; exact (World.putObj_heap_other (by omega)).trans hv
    have hK3 : W3.heap[W0.heap.size]? = some (.deferred (some [])) := by rw [← hW3]; exact (World.putObj_heap_other (by omega)).trans h2.K
    have hrow3 := hrow.kept hg3 (ownsRow_ne_a hrow h2.L (fun cur e => by cases e))
    have hb3 : Below w.heap.size w W3 := h2.below.grown hg3 h2.below.size (fun k e => by cases e; omega)
    obtain ⟨hc3, hf3⟩ := cell_of_box_a hv3
    clear hW3
    refine ⟨none, W3, hend, ?_⟩
    gi_wp2
    rw [← hs0]
    refine ⟨by simp, .inl ⟨_, _, rfl, run_takeDeferred hK3, ?_⟩⟩
    exact ⟨_, results_tmp rfl _ _ _, v, ss, rfl, hS, hrow3.kept (grownBy_putObj_a _ _ _) (ownsRow_ne_a hrow3 hK3 (fun cur e => by cases e)), hnil, hb3.grown (grownBy_putObj_a _ _ _) hb3.size (fun k e => by cases e; omega)⟩
set_option maxRecDepth 100000 in
set_option maxHeartbeats 1000000 in
theorem col_in (F : Fence) (n : Nat) (h8 : F.fn 110) (h11 : F.fn 124) (hro : F.round = none) (hn : 3 ≤ n) (g : Nat) (lb : Array Value) (hFg : F.fn g) (eg : ∀ args w, (callFunc g args).run Try.prog w = .ok (.enter g args) w)
    (S : List PtS → Prop) (N : Nat) (hN : N ≤ 1000000) (w : World) (hseq : SeqGives F (n - 1 - 1) Try.prog g lb encPV S N w) :
    CallsIn F n Try.prog 110 #[.func (.func g) #[] lb] w fun e w' => ∃ (v : Value) (ss : List PtS), e = .returned v ∧ S ss ∧ w'.ownsRow w.heap.size 52 33 v ss.length (ss.flatMap encPt) ∧ (v = .slice none 0 0 ↔ ss = []) ∧ Below w.heap.size w w' := by
  have h1 : 1 ≤ n := by omega
  have e11 : ∀ args w, (callFunc 124 args).run Try.prog w = .ok (.enter 124 args) w := enters_of Try.func124 (by kernel_rfl) rfl
  refine callsIn_of_wp Try.func110 rfl h8 ?_ hro
  simp only [Try.ntmps110, List.size_toArray, List.length_cons, List.length_nil, Nat.reduceAdd, Nat.reduceSub, Array.replicate_succ, Array.replicate_zero, List.push_toArray, List.append_toArray, List.nil_append, List.cons_append]
  gi_wp2_with (gi_at_call 124; refine (ap_in F (n - 1) h11 hro (by omega) g lb hFg eg S N hN _ hseq).mono ?_; rintro e w' ⟨v, ss, rfl, hS, hrow, hnil, hb⟩)
  go_ret
  exact ⟨v, ss, rfl, hS, hrow, hnil, hb⟩
end Go.Proofs.Ytolbbhbfbpiljaa

/- slices.SortFunc laid at PtS: a row of the call's own is sorted. Printed by mklays.py (the numbers are those of one seat). -/
namespace Go.Proofs.Ytolbbhbfbpiljaa
open Go.RowKit Go.Sort Go.Shelf
set_option linter.unusedVariables false
def lays_pt_ren : Go.Shelf.Ren := ⟨fun | 6 => 111 | 15 => 123 | 14 => 125 | 28 => 135 | 29 => 136 | 20 => 137 | 21 => 138 | 22 => 139 | 23 => 140 | 24 => 141 | 25 => 142 | 26 => 143 | 27 => 144 | 46 => 150 | 47 => 146 | 48 => 147 | 49 => 151 | 50 => 152 | 57 => 154 | n => n, fun | 22 => 56 | 24 => 52 | 25 => 129 | 3 => 3 | 39 => 184 | 0 => 0 | 53 => 208 | 55 => 30 | 4 => 4 | 46 => 201 | 45 => 200 | 50 => 205 | 5 => 5 | 9 => 9 | 66 => 215 | 70 => 218 | 76 => 222 | 77 => 223 | n => n, fun | n => n⟩
theorem lays_pt : Go.Proofs.SlLaysF0.n6 Try.prog lays_pt_ren := {
  mixed := by kernel_rfl,
  f6 := ⟨Try.f111.name, by decide, Try.func111.trans (congrArg some (by kernel_rfl))⟩,
  f14 := ⟨Try.f125.name, by decide, Try.func125.trans (congrArg some (by kernel_rfl))⟩,
  f15 := Try.func123.trans (congrArg some (by kernel_rfl)),
  f20 := ⟨Try.f137.name, by decide, Try.func137.trans (congrArg some (by kernel_rfl))⟩,
  f21 := ⟨Try.f138.name, by decide, Try.func138.trans (congrArg some (by kernel_rfl))⟩,
  f22 := ⟨Try.f139.name, by decide, Try.func139.trans (congrArg some (by kernel_rfl))⟩,
  f23 := ⟨Try.f140.name, by decide, Try.func140.trans (congrArg some (by kernel_rfl))⟩,
  f24 := ⟨Try.f141.name, by decide, Try.func141.trans (congrArg some (by kernel_rfl))⟩,
  f25 := ⟨Try.f142.name, by decide, Try.func142.trans (congrArg some (by kernel_rfl))⟩,
  f26 := ⟨Try.f143.name, by decide, Try.func143.trans (congrArg some (by kernel_rfl))⟩,
  f27 := ⟨Try.f144.name, by decide, Try.func144.trans (congrArg some (by kernel_rfl))⟩,
  f28 := Try.func135.trans (congrArg some (by kernel_rfl)),
  f29 := Try.func136.trans (congrArg some (by kernel_rfl)),
  f46 := ⟨Try.f150.name, by decide, Try.func150.trans (congrArg some (by kernel_rfl))⟩,
  f47 := Try.func146.trans (congrArg some (by kernel_rfl)),
  f48 := Try.func147.trans (congrArg some (by kernel_rfl)),
  f49 := ⟨Try.f151.name, by decide, Try.func151.trans (congrArg some (by kernel_rfl))⟩,
  f50 := ⟨Try.f152.name, by decide, Try.func152.trans (congrArg some (by kernel_rfl))⟩,
  f57 := ⟨Try.f154.name, by decide, Try.func154.trans (congrArg some (by kernel_rfl))⟩,
  t0 := Try.underlying0,
  a0 := Try.isAgg0,
  z0 := Try.sizeOf0,
  v0 := Try.zeroValue0,
  t3 := Try.underlying3,
  a3 := Try.isAgg3,
  z3 := Try.sizeOf3,
  v3 := Try.zeroValue3,
  t4 := Try.underlying4,
  a4 := Try.isAgg4,
  z4 := Try.sizeOf4,
  v4 := Try.zeroValue4,
  t5 := Try.underlying5,
  a5 := Try.isAgg5,
  z5 := Try.sizeOf5,
  v5 := Try.zeroValue5,
  t9 := Try.underlying9,
  a9 := Try.isAgg9,
  z9 := Try.sizeOf9,
  v9 := Try.zeroValue9,
  t22 := Try.underlying56,
  a22 := Try.isAgg56,
  z22 := Try.sizeOf56,
  v22 := Try.zeroValue56,
  t25 := Try.underlying129,
  a25 := Try.isAgg129,
  z25 := Try.sizeOf129,
  v25 := Try.zeroValue129,
  t39 := Try.underlying184,
  a39 := Try.isAgg184,
  z39 := Try.sizeOf184,
  v39 := Try.zeroValue184,
  t45 := Try.underlying200,
  a45 := Try.isAgg200,
  z45 := Try.sizeOf200,
  v45 := Try.zeroValue200,
  t46 := Try.underlying201,
  a46 := Try.isAgg201,
  z46 := Try.sizeOf201,
  v46 := Try.zeroValue201,
  t50 := Try.underlying205,
  a50 := Try.isAgg205,
  z50 := Try.sizeOf205,
  v50 := Try.zeroValue205,
  t53 := Try.underlying208,
  a53 := Try.isAgg208,
  z53 := Try.sizeOf208,
  v53 := Try.zeroValue208,
  t55 := Try.underlying30,
  a55 := Try.isAgg30,
  z55 := Try.sizeOf30,
  v55 := Try.zeroValue30,
  t66 := Try.underlying215,
  a66 := Try.isAgg215,
  z66 := Try.sizeOf215,
  v66 := Try.zeroValue215,
  t70 := Try.underlying218,
  a70 := Try.isAgg218,
  z70 := Try.sizeOf218,
  v70 := Try.zeroValue218,
  t76 := Try.underlying222,
  a76 := Try.isAgg222,
  z76 := Try.sizeOf222,
  v76 := Try.zeroValue222,
  t77 := Try.underlying223,
  a77 := Try.isAgg223,
  z77 := Try.sizeOf223,
  v77 := Try.zeroValue223 }
theorem sort_pt {base g cap : Nat} {ss : List PtS} (w : World) (hn : ss.length < 4611686018427387904) (ho : w.ownsRow base 52 33 (.slice (some ⟨g, 0, none⟩) ss.length cap) ss.length (ss.flatMap encPt)) :
    Calls Try.prog 111 #[.slice (some ⟨g, 0, none⟩) ss.length cap, .func (.func 59) #[] #[]] w fun e w' => e = .returned (.tuple #[]) ∧ w'.ownsRow base 52 33 (.slice (some ⟨g, 0, none⟩) ss.length cap) ss.length ((sortP ss).flatMap encPt) ∧ w.grownBy w' (some g) := by
  rcases ho.2 with ⟨h1, h2⟩ | ⟨gb, cap', cur, h1, hbase, hgb, r1, r2, r3, r4⟩
  · cases h1
  · injection h1 with h1 h2 h3
    injection h1 with h1
    injection h1 with h1
    subst h1 h3
    have hH : HoldsK encPt 33 w g 0 ss.toArray := holdsK_of_own encPt 33 (by omega) encPt_len hgb r4
    have hsz : ss.toArray.size < 4611686018427387904 := by rw [List.size_toArray]; exact hn
    have h := AnyQ.slices_SortFunc_total lays_pt 33 Try.isAgg52 Try.sizeOf52 encPt encPt_len encPt_one cfPt swo_pt 59 #[] g 0 cap ss.toArray w (enters_of Try.func59 (by kernel_rfl) rfl) (lays_pt_cmp g 0 ss.toArray.size w) hH (Array.getElem?_eq_some_iff.1 hgb).1 hsz tot_pt
    rw [List.size_toArray] at h
    refine Calls.mono h ?_
    rintro e w' ⟨rfl, n, os, rfl⟩
    refine ⟨rfl, ?_, grownBy_sortedK _ _ _⟩
    exact ownsRow_sortedK encPt 33 (by omega) encPt_len (sortP_len ss) hbase hgb r1 r2 r3
theorem sort_pt_none (p : Option Addr) (cap : Nat) (fv : Value) (w : World) : Calls Try.prog 111 #[.slice p 0 cap, fv] w fun e w' => e = .returned (.tuple #[]) ∧ w' = w :=
  AnyF.slices_SortFunc_none lays_pt p cap fv w
end Go.Proofs.Ytolbbhbfbpiljaa

/- slices.SortedFunc(seq, compare), against whatever iterator value; what a map's key is. Printed by mkkeys.py. -/
namespace Go.Proofs.Ytolbbhbfbpiljaa
open Go.RowKit Go.Maps Go.Sort Go.Shelf
set_option linter.unusedVariables false
theorem grownBy_drop {a b : World} {q : Nat} (h : a.grownBy b (some q)) (hq : a.heap.size ≤ q) : a.grownBy b none := ⟨h.os, h.tape, h.output, h.size, fun k hk _ => h.block k hk (fun e => by injection e with e; omega)⟩
noncomputable def decP (v : Value) : PtS := Classical.epsilon fun p => encPV p = v
theorem decP_enc (p : PtS) : decP (encPV p) = p := encPV_inj (Classical.epsilon_spec (p := fun q => encPV q = encPV p) ⟨p, rfl⟩)
noncomputable def dkP (en : MapEntry) : PtS := decP en.key
theorem sortP_eq {a b : List PtS} (h : a.Perm b) : sortP a = sortP b := by
  have tr : ∀ x y z : PtS, (!(ltOf cfPt) y x) = true → (!(ltOf cfPt) z y) = true → (!(ltOf cfPt) z x) = true := fun x y z h1 h2 => by
    simp only [Bool.not_eq_true'] at *
    exact swo_pt.ntrans z y x h2 h1
  have to : ∀ x y : PtS, ((!(ltOf cfPt) y x) || (!(ltOf cfPt) x y)) = true := fun x y => by
    by_cases hc : ltOf cfPt y x = true
    · have : ltOf cfPt x y = false := by
        cases hh : ltOf cfPt x y with
        | false => rfl
        | true => have := swo_pt.trans y x y hc hh; rw [swo_pt.irrefl] at this; cases this
      simp [hc, this]
    · simp [Bool.not_eq_true _ ▸ hc]
  unfold sortP
  refine List.Perm.eq_of_pairwise (le := fun x y => (!(ltOf cfPt) y x) = true) (fun x y _ _ h1 h2 => ?_) (List.pairwise_mergeSort tr to a) (List.pairwise_mergeSort tr to b) (((List.mergeSort_perm a _).trans h).trans (List.mergeSort_perm b _).symm)
  simp only [Bool.not_eq_true'] at h1 h2
  exact tot_pt x y h2 h1
set_option maxRecDepth 100000 in
set_option maxHeartbeats 1000000 in
theorem sfdP_any (g : Nat) (lb : Array Value) (eg : ∀ args w, (callFunc g args).run Try.prog w = .ok (.enter g args) w)
    (S : List PtS → Prop) (N : Nat) (hN : N ≤ 1000000) (w : World) (hseq : SeqGives Fence.wide 1 Try.prog g lb encPV S N w) :
    Calls Try.prog 88 #[.func (.func g) #[] lb, .func (.func 59) #[] #[]] w fun e w' => ∃ (v : Value) (ss : List PtS), e = .returned v ∧ S ss ∧ w'.ownsRow w.heap.size 52 33 v ss.length ((sortP ss).flatMap encPt) ∧ (v = .slice none 0 0 ↔ ss = []) ∧ Below w.heap.size w w' := by
  have h1 := callsIn_wide.1 (col_in Fence.wide 3 trivial trivial rfl (by omega) g lb trivial eg _ N hN w hseq.bounded)
  have HH := Lib.hid h1
  clear h1 hseq
  go_enter Try.func88, Try.ntmps88
  go_wp2_with fail
  refine HH.out.mono ?_
  rintro e w1 ⟨v, ss, rfl, ⟨hS, hlen⟩, hrow, hnil, hb⟩
  have HROW := Lib.hid hrow; have HNIL := Lib.hid hnil; have HB := Lib.hid hb; have HS := Lib.hid hS
  rcases hrow.2 with ⟨rfl, hz⟩ | ⟨gb, cap, cur, rfl, hbase, hgb, r1, r2, r3, r4⟩
  · have hss : ss = [] := List.eq_nil_of_length_eq_zero hz
    subst hss
    clear hrow hnil hb hS hz hlen
    go_wp2_with fail
    refine (sort_pt_none none 0 _ w1).mono ?_
    rintro e w2 ⟨rfl, rfl⟩
    go_wp2_with fail
    go_ret
    exact ⟨.slice none 0 0, [], rfl, HS.out, by have := HROW.out; simpa [sortP] using this, by simp, HB.out⟩
  · have HBS := Lib.hid hbase
    have HSO := Lib.hid (sort_pt w1 (by omega) HROW.out)
    clear hrow hnil hb hS hbase hgb r1 r2 r3 r4 hlen
    obtain ⟨k, hk⟩ : ∃ k, k = ss.length := ⟨_, rfl⟩
    rw [← hk] at HSO ⊢
    have HKL := Lib.hid hk
    clear hk
    go_wp2_with fail
    refine HSO.out.mono ?_
    rintro e w2 ⟨rfl, hr2, hg2⟩
    have HR2 := Lib.hid hr2; have HG2 := Lib.hid hg2
    clear hr2 hg2
    go_wp2_with fail
    go_ret
    refine ⟨_, ss, rfl, HS.out, ?_, ?_, HB.out.grown HG2.out HB.out.size (fun j hj => by cases hj; exact HBS.out)⟩
    · have := HR2.out; rw [HKL.out] at this ⊢; exact this
    · have := HNIL.out; rw [HKL.out]; exact this
end Go.Proofs.Ytolbbhbfbpiljaa

/- maps.Keys over a map from outputs to locks: the iterator's value gives the keys, each once, in some order. Printed by mkkeys.py. -/
namespace Go.Proofs.Ytolbbhbfbpiljaa
open Go.RowKit Go.Maps Go.Sort Go.Shelf
set_option linter.unusedVariables false
set_option maxRecDepth 100000 in
set_option maxHeartbeats 2000000 in
theorem kkL1_in (F : Fence) (n : Nat) (h10 : F.fn 112) (hro : F.round = none) (hn : 1 ≤ n) (l Bm b clock : Nat) (es : Array MapEntry) (hE : ∀ en ∈ es.toList, ∃ p : PtS, en.key = encPV p) (hk : MapOK Try.prog 52 es clock) (J : List PtS → World → Prop)
    (hY : ∀ pre x W, J pre W → pre.length < es.size → YieldAt F (n - 1) Try.prog l #[encPV x] W fun e W' => e = .returned (.bool true) ∧ J (pre ++ [x]) W' ∧ KeepsWalks W W')
    (W : World) (hJ : AbidesFrom W.heap.size J) (hm : W.cell? ⟨Bm, 0, none⟩ = some (.map (some b))) (hb : W.heap[b]? = some (.map es clock)) (h0 : J [] W) :
    CallsIn F n Try.prog 112 #[.func (.yield l) #[] #[], .pointer (some ⟨Bm, 0, none⟩)] W fun e W' => (∃ v, e = .returned v) ∧ ∃ ss : List PtS, ss.Perm (es.toList.map dkP) ∧ J ss W' := by
  have HK := Lib.hid hk; have HE := Lib.hid hE; have HY := Lib.hid hY; have HJ := Lib.hid hJ; have HZL := Lib.hid (show (ptV (pt 0)).length = 33 from ptV_length (pt_ok 0 (by decide)).1)
  clear hk hE hY hJ
  obtain ⟨sz, hsz⟩ : ∃ sz, sz = W.heap.size := ⟨_, rfl⟩
  have HSZ := Lib.hid hsz
  clear hsz
  refine callsIn_of_wp Try.func112 rfl h10 ?_ hro
  simp only [Try.ntmps112, List.size_toArray, List.length_cons, List.length_nil, Nat.reduceAdd, Nat.reduceSub, Array.replicate_succ, Array.replicate_zero, List.push_toArray, List.append_toArray, List.nil_append, List.cons_append]
  gi_wp2_with (first
    | (gi_at_range; refine wpi_range (o := ⟨some 5, _, _, _, _, _⟩) _ rfl rfl Try.underlying118 rfl hb HK.out ?_; intro w0 hrg0 hg0 hs0)
    | gi_in)
  rw [← HSZ.out] at hrg0 ⊢
  have hJ0 : J [] w0 := HJ.out [] W w0 none h0 hg0 (fun r e => by cases e)
  clear h0 hg0 hs0
  have HR0 := Lib.hid hrg0; have HJ0 := Lib.hid hJ0
  clear hrg0 hJ0 hb hm
  go_frame
  gi_loopw [3] (fun _ wr => ∃ vs, Hid (ItAt wr b sz es clock vs ∧ J (vs.map dkP) wr)) (fun _ wr => itLeft wr b sz)
  case atStart => exact ⟨[], Lib.hid ⟨HR0.out, HJ0.out⟩⟩
  case round =>
    obtain ⟨vs, HREL⟩ := hrel
    gi_wp2_with (first
      | (gi_at_next; refine wpi_next (o := ⟨some 6, _, _, _, _, _⟩) _ rfl rfl rfl HREL.out.1 HK.out ?_ ?_)
      | gi_in)
    · intro hperm
      have HP := Lib.hid hperm
      clear hperm
      gi_wp2
      go_end0
      exact ⟨⟨_, rfl⟩, _, HP.out.map _, HREL.out.2⟩
    · intro en w2 hen hit2 hlt hg2 hs2 hent
      obtain ⟨x, hx⟩ := HE.out en (Array.mem_toList_iff.2 hen)
      have hdk : dkP en = x := by unfold dkP; rw [hx, decP_enc]
      have hJ2 : J (vs.map dkP) w2 := HJ.out _ wr w2 (some sz) HREL.out.2 hg2 (fun r e => by cases e; exact ⟨Nat.le_of_eq HSZ.out.symm, HREL.out.1.walk⟩)
      have HI2 := Lib.hid hit2; have HJ2 := Lib.hid hJ2; have HD := Lib.hid hdk; have HLT := Lib.hid hlt
      have hlen := HI2.out.left_eq
      have hlen0 := HREL.out.1.left_eq
      have HM := Lib.hid (show itLeft w2 b sz < itLeft wr b sz by rw [hlen, hlen0]; simp only [List.length_append, List.length_singleton]; omega)
      rw [hx] at hent
      unfold encPV at hent hx
      have HX := Lib.hid hx; have HLX := Lib.hid (encPt_len x); have HOX := Lib.hid (encPt_one x)
      obtain ⟨xs, hxs⟩ : ∃ xs, xs = encPt x := ⟨_, rfl⟩
      have HXE := Lib.hid hxs
      rw [← hxs] at hent HLX HOX HX
      rw [HX.out]
      clear hen hit2 hg2 hs2 hx hdk hJ2 hlen hlen0 hlt hxs
      gi_wp2_with (first | (with_reducible refine wpi_alloc (o := ⟨some 3, _, _, _, _, _⟩) rfl rfl zero_pt ?_) | gi_in)
      intro V1 hb1 hV1
      have HB1 := Lib.hid hb1
      have HG1 := Lib.hid (show w2.grownBy V1 none by rw [hV1]; exact World.grownBy_alloc _ _ none)
      have HK1 := Lib.hid (show KeepsWalks w2 V1 by rw [hV1]; exact KeepsWalks.alloc _ _)
      clear hb1 hV1 hent
      obtain ⟨gv, hgv⟩ : ∃ g, g = w2.heap.size := ⟨_, rfl⟩
      rw [← hgv] at HB1 ⊢
      have HGV := Lib.hid hgv
      clear hgv
      gi_wp2_with (first | (with_reducible refine wpi_storeb (o := ⟨none, .store _ _ _, _, _, _, _⟩) rfl rfl row_point HB1.out rfl rfl HZL.out HLX.out HOX.out ?_) | gi_in)
      intro V2 hb2 hg2 hsz2
      have HB2 := Lib.hid hb2
      have HG2 := Lib.hid (show w2.grownBy V2 none from grownBy_drop (grownBy_trans0 (grownBy_up HG1.out) hg2) (Nat.le_of_eq HGV.out.symm))
      have HK2 := Lib.hid (show KeepsWalks w2 V2 from HK1.out.trans (KeepsWalks.of_grownBy hg2 (fun j o hj ho => by cases hj; rw [HB1.out] at ho; cases ho; rfl)))
      clear hb2 hg2 hsz2 HB1 HG1 HK1
      have HJ3 := Lib.hid (show J (vs.map dkP) V2 from HJ.out _ w2 V2 none HJ2.out HG2.out (fun r e => by cases e))
      have HI3 := Lib.hid (HI2.out.of_walks HK2.out)
      have hpl : (vs.map dkP).length < es.size := by rw [List.length_map]; exact HLT.out
      obtain ⟨fn, tmps, assign, body, hy, hR⟩ := HY.out (vs.map dkP) x V2 HJ3.out hpl
      unfold encPV at hy
      rw [← HXE.out] at hy
      clear hpl
      gi_wp2_with (first | (with_reducible refine wpi_loadb (o := ⟨some 11, _, _, _, _, _⟩) rfl rfl row_point HB2.out rfl HLX.out ?_) | gi_in)
      refine hR.mono ?_
      rintro e W3 ⟨rfl, hJ4, hk4⟩
      have HI4 := Lib.hid (HI3.out.of_walks hk4)
      have HR4 := Lib.hid (show ItAt W3 b sz es clock (vs ++ [en]) ∧ J ((vs ++ [en]).map dkP) W3 from ⟨HI4.out, by rw [List.map_append, List.map_cons, List.map_nil, HD.out]; exact hJ4⟩)
      clear hJ4 hk4 hR hy
      gi_wp2
      have HM4 := Lib.hid (show itLeft W3 b sz = itLeft w2 b sz by rw [HI4.out.left_eq, HI2.out.left_eq])
      go_roundw
      case rel => exact ⟨_, HR4⟩
      case measure => rw [HM4.out]; exact HM.out
/-- maps.Keys(m). -/
theorem kkL_any (m : Option Nat) (w : World) :
    Calls Try.prog 89 #[.map m] w fun e w' => e = .returned (.func (.func 112) #[] #[.pointer (some ⟨w.heap.size, 0, none⟩)]) ∧ w'.cell? ⟨w.heap.size, 0, none⟩ = some (.map m) ∧ Below w.heap.size w w' ∧ w.heap.size < w'.heap.size := by
  go_enter Try.func89, Try.ntmps89
  go_wp2
  go_ret
  refine ⟨rfl, ?_, (Below.refl _ w).alloc (Nat.le_refl _) _, by simp⟩
  unfold World.cell?
  rw [heap_alloc_new]
  rfl
theorem kkL_gives (n : Nat) (hn : 1 ≤ n) (Bm b clock : Nat) (es : Array MapEntry) (hE : ∀ en ∈ es.toList, ∃ p : PtS, en.key = encPV p) (hk : MapOK Try.prog 52 es clock) (w : World) (hBm : Bm < w.heap.size)
    (hm : w.cell? ⟨Bm, 0, none⟩ = some (.map (some b))) (hb : w.heap[b]? = some (.map es clock)) :
    SeqGives Fence.wide n Try.prog 112 #[.pointer (some ⟨Bm, 0, none⟩)] encPV (fun ss => ss.Perm (es.toList.map dkP)) es.size w := fun l J W hW hJ hY h0 =>
  kkL1_in Fence.wide n trivial rfl hn l Bm b clock es hE hk J hY W hJ ((hW.cell (p := ⟨Bm, 0, none⟩) hBm).trans hm) ((hW.block b (Array.getElem?_eq_some_iff.1 hb).1).trans hb) h0
end Go.Proofs.Ytolbbhbfbpiljaa

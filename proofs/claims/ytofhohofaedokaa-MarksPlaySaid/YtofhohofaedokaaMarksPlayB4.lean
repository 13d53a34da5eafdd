/- seisinlaw19.awake, and the walk of CoinsOrder. -/
import Derived.Test.YtofhohofaedokaaMarksPlayB3
import Derived.Test.YtofhohofaedokaaMarksPlayB2
import Derived.Shelf.SlSortCmp.NoneTotal
import Derived.Test.YtofhohofaedokaaMarksPlayB1
import Derived.Sort.OwnSorted
import Derived.Shelf.SlIter.Collect
import Derived.Great.FillDense
import Derived.Laws.CopyOwn
import Derived.Laws.Tables
import Derived.OwnWalkIn
import Derived.Maps.OwnIn
import Derived.RangeFuncBound
import Derived.RangeFuncGives
import Derived.Maps.AppendAt
import Derived.Shelf.Abstract
import Derived.Shelf.RegionOpen
import Derived.OpenShut
set_option linter.unusedSimpArgs false
/- seisinlaw19.awake, and the walk of CoinsOrder. -/
namespace Go.Proofs.Ytofhohofaedokaa
open Go.RowKit
set_option linter.unusedVariables false

def pt (i : Int) : PtK := (List.replicate 32 0, i)
def cn (a : Int) : CoinV := (List.replicate 32 0, a)
theorem pt_ok (i : Int) (h : (Lit.int .i64 i).wf = true) : PtOK (pt i) := ⟨by simp [pt], h⟩
theorem cn_ok (a : Int) (h : 0 ≤ a) (h2 : a ≤ 18446744073709551615) : CoinOK (cn a) := ⟨by simp [cn], h, h2⟩

theorem two_ge {B g b : Nat} (h1 : B ≤ g) (h2 : B ≤ b) : ∀ k ∈ [g, b], B ≤ k := by
  intro k hk
  simp at hk
  rcases hk with rfl | rfl <;> assumption
end Go.Proofs.Ytofhohofaedokaa

/- The walk of CoinsOrder. -/
namespace Go.Proofs.Ytofhohofaedokaa
open Go.RowKit
set_option linter.unusedVariables false

theorem cb_neg : ∀ (a b : List UInt8), Lib.compareBytes b a = - Lib.compareBytes a b
  | [], [] => by simp [Lib.compareBytes]
  | [], _ :: _ => by simp [Lib.compareBytes]
  | _ :: _, [] => by simp [Lib.compareBytes]
  | x :: a, y :: b => by
    rw [Lib.compareBytes, Lib.compareBytes]
    by_cases h1 : x < y
    · have h2 : ¬ y < x := UInt8.lt_asymm h1
      simp [h1, h2]
    · by_cases h2 : y < x
      · simp [h1, h2]
      · simp [h1, h2, cb_neg a b]
theorem cb_range : ∀ (a b : List UInt8), -1 ≤ Lib.compareBytes a b ∧ Lib.compareBytes a b ≤ 1
  | [], [] => by simp [Lib.compareBytes]
  | [], _ :: _ => by simp [Lib.compareBytes]
  | _ :: _, [] => by simp [Lib.compareBytes]
  | x :: a, y :: b => by
    rw [Lib.compareBytes]
    have := cb_range a b
    split
    · omega
    · split
      · omega
      · exact this
theorem u8_eq {x y : UInt8} (h1 : ¬ x < y) (h2 : ¬ y < x) : x = y := UInt8.le_antisymm (UInt8.not_lt.1 h2) (UInt8.not_lt.1 h1)
theorem cb_zero : ∀ (a b : List UInt8), Lib.compareBytes a b = 0 → a = b
  | [], [], _ => rfl
  | [], _ :: _, h => by simp [Lib.compareBytes] at h
  | _ :: _, [], h => by simp [Lib.compareBytes] at h
  | x :: a, y :: b, h => by
    rw [Lib.compareBytes] at h
    split at h
    · omega
    · split at h
      · omega
      · rename_i h1 h2
        rw [u8_eq h1 h2, cb_zero a b h]
theorem cb_trans : ∀ (a b c : List UInt8), Lib.compareBytes a b ≤ 0 → Lib.compareBytes b c ≤ 0 → Lib.compareBytes a c ≤ 0
  | [], _, [], _, _ => by simp [Lib.compareBytes]
  | [], _, _ :: _, _, _ => by simp [Lib.compareBytes]
  | _ :: _, [], _, h, _ => by simp [Lib.compareBytes] at h
  | _ :: _, _ :: _, [], _, h => by simp [Lib.compareBytes] at h
  | x :: a, y :: b, z :: c, h1, h2 => by
    rw [Lib.compareBytes] at h1 h2 ⊢
    split at h1
    · rename_i g1
      split at h2
      · rename_i g2
        rw [if_pos (UInt8.lt_trans g1 g2)]; omega
      · split at h2
        · omega
        · rename_i g2 g3
          rw [← u8_eq g2 g3, if_pos g1]; omega
    · split at h1
      · omega
      · rename_i g1 g2
        rw [u8_eq g1 g2]
        split at h2
        · rename_i g3; rw [if_pos g3]; omega
        · split at h2
          · omega
          · rename_i g3 g4
            rw [if_neg g3, if_neg g4]
            exact cb_trans a b c h1 h2
theorem cmpI_neg (a b : Int) : cmpI b a = - cmpI a b := by unfold cmpI; (repeat' split) <;> omega
theorem cmpI_range (a b : Int) : -1 ≤ cmpI a b ∧ cmpI a b ≤ 1 := by unfold cmpI; (repeat' split) <;> omega
theorem cmpI_trans (a b c : Int) (h1 : cmpI a b ≤ 0) (h2 : cmpI b c ≤ 0) : cmpI a c ≤ 0 := by
  unfold cmpI at *; (repeat' split) <;> (repeat' split at h1) <;> (repeat' split at h2) <;> omega
theorem cmpI_zero (a b : Int) (h : cmpI a b = 0) : a = b := by unfold cmpI at h; (repeat' split at h) <;> omega
theorem cmpP_neg (p q : PtK) : cmpP q p = - cmpP p q := by
  unfold cmpP
  rw [cb_neg p.1 q.1, cmpI_neg p.2 q.2]
  by_cases h : Lib.compareBytes p.1 q.1 = 0
  · rw [if_pos h, if_pos (by omega)]
  · rw [if_neg h, if_neg (by omega)]
theorem cmpP_range (p q : PtK) : -1 ≤ cmpP p q ∧ cmpP p q ≤ 1 := by
  unfold cmpP
  have := cb_range p.1 q.1
  have := cmpI_range p.2 q.2
  split <;> omega
theorem cmpP_zero (p q : PtK) : cmpP p q = 0 ↔ p = q := by
  unfold cmpP
  constructor
  · intro h
    by_cases h1 : Lib.compareBytes p.1 q.1 = 0
    · rw [if_pos h1] at h
      exact Prod.ext (cb_zero _ _ h1) (cmpI_zero _ _ h)
    · rw [if_neg h1] at h; exact absurd h h1
  · intro h
    subst h
    rw [cb_self, if_pos rfl]; unfold cmpI; simp
theorem cmpP_trans (p q r : PtK) (h1 : cmpP p q ≤ 0) (h2 : cmpP q r ≤ 0) : cmpP p r ≤ 0 := by
  unfold cmpP at *
  by_cases g1 : Lib.compareBytes p.1 q.1 = 0
  · rw [if_pos g1] at h1
    have e := cb_zero _ _ g1
    rw [← e] at h2
    by_cases g2 : Lib.compareBytes p.1 r.1 = 0
    · rw [if_pos g2] at h2 ⊢
      exact cmpI_trans _ _ _ h1 h2
    · rw [if_neg g2] at h2 ⊢; exact h2
  · rw [if_neg g1] at h1
    by_cases g2 : Lib.compareBytes q.1 r.1 = 0
    · have e := cb_zero _ _ g2
      rw [← e, if_neg g1]; exact h1
    · rw [if_neg g2] at h2
      have h3 := cb_trans _ _ _ h1 h2
      by_cases g3 : Lib.compareBytes p.1 r.1 = 0
      · exfalso
        have e := cb_zero _ _ g3
        rw [← e, cb_neg p.1 q.1] at h2
        omega
      · rw [if_neg g3]; exact h3

theorem cmpP_lt_trans {p q r : PtK} (h1 : cmpP p q < 0) (h2 : cmpP q r < 0) : cmpP p r < 0 := by
  have h3 := cmpP_trans p q r (by omega) (by omega)
  rcases Int.lt_or_eq_of_le h3 with h | h
  · exact h
  · obtain rfl := (cmpP_zero p r).1 h
    have := cmpP_neg p q
    omega
theorem cmpP_irr (p : PtK) : ¬ cmpP p p < 0 := by rw [(cmpP_zero p p).2 rfl]; omega
set_option maxRecDepth 100000 in
theorem eql_pt (p q : PtK) (hp : PtOK p) (hq : PtOK q) : ∀ w, (Op.equalIn 10000 83 (.agg (ptV p).toArray) (.agg (ptV q).toArray)).run Try.prog w = .ok (decide (p = q)) w := by
  intro w
  obtain ⟨la, ha⟩ := keyOf_pt p hp
  obtain ⟨lb, hb⟩ := keyOf_pt q hq
  have hf : ∀ x : PtK, x.1.length = 32 → (ptA x).formed Try.prog 83 = true := by
    intro x hx
    unfold ptA Value.formed
    simp only [Try.underlying83, cells_point, List.size_toArray, ptV_length hx]
    rfl
  have hk : Try.prog.keyType 83 = true := by kernel_rfl
  have ha' := ha
  have hb' := hb
  unfold keyOf at ha hb
  rw [Try.underlying83] at ha hb
  simp only [hk, hf p hp.1, hf q hq.1, Bool.and_self, if_true] at ha hb
  obtain ⟨l1, e1, e1'⟩ := Option.map_eq_some_iff.1 ha
  obtain ⟨l2, e2, e2'⟩ := Option.map_eq_some_iff.1 hb
  obtain ⟨r, hr, hiff⟩ := run_equalIn_deep (P := Try.prog) 9997 3 83 (by kernel_rfl) w _ _ (ptA p) (ptA q) l1 l2 (hf p hp.1) (hf q hq.1) e1 e2
  have : r = decide (p = q) := by
    rw [Bool.eq_iff_iff, hiff, decide_eq_true_eq]
    constructor
    · intro h
      subst h
      rw [e1'] at e2'
      subst e2'
      exact ptA_inj hp.1 hq.1 (kl_point.inj ha' hb')
    · intro h
      subst h
      rw [e1] at e2; cases e2; rfl
  rw [← this]
  exact hr

end Go.Proofs.Ytofhohofaedokaa

/- The order of outputs, said to the draw: what a sort asks of it. -/
namespace Go.Proofs.Ytofhohofaedokaa
open Go.RowKit
set_option linter.unusedVariables false
/-- Nothing old has turned; blocks have been laid, and draws made. -/
def Gr (w w' : World) : Prop := ∃ q os, w' = Go.Sort.grow (w.drewN q) os
theorem Gr.of {w w' : World} (h : Below w.heap.size w w') (hd : w.drawn ≤ w'.drawn) : Gr w w' := by
  refine ⟨w'.drawn - w.drawn, (w'.heap.toList.drop w.heap.size).toArray, ?_⟩
  obtain ⟨heap, tape, drawn, os, output⟩ := w
  obtain ⟨heap', tape', drawn', os', output'⟩ := w'
  obtain ⟨h1, h2, h3, h4, h5⟩ := h
  simp only at h1 h2 h3 h4 h5 hd
  subst h1 h2 h3
  unfold Go.Sort.grow World.drewN
  have e : heap' = heap ++ (heap'.toList.drop heap.size).toArray := by
    apply Array.ext_getElem?
    intro k
    rw [Array.getElem?_append]
    split
    · rename_i hk; exact h5 k hk
    · rename_i hk
      rw [show (heap'.toList.drop heap.size).toArray[k - heap.size]? = (heap'.toList.drop heap.size)[k - heap.size]? from by rw [List.getElem?_toArray], List.getElem?_drop, ← Array.getElem?_toList]
      congr 1; omega
  rw [World.mk.injEq]
  exact ⟨e, rfl, by simp only; omega, rfl, rfl⟩
theorem Gr.below {w w' : World} (h : Gr w w') : Below w.heap.size w w' := by
  obtain ⟨q, os, rfl⟩ := h
  exact ⟨rfl, rfl, rfl, by rw [Go.Sort.size_grow]; exact Nat.le_add_right _ _, fun k hk => by
    show (w.heap ++ os)[k]? = _
    rw [Array.getElem?_append_left hk]⟩
theorem Drawn.drawn {w w2 : World} (h : Drawn w w2) : w.drawn ≤ w2.drawn := by obtain ⟨m, rfl⟩ := h; exact Nat.le_add_right _ _
theorem wpl_boxd {P : Program} {w : World} {ops : Array Oper} {rest : List Oper} {o : Oper} {a : Act} {Q : Exit → Act → World → Prop} (hgd : o.guard = none) {T : TypeId} {x : Operand} (ho : o.op = .box T x) {cs : List Value} (hx : a.eval x = .agg cs.toArray)
    (h : ∀ w', Blk w' w.heap.size T cs → Below w.heap.size w w' → w'.heap.size = w.heap.size + 1 → w'.drawn = w.drawn → wpList P ops Q rest (a.put o.dst (.pointer (some ⟨w.heap.size, 0, none⟩))) w') : wpList P ops Q (o :: rest) a w := by
  refine wpList_plain hgd fun K hK => ?_
  have hrun : (Instr.box T (.agg cs.toArray)).run P w = .ok (.pointer (some ⟨w.heap.size, 0, none⟩)) (w.alloc (.cells cs.toArray T)) := by
    simp [Instr.box, newVar, newRow, Value.cells]
  unfold Oper.wp execOp
  simp only [ho, hx, Sem.run_bind, hrun, Result.andThen_ok, Sem.run_pure]
  exact hK _ _ (h _ (heap_alloc_new _ _) ((Below.refl _ _).alloc (Nat.le_refl _) _) (by simp) rfl)
end Go.Proofs.Ytofhohofaedokaa

/- A slice of structs that the call has built, sorted by the library: between rows of the call's own and the sort's words. No program in sight. -/
namespace Go.Proofs.Ytofhohofaedokaa
open Go.RowKit Go.Sort
set_option linter.unusedVariables false
set_option linter.unusedSectionVars false
section
variable {α : Type} [Inhabited α]
theorem fmk_len (enc : α → List Value) (k : Nat) (hk : ∀ x, (enc x).length = k) : ∀ l : List α, (l.flatMap enc).length = l.length * k
  | [] => by simp
  | x :: l => by rw [List.flatMap_cons, List.length_append, fmk_len enc k hk l, hk, List.length_cons, Nat.add_mul]; omega
theorem fmk_get (enc : α → List Value) (k : Nat) (h0 : 0 < k) (hk : ∀ x, (enc x).length = k) : ∀ (l : List α) (t : Nat), t < l.length * k → (l.flatMap enc)[t]? = some ((enc l.toArray[t / k]!)[t % k]!)
  | [], t, h => by simp at h
  | x :: l, t, h => by
    rw [List.flatMap_cons]
    by_cases ht : t < k
    · rw [List.getElem?_append_left (by rw [hk]; exact ht), Nat.div_eq_of_lt ht, Nat.mod_eq_of_lt ht, List.getElem?_eq_getElem (by rw [hk]; exact ht)]
      simp [hk, ht]
    · have hge : k ≤ t := by omega
      rw [List.getElem?_append_right (by rw [hk]; exact hge), hk]
      have hlt : t - k < l.length * k := by rw [List.length_cons, Nat.add_mul] at h; omega
      rw [fmk_get enc k h0 hk l (t - k) hlt]
      have e1 : t / k = (t - k) / k + 1 := by
        conv => lhs; rw [show t = (t - k) + k by omega]
        exact Nat.add_div_right _ h0
      have e2 : t % k = (t - k) % k := by
        conv => lhs; rw [show t = (t - k) + k by omega]
        exact Nat.add_mod_right _ _
      rw [e1, e2]
      have hq : (t - k) / k < l.length := Nat.div_lt_of_lt_mul (by rw [Nat.mul_comm]; exact hlt)
      congr 3
      simp [hq]
theorem flatK_list (enc : α → List Value) (k : Nat) (h0 : 0 < k) (hk : ∀ x, (enc x).length = k) (l : List α) : (flatK enc k l.toArray).toList = l.flatMap enc := by
  apply List.ext_getElem?
  intro t
  by_cases ht : t < l.length * k
  · rw [fmk_get enc k h0 hk l t ht]
    unfold flatK
    simp [ht]
  · rw [List.getElem?_eq_none (by rw [Array.length_toList, size_flatK, List.size_toArray]; omega), List.getElem?_eq_none (by rw [fmk_len enc k hk]; omega)]
theorem holdsK_of_own {w : World} {g : Nat} {cur : Array Value} {e : TypeId} (enc : α → List Value) (k : Nat) (h0 : 0 < k) (hk : ∀ x, (enc x).length = k) {l : List α} (hb : w.heap[g]? = some (.cells cur e (0, 0))) (ht : cur.toList.take (l.length * k) = l.flatMap enc) : HoldsK enc k w g 0 l.toArray := by
  intro j hj
  have hj' : j < l.length * k := by simpa using hj
  refine ⟨?_, by simp [World.frozen?, hb]⟩
  have h1 : (cur.toList.take (l.length * k))[j]? = (l.flatMap enc)[j]? := by rw [ht]
  rw [List.getElem?_take_of_lt hj', ← flatK_list enc k h0 hk l] at h1
  simp only [World.cell?, hb, Nat.zero_add]
  simp only [Option.isSome_none, Bool.false_eq_true, if_false]
  rw [← Array.getElem?_toList, h1, Array.getElem?_toList, Array.getElem?_eq_getElem hj, getElem!_pos _ j hj]
  rfl
theorem heap_sortedK {w : World} {g n : Nat} {os : Array Obj} {cur : Array Value} {e : TypeId} {fr : Nat × Nat} (enc : α → List Value) (k : Nat) (d : Array α) (hb : w.heap[g]? = some (.cells cur e fr)) :
    (sortWorldK enc k w g 0 n d os).heap[g]? = some (.cells (putCells id 0 (flatK enc k d) cur) e fr) := by
  have hg : g < w.heap.size := (Array.getElem?_eq_some_iff.1 hb).1
  unfold sortWorldK
  rw [heap_grow_old _ _ (by simpa [putRowK, putRow, mapBlock, Sort.ahead] using hg)]
  simp [putRowK, putRow, mapBlock, Sort.ahead, Array.getElem?_modify, hb, onCells]
theorem grownBy_sortedK {w : World} {g n : Nat} {os : Array Obj} (enc : α → List Value) (k : Nat) (d : Array α) : w.grownBy (sortWorldK enc k w g 0 n d os) (some g) := by
  unfold sortWorldK
  refine ⟨rfl, rfl, rfl, by simp [putRowK, putRow, mapBlock, Sort.ahead], fun j hj hne => ?_⟩
  rw [heap_grow_old _ _ (by simpa [putRowK, putRow, mapBlock, Sort.ahead] using hj)]
  have : g ≠ j := fun e => hne (by rw [e])
  simp [putRowK, putRow, mapBlock, Sort.ahead, Array.getElem?_modify, this]
theorem take_putCellsK (cur F : Array Value) (h : F.size ≤ cur.size) : (putCells id 0 F cur).toList.take F.size = F.toList := by
  apply List.ext_getElem?
  intro j
  by_cases hj : j < F.size
  · rw [List.getElem?_take_of_lt hj, Array.getElem?_toList]
    simp [putCells, hj, show j < cur.size by omega]
  · rw [List.getElem?_take_eq_none (by omega), List.getElem?_eq_none (by simp; omega)]
theorem ownsRow_sortedK {w : World} {base g cap n : Nat} {e : TypeId} {os : Array Obj} {cur : Array Value} (enc : α → List Value) (k : Nat) (h0 : 0 < k) (hk : ∀ x, (enc x).length = k) {ss ts : List α} (hl : ts.length = ss.length) (hbase : base ≤ g) (hb : w.heap[g]? = some (.cells cur e (0, 0)))
    (h1 : ss.length ≤ cap) (h2 : cap ≤ maxLen) (h3 : cur.size = cap * k) :
    (sortWorldK enc k w g 0 n ts.toArray os).ownsRow base e k (.slice (some ⟨g, 0, none⟩) ss.length cap) ss.length (ts.flatMap enc) := by
  have hm : ss.length * k ≤ cap * k := Nat.mul_le_mul_right _ h1
  refine ⟨by rw [fmk_len enc k hk, hl], .inr ⟨g, cap, _, rfl, hbase, heap_sortedK enc k _ hb, h1, h2, by simp [putCells, h3], ?_⟩⟩
  have hs : (flatK enc k ts.toArray).size = ss.length * k := by rw [size_flatK, List.size_toArray, hl]
  rw [← hs, take_putCellsK _ _ (by omega), flatK_list enc k h0 hk]
end
end Go.Proofs.Ytofhohofaedokaa

/- Outputs as a sort takes them: their order is one. -/
namespace Go.Proofs.Ytofhohofaedokaa
open Go.RowKit Go.Sort
set_option linter.unusedVariables false
/-- An output. -/
abbrev PtS := { p : PtK // PtOK p }
instance : Inhabited PtS := ⟨⟨pt 0, pt_ok 0 (by decide)⟩⟩
def encPt (p : PtS) : List Value := ptV p.1
theorem encPt_len (p : PtS) : (encPt p).length = 33 := ptV_length p.2.1
theorem encPt_one (p : PtS) : ∀ v ∈ encPt p, v.oneCell' = true := by
  intro v hv
  unfold encPt ptV at hv
  rcases List.mem_append.1 hv with hv | hv
  · obtain ⟨x, _, rfl⟩ := List.mem_map.1 hv; rfl
  · have : v = .int .i64 p.1.2 := by simpa using hv
    rw [this]; rfl
theorem encPt_inj {p q : PtS} (h : encPt p = encPt q) : p = q := Subtype.ext (ptA_inj p.2.1 q.2.1 (by unfold ptA; unfold encPt at h; rw [h]))
def cfPt (p q : PtS) : Int := cmpP p.1 q.1
theorem lt_pt (p q : PtS) : ltOf cfPt p q = true ↔ cmpP p.1 q.1 = -1 := by
  have := cmpP_range p.1 q.1
  unfold ltOf cfPt
  rw [decide_eq_true_eq]; omega
theorem nlt_pt (p q : PtS) : ltOf cfPt p q = false ↔ cmpP q.1 p.1 ≤ 0 := by
  have h1 := cmpP_range p.1 q.1
  have h2 := cmpP_neg p.1 q.1
  unfold ltOf cfPt
  rw [decide_eq_false_iff_not]; omega
theorem swo_pt : SWO (ltOf cfPt) where
  irrefl p := by rw [nlt_pt]; have := (cmpP_zero p.1 p.1).2 rfl; omega
  trans x y z h1 h2 := by
    rw [lt_pt] at *
    have a1 := cmpP_trans x.1 y.1 z.1 (by omega) (by omega)
    have a2 := cmpP_range x.1 z.1
    have a3 : cmpP x.1 z.1 ≠ 0 := fun e => by
      have e2 := (cmpP_zero x.1 z.1).1 e
      rw [← e2] at h2
      have := cmpP_neg x.1 y.1
      omega
    omega
  ntrans x y z h1 h2 := by
    rw [nlt_pt] at *
    exact cmpP_trans z.1 y.1 x.1 h2 h1
theorem tot_pt (x y : PtS) (h1 : ltOf cfPt x y = false) (h2 : ltOf cfPt y x = false) : x = y := by
  rw [nlt_pt] at h1 h2
  have h3 := cmpP_neg x.1 y.1
  exact Subtype.ext ((cmpP_zero x.1 y.1).1 (by omega))
theorem info_pt : (Try.prog.info? 83).map (fun i => (i.zero, i.size, i.bytes)) = some (some (.agg (ptV (pt 0)).toArray), 33, 40) := by kernel_rfl
/-- Sorted. -/
def sortP (l : List PtS) : List PtS := l.mergeSort fun x y => !(ltOf cfPt) y x
theorem sortP_len (l : List PtS) : (sortP l).length = l.length := List.length_mergeSort ..
theorem sortP_perm (l : List PtS) : (sortP l).Perm l := List.mergeSort_perm ..
end Go.Proofs.Ytofhohofaedokaa

/- Iterators over maps, told by the map's entries: the range, its step. No program in sight. -/
namespace Go.Proofs.Ytofhohofaedokaa
open Go.RowKit
open Go.ChangeMaps (setBlock)
set_option linter.unusedVariables false
/-- Block r is an iterator over the map in block b; vs have come. -/
structure ItAt (w : World) (b r : Nat) (es : Array MapEntry) (clock : Nat) (vs : List MapEntry) : Prop where
  map : w.heap[b]? = some (.map es clock)
  it : ∃ since seen c0, w.heap[r]? = some (.mapIter (some b) since seen c0) ∧ seen.toList = vs.map (·.born) ∧ (∀ x ∈ es.toList, x.born < since) ∧ since ≤ c0 ∧ since ≤ clock
  sub : ∀ e ∈ vs, e ∈ es.toList
  nd : (vs.map (·.born)).Nodup
def itLeft (w : World) (b r : Nat) : Nat :=
  match w.heap[b]?, w.heap[r]? with
  | some (.map es _), some (.mapIter _ _ seen _) => es.size - seen.size
  | _, _ => 0
section
variable {P : Program} {w w' : World} {b r clock : Nat} {es : Array MapEntry} {vs : List MapEntry} {k t e : TypeId}
theorem ItAt.of_walks (h : ItAt w b r es clock vs) (hk : KeepsWalks w w') : ItAt w' b r es clock vs := by
  obtain ⟨h1, ⟨since, seen, c0, h2, h3⟩, h4, h5⟩ := h
  exact ⟨hk.same b _ h1 rfl, ⟨since, seen, c0, hk.same r _ h2 rfl, h3⟩, h4, h5⟩
theorem ItAt.walk (h : ItAt w b r es clock vs) : ∃ o : Obj, w.heap[r]? = some o ∧ o.isWalk = true := by
  obtain ⟨_, ⟨since, seen, c0, h2, _⟩, _, _⟩ := h
  exact ⟨_, h2, rfl⟩
theorem ItAt.left_eq (h : ItAt w b r es clock vs) : itLeft w b r = es.size - vs.length := by
  obtain ⟨h1, ⟨since, seen, c0, h2, h3, _⟩, _, _⟩ := h
  unfold itLeft
  rw [h1, h2]
  simp only
  have := congrArg List.length h3
  rw [Array.length_toList, List.length_map] at this
  rw [this]
theorem ItAt.lt (h : ItAt w b r es clock vs) : r < w.heap.size ∧ b < w.heap.size := by
  obtain ⟨h1, ⟨since, seen, c0, h2, _⟩, _, _⟩ := h
  exact ⟨(Array.getElem?_eq_some_iff.1 h2).1, (Array.getElem?_eq_some_iff.1 h1).1⟩
theorem ItAt.len (h : ItAt w b r es clock vs) : vs.length ≤ es.size := by
  have h1 : vs.Nodup := by
    have := h.nd
    unfold List.Nodup at this ⊢
    rw [List.pairwise_map] at this
    exact this.imp (fun hne e => hne (by rw [e]))
  have := h1.length_le_of_subset (l₂ := es.toList) (fun x hx => h.sub x hx)
  rwa [Array.length_toList] at this
theorem it_range (ht : P.underlying t = some (.map k e)) (hb : w.heap[b]? = some (.map es clock)) (hm : MapOK P k es clock) :
    ∃ w', (Instr.range t (.map (some b))).run P w = .ok (.pointer (some ⟨w.heap.size, 0, none⟩)) w' ∧ ItAt w' b w.heap.size es clock [] ∧ w.grownBy w' none ∧ w'.heap.size = w.heap.size + 1 := by
  have hlt := (Array.getElem?_eq_some_iff.1 hb).1
  refine ⟨_, run_range_map w t k e b es clock ht hb, ⟨((MapKept.heap_alloc w _).2 b hlt).trans hb, ⟨clock, #[], clock, (MapKept.heap_alloc w _).1, rfl, hm.young, Nat.le_refl _, Nat.le_refl _⟩, by simp, by simp⟩, World.grownBy_alloc w _ none, by simp⟩
theorem it_next (h : ItAt w b r es clock vs) (hm : MapOK P k es clock) (ty : TypeId) :
    (vs.Perm es.toList ∧ (Instr.next (.pointer (some ⟨r, 0, none⟩)) false ty).run P w = .ok (.tuple #[.bool false]) w) ∨
    ∃ en w', en ∈ es.toList ∧ (Instr.next (.pointer (some ⟨r, 0, none⟩)) false ty).run P w = .ok (.tuple #[.bool true, en.key, en.val]) w' ∧ ItAt w' b r es clock (vs ++ [en]) ∧ vs.length < es.size ∧ w.grownBy w' (some r) ∧ w'.heap.size = w.heap.size ∧
      (Instr.entry (.pointer (some ⟨r, 0, none⟩))).run P w' = .ok (.tuple #[en.key, en.val]) w' := by
  have hlen := h.len
  have hltr := h.lt.1
  have hltb := h.lt.2
  have hnv : vs.Nodup := by
    have := h.nd
    unfold List.Nodup at this ⊢
    rw [List.pairwise_map] at this
    exact this.imp (fun hne e => hne (by rw [e]))
  have hne : es.toList.Nodup := by
    have := hm.born
    unfold List.Nodup at this ⊢
    rw [List.pairwise_map] at this
    exact this.imp (fun hne e => hne (by rw [e]))
  obtain ⟨h1, ⟨since, seen, c0, h2, h3, hold, hsc, hsk⟩, h4, h5⟩ := h
  have hseen : ∀ x : MapEntry, seen.contains x.born = true ↔ x.born ∈ vs.map (·.born) := fun x => by
    rw [← h3, Array.contains_iff_mem, Array.mem_toList_iff]
  rcases run_next_at (P := P) w ty r b since c0 seen es clock h2 h1 hold hsc with ⟨h0, hrun⟩ | ⟨en, hen, w1, hal, hrun⟩
  · refine .inl ⟨(List.perm_ext_iff_of_nodup hnv hne).2 fun x => ⟨h4 x, fun hx => ?_⟩, hrun⟩
    have hc : seen.contains x.born = true := all_seen es seen h0 x hx
    obtain ⟨y, hy, hyb⟩ := List.mem_map.1 ((hseen x).1 hc)
    have hye := h4 y hy
    have : y = x := by
      have hp := hm.born
      unfold List.Nodup at hp
      rw [List.pairwise_map] at hp
      exact Classical.byContradiction fun hyx => by
        obtain ⟨i, hi, rfl⟩ := List.getElem_of_mem hye
        obtain ⟨j, hj, rfl⟩ := List.getElem_of_mem hx
        have hij : i ≠ j := fun e => hyx (by subst e; rfl)
        rcases Nat.lt_or_gt_of_ne hij with q | q
        · exact List.pairwise_iff_getElem.1 hp i j hi hj q hyb
        · exact List.pairwise_iff_getElem.1 hp j i hj hi q hyb.symm
    rw [← this]; exact hy
  · have hin : en ∈ es.toList ∧ seen.contains en.born = false := by
      unfold leftOf at hen
      rw [Array.toList_filter, List.mem_filter] at hen
      exact ⟨hen.1, by simpa using hen.2⟩
    have hnot : en.born ∉ vs.map (·.born) := fun hh => by rw [(hseen en).2 hh] at hin; cases hin.2
    have hr1 : w1.heap[r]? = some (.mapIter (some b) since seen c0) := by rcases hal with rfl | rfl <;> exact h2
    have hb1 : w1.heap[b]? = some (.map es clock) := by rcases hal with rfl | rfl <;> exact h1
    have hne2 : r ≠ b := fun e => by rw [e, h1] at h2; cases h2
    have hgr : w1.grownBy (setBlock w1 r (.mapIter (some b) since (seen.push en.born) clock)) (some r) := withBlk_grown w1 r _
    have hmap : (setBlock w1 r (.mapIter (some b) since (seen.push en.born) clock)).heap[b]? = some (.map es clock) := (hgr.block b (Array.getElem?_eq_some_iff.1 hb1).1 (fun e => by injection e with e; exact hne2 e.symm)).trans hb1
    have hit : (setBlock w1 r (.mapIter (some b) since (seen.push en.born) clock)).heap[r]? = some (.mapIter (some b) since (seen.push en.born) clock) := withBlk_heap hr1
    have hnd : ((vs ++ [en]).map (·.born)).Nodup := by
      rw [List.map_append, List.nodup_append]
      refine ⟨h5, by simp, fun a ha c hc hac => ?_⟩
      have : c = en.born := by simpa using hc
      subst this; subst hac; exact hnot ha
    refine .inr ⟨en, _, hin.1, hrun, ⟨hmap, ⟨since, seen.push en.born, clock, hit, by simp [h3], hold, hsk, hsk⟩, fun x hx => ?_, hnd⟩, ?_, ?_, ?_, run_entry_at _ r b since seen es clock en hit hmap hin.1 hm.born⟩
    · rcases List.mem_append.1 hx with hx | hx
      · exact h4 x hx
      · have : x = en := by simpa using hx
        rw [this]; exact hin.1
    · have hnv2 : (vs ++ [en]).Nodup := by
        unfold List.Nodup at hnd ⊢
        rw [List.pairwise_map] at hnd
        exact hnd.imp (fun hne e => hne (by rw [e]))
      have := hnv2.length_le_of_subset (l₂ := es.toList) (fun x hx => by
        rcases List.mem_append.1 hx with hx | hx
        · exact h4 x hx
        · have : x = en := by simpa using hx
          rw [this]; exact hin.1)
      have e1 := Array.length_toList (xs := es)
      rw [List.length_append, List.length_singleton] at this
      omega
    · rcases hal with rfl | rfl
      · exact hgr
      · exact ⟨hgr.os, hgr.tape, hgr.output, hgr.size, hgr.block⟩
    · rcases hal with rfl | rfl <;> exact withBlk_size _ _ _
end
section
variable {F : Fence} {n : Nat} {P : Program} (w : World) {ops : Array Oper} {rest : List Oper} {o : Oper} {a : Act} {Q : Exit → Act → World → Prop} {k t e : TypeId} {es : Array MapEntry} {clock b r : Nat} {vs : List MapEntry}
theorem wpi_range (hg : o.guard = none) {m : Operand} (hop : o.op = Op.range t m) (ht : P.underlying t = some (.map k e)) (hm : a.eval m = .map (some b)) (hb : w.heap[b]? = some (.map es clock)) (hk : MapOK P k es clock)
    (hK : ∀ w', ItAt w' b w.heap.size es clock [] → w.grownBy w' none → w'.heap.size = w.heap.size + 1 → wpListIn F n P ops Q rest (a.put o.dst (.pointer (some ⟨w.heap.size, 0, none⟩))) w') : wpListIn F n P ops Q (o :: rest) a w := by
  refine wpListIn_plain hg fun K' hK' => ?_
  obtain ⟨w', hrun, r1, r2, r3⟩ := it_range ht hb hk
  unfold Oper.wpIn
  refine ⟨?_, ?_⟩
  · simp [Oper.about, hop]
  · rw [Oper.semAt_plain F _ _ (by rw [hop]; intro c hc'; cases hc')]
    simp [execOp, hop, hm, hrun, Result.andThen]
    exact hK' _ _ (hK w' r1 r2 r3)
theorem wpi_next (hg : o.guard = none) {it : Operand} (hop : o.op = Op.next it false) (hit : a.eval it = .pointer (some ⟨r, 0, none⟩)) (h : ItAt w b r es clock vs) (hk : MapOK P k es clock)
    (hDone : vs.Perm es.toList → wpListIn F n P ops Q rest (a.put o.dst (.tuple #[.bool false])) w)
    (hMore : ∀ (en : MapEntry) (w' : World), en ∈ es.toList → ItAt w' b r es clock (vs ++ [en]) → vs.length < es.size → w.grownBy w' (some r) → w'.heap.size = w.heap.size → (Instr.entry (.pointer (some ⟨r, 0, none⟩))).run P w' = .ok (.tuple #[en.key, en.val]) w' → wpListIn F n P ops Q rest (a.put o.dst (.tuple #[.bool true, en.key, en.val])) w') :
    wpListIn F n P ops Q (o :: rest) a w := by
  refine wpListIn_plain hg fun K' hK' => ?_
  unfold Oper.wpIn
  refine ⟨by simp [Oper.about, hop], ?_⟩
  rw [Oper.semAt_plain F _ _ (by rw [hop]; intro c hc'; cases hc')]
  rcases it_next h hk o.type with ⟨h0, hrun⟩ | ⟨en, w', h1, hrun, h2, h3, h4, h5, h6⟩
  · simp [execOp, hop, hit, hrun, Result.andThen]
    exact hK' _ _ (hDone h0)
  · simp [execOp, hop, hit, hrun, Result.andThen]
    exact hK' _ _ (hMore en w' h1 h2 h3 h4 h5 h6)
end
end Go.Proofs.Ytofhohofaedokaa

/- Struct values built of parts that are not written out. No program in sight. -/
namespace Go.Proofs.Ytofhohofaedokaa
open Go.RowKit
set_option linter.unusedVariables false

theorem fill_nil {place : Nat → Option (Nat × Nat)} {cells : List Value} : Instr.fill place cells.toArray [] = some cells.toArray := rfl
theorem splice_get {α : Type} (L cs : List α) (off k : Nat) (h : off + cs.length ≤ L.length) : (splice L off cs)[k]? = if off ≤ k ∧ k < off + cs.length then cs[k - off]? else L[k]? := by
  unfold splice
  have hl : (L.take off).length = off := by rw [List.length_take]; omega
  by_cases h1 : k < off
  · rw [if_neg (by omega), List.getElem?_append_left (by omega), List.getElem?_take, if_pos h1]
  · rw [List.getElem?_append_right (by omega), hl]
    by_cases h2 : k - off < cs.length
    · rw [if_pos (by omega), List.getElem?_append_left h2]
    · rw [if_neg (by omega), List.getElem?_append_right (by omega), List.getElem?_drop]
      congr 1; omega
theorem fill_cons {place : Nat → Option (Nat × Nat)} {cells cs : List Value} {i off s : Nat} {v : Value} {rest : List (Nat × Value)} (hp : place i = some (off, s)) (hv : v.cells = cs.toArray) (hs : cs.length = s) (hle : off + s ≤ cells.length) :
    Instr.fill place cells.toArray ((i, v) :: rest) = Instr.fill place (splice cells off cs).toArray rest := by
  conv => lhs; unfold Instr.fill
  simp only [hp]
  have hsz : v.cells.size = s := by rw [hv]; simpa using hs
  rw [if_neg (by simp [hsz]; omega)]
  congr 1
  obtain ⟨h1, h2⟩ := Great.foldl_set off cs 0 cells.toArray
  have e : (v.cells.zipIdx.foldl (fun cs (x : Value × Nat) => cs.setIfInBounds (off + x.2) x.1) cells.toArray) = ((cs.zipIdx 0).foldl (fun cs (x : Value × Nat) => cs.setIfInBounds (off + x.2) x.1) cells.toArray) := by
    rw [hv, ← Array.foldl_toList, Array.toList_zipIdx]
  refine Eq.trans e ?_
  apply Array.ext_getElem?
  intro k
  rw [h2 k]
  simp only [Nat.add_zero, List.size_toArray, List.getElem?_toArray]
  rw [splice_get _ _ _ _ (by omega)]
  by_cases hk : off ≤ k ∧ k < off + cs.length
  · rw [if_pos ⟨hk.1, hk.2, by omega⟩, if_pos hk]
  · rw [if_neg (fun h => hk ⟨h.1, h.2.1⟩), if_neg hk]
theorem splice_mid {α : Type} {pre old post new : List α} {off : Nat} (h1 : pre.length = off) (h2 : old.length = new.length) : splice (pre ++ (old ++ post)) off new = pre ++ (new ++ post) := by
  unfold splice
  rw [← h1, List.take_left, ← h2, ← List.drop_drop, List.drop_left, List.drop_left]
section
variable {P : Program} {ops : Array Oper} {rest : List Oper} {o : Oper} {a : Act} {w : World} {Q : Exit → Act → World → Prop}
theorem exec_build {ev : Operand → Value} {t : TypeId} {parts : Array (Nat × Operand)} {cells : List Value} (ho : o.op = .build t parts) (h : P.built t (parts.toList.map fun (i, x) => (i, ev x)) = some cells.toArray) (w : World) :
    (execOp ev o).run P w = .ok (.value (.agg cells.toArray)) w := by
  unfold execOp
  simp only [ho, Sem.run_bind, run_build w t (parts.map fun (i, x) => (i, ev x)) _ (by rw [Array.toList_map]; exact h), Result.andThen_ok]
  rfl
theorem wpl_build (hgd : o.guard = none) {t : TypeId} {parts : Array (Nat × Operand)} (ho : o.op = .build t parts) {cells : List Value} (h : P.built t (parts.toList.map fun (i, x) => (i, a.eval x)) = some cells.toArray)
    (hk : wpList P ops Q rest (a.put o.dst (.agg cells.toArray)) w) : wpList P ops Q (o :: rest) a w := by
  refine wpList_plain hgd fun K hK => ?_
  unfold Oper.wp
  rw [exec_build ho h w]
  exact hK _ _ hk
end
end Go.Proofs.Ytofhohofaedokaa

/- Whole structs in a walk inside a fence: laid, stored, loaded, put into a row. No program in sight. -/
namespace Go.Proofs.Ytofhohofaedokaa
open Go.RowKit
set_option linter.unusedVariables false
section
variable {F : Fence} {n : Nat} {P : Program} {w : World} {ops : Array Oper} {rest : List Oper} {o : Oper} {a : Act} {Q : Exit → Act → World → Prop}
theorem wpi_run (hg : o.guard = none) (hc : ∀ c, o.op ≠ .call c) (hd : ∀ c, o.op ≠ .defer c) {r : Result Next} (hr : (execOp a.eval o).run P w = r) (h : ∀ K : Act → World → Prop, (∀ a w, wpListIn F n P ops Q rest a w → K a w) → o.uponIn F n P a K Q r) : wpListIn F n P ops Q (o :: rest) a w := by
  refine wpListIn_plain hg fun K hK => ?_
  unfold Oper.wpIn
  refine ⟨?_, ?_⟩
  · intro f hf
    unfold Oper.about at hf
    split at hf
    · rename_i c hcc; exact absurd hcc (hc c)
    · cases hf
  · rw [Oper.semAt_plain F _ _ hd, hr]; exact h K hK
theorem wpi_alloc (hgd : o.guard = none) {T : TypeId} (ho : o.op = .alloc T) {zs : List Value} (hz : (P.info? T).map (·.zero) = some (some (.agg zs.toArray)))
    (h : ∀ w', Blk w' w.heap.size T zs → w' = w.alloc (.cells zs.toArray T) → wpListIn F n P ops Q rest (a.put o.dst (.pointer (some ⟨w.heap.size, 0, none⟩))) w') : wpListIn F n P ops Q (o :: rest) a w := by
  obtain ⟨i, hi, hzz⟩ := Option.map_eq_some_iff.1 hz
  have hrun : (Instr.alloc T true (.tuple #[])).run P w = .ok (.pointer (some ⟨w.heap.size, 0, none⟩)) (w.alloc (.cells zs.toArray T)) := by
    simp [Instr.alloc, zeroValue, typeInfo, hi, hzz, newVar, newRow, Value.cells]
  refine wpi_run hgd (by rw [ho]; intro c e; cases e) (by rw [ho]; intro c e; cases e) (r := .ok (.value (.pointer (some ⟨w.heap.size, 0, none⟩))) (w.alloc (.cells zs.toArray T))) ?_ (fun K hK => hK _ _ (h _ (heap_alloc_new _ _) rfl))
  unfold execOp
  simp only [ho, Sem.run_bind, hrun, Result.andThen_ok, Sem.run_pure]
theorem wpi_storeb (hgd : o.guard = none) {T : TypeId} {x y : Operand} (ho : o.op = .store T x y) {m : Nat} (hT : RowT P T m) {g : Nat} {t : TypeId} {old cs : List Value} (hb : Blk w g t old) (hx : a.eval x = .pointer (some ⟨g, 0, none⟩)) (hy : a.eval y = .agg cs.toArray)
    (hol : old.length = m) (hn : cs.length = m) (h1 : ∀ u ∈ cs, u.oneCell' = true)
    (h : ∀ w', Blk w' g t cs → w.grownBy w' (some g) → w'.heap.size = w.heap.size → wpListIn F n P ops Q rest (a.put o.dst undef) w') : wpListIn F n P ops Q (o :: rest) a w := by
  have hk := h _ (setRow_heap w g _ _ t _ hb) ⟨rfl, rfl, rfl, by simp, fun k _ hk => setRow_other w g k _ (fun e => hk (by simp [e]))⟩ (by simp)
  refine wpListIn_plain hgd fun K hK => ?_
  unfold Oper.wpIn
  refine ⟨?_, ?_⟩
  · intro f hf
    simp only [Oper.about, ho] at hf
    cases hf
  · rw [Oper.semAt_plain F _ _ (by rw [ho]; intro c e; cases e)]
    unfold execOp
    simp only [ho, hx, hy, Sem.run_bind, run_storeb hT hb hol hn h1, Result.andThen_ok, Sem.run_pure]
    exact hK _ _ hk
theorem wpi_loadb (hgd : o.guard = none) {T : TypeId} {x : Operand} (ho : o.op = .load T x) {m : Nat} (hT : RowT P T m) {g : Nat} {t : TypeId} {cs : List Value} (hb : Blk w g t cs) (hx : a.eval x = .pointer (some ⟨g, 0, none⟩)) (hn : cs.length = m)
    (h : wpListIn F n P ops Q rest (a.put o.dst (.agg cs.toArray)) w) : wpListIn F n P ops Q (o :: rest) a w := by
  obtain ⟨d, hu, hd, hi⟩ := hT
  have hrun := run_loadVar_row (P := P) w g t T cs.toArray (0, 0) d hb hu (by revert hd; cases d <;> simp) (by rw [hi]; simp [hn])
  refine wpListIn_plain hgd fun K hK => ?_
  unfold Oper.wpIn
  refine ⟨?_, ?_⟩
  · intro f hf
    simp only [Oper.about, ho] at hf
    cases hf
  · rw [Oper.semAt_plain F _ _ (by rw [ho]; intro c e; cases e)]
    unfold execOp
    simp only [ho, hx, Instr.loadAt, Instr.sureAddr, Sem.run_bind, Sem.run_pure, Result.andThen_ok, hrun]
    exact hK _ _ h
theorem run_row1i {t e : TypeId} {sz bytes : Nat} (HE : ElemT P t e sz bytes) {ys : List Value} (hl : ys.length = sz) (h24 : sz ≤ 16777216) :
    (Instr.buildSlice t 1 #[(0, .agg ys.toArray)]).run P w = .ok (.slice (some ⟨w.heap.size, 0, none⟩) 1 1) (w.alloc (.cells ys.toArray e)) := by
  obtain ⟨i, z, hi, hz, hsz, hby, hzs, h0⟩ := HE.hi
  have h1 : ¬ (16777216 < i.size) := by omega
  have h2 : ¬ (i.size = 0) := by omega
  have hf : Instr.fill (fun k => some (k * i.size, i.size)) ((Array.range i.size).map fun k => z.cells[k % z.cells.size]!) [(0, .agg ys.toArray)] = some ys.toArray := by
    obtain ⟨cs, hcs⟩ : ∃ cs : List Value, cs = ((Array.range i.size).map fun k => z.cells[k % z.cells.size]!).toList := ⟨_, rfl⟩
    have e1 : ((Array.range i.size).map fun k => z.cells[k % z.cells.size]!) = cs.toArray := by rw [hcs]
    have hcl : cs.length = i.size := by rw [hcs]; simp
    rw [e1, fill_cons (off := 0) (s := i.size) (cs := ys) (by simp) rfl (by omega) (by omega), fill_nil]
    congr 2
    unfold splice
    rw [List.drop_of_length_le (by omega)]; simp
  simp [Instr.buildSlice, run_underlying HE.ht, sizeOf, typeInfo, zeroValue, hi, hz, h1, h2, hf, newRow]
theorem wpi_row1 (hgd : o.guard = none) {t : TypeId} {x : Operand} (ho : o.op = .buildSlice t 1 #[(0, x)]) {e : TypeId} {sz bytes : Nat} (HE : ElemT P t e sz bytes) {ys : List Value}
    (hx : a.eval x = .agg ys.toArray) (hl : ys.length = sz) (h24 : sz ≤ 16777216)
    (h : ∀ w', Blk w' w.heap.size e ys → w' = w.alloc (.cells ys.toArray e) → wpListIn F n P ops Q rest (a.put o.dst (.slice (some ⟨w.heap.size, 0, none⟩) 1 1)) w') : wpListIn F n P ops Q (o :: rest) a w := by
  have hr := run_row1i (P := P) (w := w) HE hl h24
  refine wpi_run hgd (by rw [ho]; intro c e; cases e) (by rw [ho]; intro c e; cases e) (r := .ok (.value (.slice (some ⟨w.heap.size, 0, none⟩) 1 1)) (w.alloc (.cells ys.toArray e))) ?_ (fun K hK => hK _ _ (h _ (heap_alloc_new _ _) rfl))
  unfold execOp
  simp only [ho, List.map_toArray, List.map_cons, List.map_nil, hx, Sem.run_bind, hr, Result.andThen_ok, Sem.run_pure]
end
theorem cell_row_new (w : World) (ys : List Value) (e : TypeId) : ∀ (j : Nat) (u : Value), ys[j]? = some u → (w.alloc (.cells ys.toArray e)).cell? ((⟨w.heap.size, 0, none⟩ : Addr).add j) = some u := by
  intro j u hj
  rw [Addr.add_lit, Nat.zero_add]
  have h : Blk (w.alloc (.cells ys.toArray e)) w.heap.size e ys := heap_alloc_new _ _
  exact h.at_ hj
end Go.Proofs.Ytofhohofaedokaa

/- slices.AppendSeq(nil, seq), slices.Collect(seq) of outputs, against whatever iterator value. -/
namespace Go.Proofs.Ytofhohofaedokaa
open Go.RowKit Go.Maps Go.Sort Go.Shelf
set_option linter.unusedVariables false
def encPV (p : PtS) : Value := .agg (encPt p).toArray
theorem encPV_inj {p q : PtS} (h : encPV p = encPV q) : p = q := encPt_inj (by unfold encPV at h; injection h with h; exact congrArg Array.toList h)
/-- The range over a function in a body: its assignment, its body. -/
def rfOf : Code → Option (Code × Code)
  | .rangeFunc _ _ a c => some (a, c)
  | .seq a b => match rfOf a with
    | some x => some x
    | none => rfOf b
  | .cond _ a b => match rfOf a with
    | some x => some x
    | none => rfOf b
  | .block _ a => rfOf a
  | .loop a => rfOf a
  | .scope a => rfOf a
  | _ => none
theorem zero_pt : (Try.prog.info? 83).map (·.zero) = some (some (.agg (ptV (pt 0)).toArray)) := by kernel_rfl
theorem grownBy_up {a b : World} {r : Option Nat} (h : a.grownBy b none) : a.grownBy b r := ⟨h.os, h.tape, h.output, h.size, fun k hk _ => h.block k hk (by simp)⟩
theorem grownBy_trans0 {a b c : World} {r : Option Nat} (h : a.grownBy b r) (k : b.grownBy c r) : a.grownBy c r :=
  ⟨k.os.trans h.os, k.tape.trans h.tape, k.output.trans h.output, Nat.le_trans h.size k.size, fun i hi hn => (k.block i (Nat.lt_of_lt_of_le hi h.size) hn).trans (h.block i hi hn)⟩
theorem own_new {W w' : World} {base : Nat} {e : TypeId} {size : Nat} {v : Value} {k : Nat} {xs : List Value} {q : Nat} (h : W.ownsRow base e size v k xs) (hg : W.grownBy w' (some q)) (hq : W.heap.size ≤ q) : w'.ownsRow base e size v k xs :=
  h.kept hg (by
    rcases h.2 with ⟨rfl, _⟩ | ⟨g, cap, cur, rfl, _, hgb, _⟩
    · exact .inl rfl
    · refine .inr fun e' => ?_
      have : g = q := by simpa [Value.ownBlock] using e'
      have := (Array.getElem?_eq_some_iff.1 hgb).1
      omega)
end Go.Proofs.Ytofhohofaedokaa

/- Deep keys and deep equality: structs of integers and byte arrays. No program in sight. -/
namespace Go.Proofs.Ytofhohofaedokaa
open Go.RowKit
open Go.WideMaps (KeyLaw)
set_option linter.unusedVariables false
set_option linter.unusedSimpArgs false
section
variable {P : Program}

theorem kl_int {t : TypeId} {k : IntKind} (ht : P.underlying t = some (.int k)) (d : Nat) (z : Int) (h : (Lit.int k z).wf = true) : ∃ l, P.keyLits (d + 1) t [.int k z] = some l := by
  unfold Program.keyLits
  rw [ht]
  refine ⟨[.int k z], ?_⟩
  show (if k = k ∧ (Lit.int k z).wf = true then some [Lit.int k z] else none) = _
  rw [if_pos ⟨rfl, h⟩]
theorem mapM_ex {α β : Type} (f : α → Option β) : ∀ (l : List α), (∀ x ∈ l, ∃ y, f x = some y) → ∃ r, l.mapM f = some r
  | [], _ => ⟨[], rfl⟩
  | x :: l, h => by
    obtain ⟨y, hy⟩ := h x (by simp)
    obtain ⟨r, hr⟩ := mapM_ex f l (fun z hz => h z (by simp [hz]))
    exact ⟨y :: r, by rw [List.mapM_cons, hy, hr]; rfl⟩
theorem kl_struct {t : TypeId} {fs : Array Field} (ht : P.underlying t = some (.struct fs)) (d : Nat) (cs : List Value) (hl : cs.length = P.cellsOf t) (hn : fs.all (·.name != "_") = true)
    (h : ∀ f ∈ fs.toList, ∃ l, P.keyLits d f.type ((cs.drop f.offset).take (P.cellsOf f.type)) = some l) : ∃ l, P.keyLits (d + 1) t cs = some l := by
  unfold Program.keyLits
  rw [ht]
  obtain ⟨r, hr⟩ := mapM_ex _ fs.toList h
  simp only
  rw [if_pos ⟨hl, hn⟩, hr]
  exact ⟨_, rfl⟩
theorem kl_bytes {t e : TypeId} {n : Nat} (ht : P.underlying t = some (.array n e)) (he : P.underlying e = some (.int .u8)) (hce : P.cellsOf e = 1) (hct : P.cellsOf t = n) (d : Nat) (ds : List UInt8) (h : ds.length = n) : ∃ l, P.keyLits (d + 2) t (ds.map B) = some l := by
  unfold Program.keyLits
  rw [ht]
  simp only [List.length_map, h, hct, if_true, hce, Nat.mul_one]
  obtain ⟨r, hr⟩ := mapM_ex (fun i => P.keyLits (d + 1) e (List.take 1 (List.drop i (ds.map B)))) (List.range n) (fun i hi => by
    have hi : i < n := by simpa using hi
    have e1 : List.take 1 (List.drop i (ds.map B)) = [B (ds[i]?.getD 0)] := by
      rw [List.take_one, List.head?_drop, List.getElem?_map, List.getElem?_eq_getElem (by omega)]; rfl
    rw [e1]
    exact kl_int he d (b8 (ds[i]?.getD 0)) (by have := b8_range (ds[i]?.getD 0); simp [Lit.wf, IntKind.min, IntKind.max, IntKind.signed, IntKind.bits]; omega))
  rw [hr]
  exact ⟨_, rfl⟩
theorem keyOf_wide {t : TypeId} (hw : (match P.underlying t with | some (.array _ _) | some (.struct _) => true | _ => false) = true) (hk : P.keyType t = true) (cs : List Value) (hf : (Value.agg cs.toArray).formed P t = true) :
    keyOf P t (.agg cs.toArray) = (P.keyLits (P.types.size + 1) t cs).map fun ls => .string (keyBytes ls) := by
  unfold keyOf
  revert hw
  cases hu : P.underlying t with
  | none => intro h; cases h
  | some d =>
    cases d
    case array => intro _; simp [hk, hf, Value.cells]
    case struct => intro _; simp [hk, hf, Value.cells]
    all_goals (intro h; cases h)
theorem formed_wide {t : TypeId} (hw : (match P.underlying t with | some (.array _ _) | some (.struct _) => true | _ => false) = true) (cs : List Value) (hl : cs.length = P.cellsOf t) : (Value.agg cs.toArray).formed P t = true := by
  unfold Value.formed
  revert hw
  cases hu : P.underlying t with
  | none => simp
  | some d => cases d <;> simp [hl]
/-- From the cells' literals to the key. -/
theorem keyOf_ex {t : TypeId} (hw : (match P.underlying t with | some (.array _ _) | some (.struct _) => true | _ => false) = true) (hk : P.keyType t = true) (cs : List Value) (hl : cs.length = P.cellsOf t)
    (h : ∃ l, P.keyLits (P.types.size + 1) t cs = some l) : ∃ l, keyOf P t (.agg cs.toArray) = some l := by
  obtain ⟨l, hl2⟩ := h
  rw [keyOf_wide hw hk cs (formed_wide hw cs hl), hl2]
  exact ⟨_, rfl⟩
/-- '==' on two values of such a type. -/
theorem eql_deep {t : TypeId} (K : KeyLaw P t) {m : Nat} (hm : m ≤ 10000) (hd : P.keyTypeAt m t = true) (hw : (match P.underlying t with | some (.array _ _) | some (.struct _) => true | _ => false) = true) (hk : P.keyType t = true)
    (x y : List Value) (hx : x.length = P.cellsOf t) (hy : y.length = P.cellsOf t) (kx : ∃ l, P.keyLits (P.types.size + 1) t x = some l) (ky : ∃ l, P.keyLits (P.types.size + 1) t y = some l) :
    ∃ r : Bool, (r = true ↔ x = y) ∧ ∀ w, (Op.equalIn 10000 t (.agg x.toArray) (.agg y.toArray)).run P w = .ok r w := by
  obtain ⟨lx, hlx⟩ := keyOf_ex hw hk x hx kx
  obtain ⟨ly, hly⟩ := keyOf_ex hw hk y hy ky
  have hf := fun cs hl => formed_wide (P := P) (t := t) hw cs hl
  obtain ⟨l1, e1⟩ := kx
  obtain ⟨l2, e2⟩ := ky
  have hall : ∀ w, ∃ r : Bool, (Op.equalIn 10000 t (.agg x.toArray) (.agg y.toArray)).run P w = .ok r w ∧ (r = true ↔ l1 = l2) := by
    intro w
    have := run_equalIn_deep (P := P) (10000 - m) m t hd w _ _ (.agg x.toArray) (.agg y.toArray) l1 l2 (hf x hx) (hf y hy) (by simpa [Value.cells] using e1) (by simpa [Value.cells] using e2)
    rwa [show 10000 - m + m = 10000 by omega] at this
  have hxy : l1 = l2 ↔ x = y := by
    constructor
    · intro h
      subst h
      have k1 : keyOf P t (.agg x.toArray) = keyOf P t (.agg y.toArray) := by
        rw [keyOf_wide hw hk x (hf x hx), keyOf_wide hw hk y (hf y hy), e1, e2]
      have := K.inj hlx (k1 ▸ hlx)
      simpa using this
    · intro h
      subst h
      rw [e1] at e2; cases e2; rfl
  by_cases h : x = y
  · refine ⟨true, by simp [h], fun w => ?_⟩
    obtain ⟨r, h1, h2⟩ := hall w
    have : r = true := h2.2 (hxy.2 h)
    rw [h1, this]
  · refine ⟨false, by simp [h], fun w => ?_⟩
    obtain ⟨r, h1, h2⟩ := hall w
    have : r = false := by
      cases r with
      | false => rfl
      | true => exact absurd (hxy.1 (h2.1 rfl)) h
    rw [h1, this]
end
end Go.Proofs.Ytofhohofaedokaa

/- Contracts of the document's Put of headers and entries. Printed by mkhdrd.py. -/
import Derived.Test.YtobmldegjajocaaCommandRateT9
import Derived.Test.YtobmldegjajocaaCommandRateT8
import Derived.Test.YtobmldegjajocaaCommandRateT4
import Derived.Test.YtobmldegjajocaaCommandRateT1
set_option linter.unusedSimpArgs false
/- Contracts of the document's Put of headers and entries. Printed by mkhdrd.py. -/
namespace Go.Proofs.Ytobmldegjajocaa
open Go.RowKit Go.Shelf
set_option linter.unusedVariables false
end Go.Proofs.Ytobmldegjajocaa
/- Contracts of the document's Id of a header, and of the leaves. -/
namespace Go.Proofs.Ytobmldegjajocaa
open Go.RowKit Go.Shelf
set_option linter.unusedVariables false
end Go.Proofs.Ytobmldegjajocaa
/- A digest stored in the midst of a struct; headers built. Printed by mknext.py. -/
namespace Go.Proofs.Ytobmldegjajocaa
open Go.RowKit Go.Shelf
set_option linter.unusedVariables false
theorem blk_setCells {g : Nat} {t : TypeId} : ∀ (vs : List Value) (o : Nat) (w : World) (cs : List Value), Blk w g t cs → o + vs.length ≤ cs.length → Blk (w.setCells g o vs) g t (splice cs o vs)
  | [], o, w, cs, h, _ => by simpa [splice, World.setCells] using h
  | v :: r, o, w, cs, h, hl => by
    simp only [List.length_cons] at hl
    have h1 := blk_setCells r (o + 1) _ _ (h.set_ o v) (by rw [List.length_set]; omega)
    have e : splice (cs.set o v) (o + 1) r = splice cs o (v :: r) := by
      apply List.ext_getElem?
      intro k
      rw [splice_get _ _ _ _ (by rw [List.length_set]; omega), splice_get _ _ _ _ (by simp only [List.length_cons]; omega)]
      simp only [List.length_cons]
      by_cases h1 : k = o
      · subst h1
        rw [if_neg (by omega), if_pos (by omega), List.getElem?_set, if_pos rfl, if_pos (by omega), Nat.sub_self]; rfl
      · by_cases h2 : o + 1 ≤ k ∧ k < o + 1 + r.length
        · rw [if_pos h2, if_pos (by omega), show k - o = (k - (o + 1)) + 1 by omega, List.getElem?_cons_succ]
        · rw [if_neg h2, if_neg (by omega), List.getElem?_set, if_neg (by omega)]
    rw [e] at h1
    exact h1
theorem grown_setCells (g : Nat) : ∀ (vs : List Value) (o : Nat) (w : World), w.grownBy (w.setCells g o vs) (some g) ∧ (w.setCells g o vs).heap.size = w.heap.size
  | [], o, w => ⟨⟨rfl, rfl, rfl, Nat.le_refl _, fun _ _ _ => rfl⟩, rfl⟩
  | v :: r, o, w => by
    obtain ⟨h1, h2⟩ := grown_setCells g r (o + 1) (w.setCell ⟨g, o, none⟩ v)
    exact ⟨grown_trans (grown_set w g o v) h1, h2.trans (by simp)⟩
section
variable {P : Program} {ops : Array Oper} {rest : List Oper} {o : Oper} {a : Act} {w : World} {Q : Exit → Act → World → Prop}
theorem wpl_storem (hgd : o.guard = none) {T : TypeId} {x y : Operand} (ho : o.op = .store T x y) {n : Nat} (hT : RowT P T n) {g off : Nat} {t : TypeId} {old cs : List Value} (hb : Blk w g t old) (hx : a.eval x = .pointer (some ⟨g, off, none⟩)) (hy : a.eval y = .agg cs.toArray)
    (hn : cs.length = n) (hle : off + n ≤ old.length) (h1 : ∀ u ∈ cs, u.oneCell' = true)
    (h : ∀ w', Blk w' g t (splice old off cs) → w.grownBy w' (some g) → w'.heap.size = w.heap.size → wpList P ops Q rest (a.put o.dst undef) w') : wpList P ops Q (o :: rest) a w := by
  obtain ⟨d, hu, hd, hi⟩ := hT
  refine wpList_store_mid hgd T x y ho g off cs.toArray hx hy (fun j hj => ?_) (by rw [hi]; simp [hn]) (all_oneCell_toArray h1) ?_
  · simp only [List.size_toArray] at hj
    exact ⟨by rw [hb.at_ (List.getElem?_eq_getElem (show off + j < old.length by omega))]; rfl, hb.frozen _⟩
  · obtain ⟨h2, h3⟩ := grown_setCells g cs off w
    exact h _ (blk_setCells cs off w old hb (by omega)) h2 h3
end
theorem built_hdr0 (parts : List (Nat × Value)) : Try.prog.built 57 parts = Instr.fill (fun i => (#[(0, 1), (1, 1), (2, 1), (3, 32), (35, 32)] : Array (Nat × Nat))[i]?) (hdrV noHdr).toArray parts := by kernel_rfl
theorem zero_hdr2 : (Try.prog.info? 57).map (·.zero) = some (some (.agg (hdrV noHdr).toArray)) := by rw [zeroHdr_eq]; exact zero_hdr
theorem built_hdrE : Try.prog.built 57 [] = some (hdrV noHdr).toArray := by rw [built_hdr0]; rfl
theorem hdr_one (h : Hdr) : ∀ u ∈ hdrV h, u.oneCell' = true := by
  intro u hu
  unfold hdrV at hu
  simp only [List.mem_cons, List.mem_append, List.mem_map] at hu
  rcases hu with rfl | rfl | rfl | ⟨_, _, rfl⟩ | ⟨_, _, rfl⟩ <;> rfl
end Go.Proofs.Ytobmldegjajocaa
/- The contract of header.Next. Printed by mknext.py. -/
namespace Go.Proofs.Ytobmldegjajocaa
open Go.RowKit Go.Shelf
set_option linter.unusedVariables false
end Go.Proofs.Ytobmldegjajocaa
/- The document's example of seisinlaw10. -/
namespace Go.Proofs.Ytobmldegjajocaa
open Go.RowKit Go.Shelf
set_option linter.unusedVariables false
section
variable {P : Program} {ops : Array Oper} {rest : List Oper} {o : Oper} {a : Act} {w : World} {Q : Exit → Act → World → Prop}
end
end Go.Proofs.Ytobmldegjajocaa
/- The contract of the document's Next. Printed by mknext.py. -/
namespace Go.Proofs.Ytobmldegjajocaa
open Go.RowKit Go.Shelf
set_option linter.unusedVariables false
end Go.Proofs.Ytobmldegjajocaa
/- The document's answer of layer 1 (the same bytes), and lists of lists of bytes that were handed back. -/
namespace Go.Proofs.Ytobmldegjajocaa
open Go.RowKit Go.Shelf
set_option linter.unusedVariables false
def HV (xs : List Value) : Prop := xs.length = 67 ∧ ∀ u ∈ xs, u.oneCell' = true
end Go.Proofs.Ytobmldegjajocaa
/- Rows of headers: the chain that HeaderRow lays (plain), and slices of headers. -/
namespace Go.Proofs.Ytobmldegjajocaa
open Go.RowKit Go.Shelf
set_option linter.unusedVariables false
theorem map_B_injH : ∀ {a b : List UInt8}, a.map B = b.map B → a = b
  | [], [], _ => rfl
  | [], _ :: _, h => by simp at h
  | _ :: _, [], h => by simp at h
  | x :: a, y :: b, h => by
    simp only [List.map_cons, List.cons.injEq] at h
    have h1 : x = y := by have := h.1; unfold B at this; exact b8_inj (by injection this)
    rw [h1, map_B_injH h.2]
theorem hdrV_inj {x y : Hdr} (hx : x.ok) (hy : y.ok) (h : hdrV x = hdrV y) : x = y := by
  obtain ⟨a1, a2, a3, p, r⟩ := x
  obtain ⟨b1, b2, b3, q, s⟩ := y
  have h0 : [Value.int .i64 a1, .int .i64 a2, .int .i64 a3] ++ (p.map B ++ r.map B) = [Value.int .i64 b1, .int .i64 b2, .int .i64 b3] ++ (q.map B ++ s.map B) := by
    simpa [hdrV] using h
  obtain ⟨h1, h2⟩ := List.append_inj h0 rfl
  obtain ⟨h3, h4⟩ := List.append_inj h2 (by rw [List.length_map, List.length_map]; exact hx.2.2.2.1.trans hy.2.2.2.1.symm)
  have e1 := map_B_injH h3
  have e2 := map_B_injH h4
  simp only [List.cons.injEq, Value.int.injEq, true_and, and_true] at h1
  obtain ⟨rfl, rfl, rfl⟩ := h1
  rw [e1, e2]
end Go.Proofs.Ytobmldegjajocaa
/- The walk's halt at one operation: what follows is done by hand. No program in sight. -/
namespace Go.Proofs.Ytobmldegjajocaa
open Go.RowKit
set_option linter.unusedVariables false
def StopT (p : Prop) : Prop := p
theorem wpl_stop {P : Program} {ops : Array Oper} {rest : List Oper} {o : Oper} {a : Act} {w : World} {Q : Exit → Act → World → Prop} (h : StopT (wpList P ops Q (o :: rest) a w)) : wpList P ops Q (o :: rest) a w := h
theorem stop_go {p : Prop} (h : p) : StopT p := h
end Go.Proofs.Ytobmldegjajocaa

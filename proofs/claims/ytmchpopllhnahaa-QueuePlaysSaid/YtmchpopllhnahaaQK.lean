/- The queue's contracts in the words of the laws. -/
import Derived.Test.YtmchpopllhnahaaQJ
namespace Go.Proofs.Ytmchpopllhnahaa
open Go.RowKit
set_option linter.unusedVariables false
/-- The queue at g holds ps; its blocks are M; nothing of it lies in X. -/
def QP (w : World) (base g : Nat) (X M : List Nat) (ps : List Wt) : Prop := ∃ A n c L, M = qM g A ∧ L.map Prod.snd = ps ∧ QAt w base g X A n c L ∧ ∀ b ∈ M, b ∉ X
section
variable {w w' w0 : World} {base g : Nat} {X X' M M' : List Nat} {ps : List Wt}
theorem QP.grow (h : QP w base g X M ps) (k : Grow w w') : QP w' base g X M ps := by
  obtain ⟨A, n, c, L, h1, h2, h3, h4⟩ := h
  exact ⟨A, n, c, L, h1, h2, h3.grow k, h4⟩
theorem QP.other (h : QP w base g X M ps) (k : Step w X w' X') : QP w' base g X' M ps := by
  obtain ⟨A, n, c, L, rfl, h2, h3, h4⟩ := h
  obtain ⟨h5, h6⟩ := h3.other h4 k
  exact ⟨A, n, c, L, rfl, h2, h5, h6⟩
theorem QP.bare (h : QP w base g X M ps) : QP w base g [] M ps := by
  obtain ⟨A, n, c, L, h1, h2, h3, h4⟩ := h
  exact ⟨A, n, c, L, h1, h2, h3.bare, fun b _ hb => by cases hb⟩
theorem QP.lts (h : QP w base g X M ps) : ∀ b ∈ M, base ≤ b ∧ b < w.heap.size := by
  obtain ⟨A, n, c, L, rfl, h2, h3, h4⟩ := h
  exact h3.lts
theorem QP.big (h : QP w base g X M ps) : ps.length ≤ 32 := by
  obtain ⟨A, n, c, L, rfl, rfl, h3, h4⟩ := h
  rw [List.length_map, h3.len]; exact h3.big
theorem QP.below (h : QP w w0.heap.size g X M ps) (hb : Below w0.heap.size w0 w) (k : Step w M w' M') : Below w0.heap.size w0 w' :=
  hb.trans (k.below (fun b hm => (h.lts b hm).1) hb.size)
theorem At.step {g2 : Nat} {T : TypeId} {n : Nat} {xs : List Value} (h : At w g2 T n xs) (hn : g2 ∉ M) (k : Step w M w' M') : At w' g2 T n xs ∧ g2 ∉ M' :=
  ⟨at_mk ((k.1.block g2 h.lt hn).trans h.blk) h.len, fun hm => (k.2 g2 hm).elim hn (fun h1 => by have := h.lt; omega)⟩
end
theorem lnew_any {w : World} {base : Nat} (hb : base ≤ w.heap.size) :
    Calls Try.prog 8 #[] w fun e w' => ∃ g, e = .returned (.pointer (some ⟨g, 0, none⟩)) ∧ QP w' base g [] [g] [] ∧ Grow w w' ∧ w.heap.size ≤ g :=
  (qnew_any hb).mono fun e w' ⟨g, h1, h2, h3, h4⟩ => ⟨g, h1, ⟨none, 0, 0, [], rfl, rfl, h3, fun b _ hb => by cases hb⟩, h4, h2⟩
theorem llen_any {w : World} {base g : Nat} {X M : List Nat} {ps : List Wt} (h : QP w base g X M ps) :
    Calls Try.prog 14 #[.pointer (some ⟨g, 0, none⟩)] w fun e w' => e = .returned (.int .i64 (ps.length : Int)) ∧ w = w' := by
  obtain ⟨A, n, c, L, rfl, rfl, h3, h4⟩ := h
  rw [List.length_map, h3.len]
  exact qlen_any h3
theorem lhas_any {w : World} {base g : Nat} {X M : List Nat} {ps : List Wt} (h : QP w base g X M ps) (cc nn : Int) :
    Calls Try.prog 21 #[.pointer (some ⟨g, 0, none⟩), .int .i64 cc, .int .i64 nn] w fun e w' => e = .returned (.bool (hasP ps cc nn)) ∧ Grow w w' := by
  obtain ⟨A, n, c, L, rfl, rfl, h3, h4⟩ := h
  exact qhas_any h3
theorem lpush_any {w : World} {base g : Nat} {M : List Nat} {ps : List Wt} {v : Value} {p : Wt} (h : QP w base g [] M ps) (hv : BV w M v p.bs) (hk : p.ok) :
    Calls Try.prog 9 #[.pointer (some ⟨g, 0, none⟩), wtA v p] w fun e w' => ∃ vo M', e = .returned (.tuple #[wtA vo (pushP ps p).2.1, .int .i64 (pushP ps p).2.2]) ∧ BV w' M' vo (pushP ps p).2.1.bs ∧ QP w' base g [] M' (pushP ps p).1 ∧ Step w M w' M' := by
  obtain ⟨A, n, c, L, rfl, rfl, h3, h4⟩ := h
  exact (qpush_any h3 hv hk).mono fun e w' ⟨vo, A', n', c', L', h5, h6, h7, h8, h9⟩ => ⟨vo, _, h5, h6, ⟨A', n', c', L', rfl, h8, h7, fun b _ hb => by cases hb⟩, h9⟩
theorem lpop_any {w : World} {base g : Nat} {M : List Nat} {ps : List Wt} (h : QP w base g [] M ps) :
    Calls Try.prog 11 #[.pointer (some ⟨g, 0, none⟩)] w fun e w' => ∃ vo, e = .returned (.tuple #[wtA vo (ps.headD noWt), .bool (!ps.isEmpty)]) ∧ BV w' M vo (ps.headD noWt).bs ∧ QP w' base g [] M ps.tail ∧ Step w M w' M := by
  obtain ⟨A, n, c, L, rfl, rfl, h3, h4⟩ := h
  cases L with
  | nil =>
    obtain rfl : n = 0 := by have := h3.len; simpa using this.symm
    exact (qpop_nil h3).mono fun e w' ⟨h5, h6⟩ => ⟨nilS, h5, BV.nil _ _, ⟨A, 0, c, [], rfl, rfl, h3.grow h6, fun b _ hb => by cases hb⟩, .of_grow _ h6⟩
  | cons p L => exact (qpop_cons h3).mono fun e w' ⟨v', h5, h6, h7, h8⟩ => ⟨v', h5, h6, ⟨A, n - 1, c, L, rfl, rfl, h7, fun b _ hb => by cases hb⟩, h8⟩
theorem lall_any {w : World} {base g : Nat} {X M : List Nat} {ps : List Wt} (h : QP w base g X M ps) :
    Calls Try.prog 20 #[.pointer (some ⟨g, 0, none⟩)] w fun e w' => ∃ A' c' L', e = .returned (.slice A' ps.length c') ∧ XAt w' M A' ps.length L' ∧ L'.map Prod.snd = ps ∧ Grow w w' ∧ ps.length ≤ c' := by
  obtain ⟨A, n, c, L, rfl, rfl, h3, h4⟩ := h
  rw [List.length_map, h3.len]
  exact qall_any h3
theorem lcopy_any {w : World} {base base' g : Nat} {M : List Nat} {ps : List Wt} (h : QP w base g [] M ps) (hb : base' ≤ w.heap.size) :
    Calls Try.prog 25 #[.pointer (some ⟨g, 0, none⟩)] w fun e w' => ∃ g' M', e = .returned (.pointer (some ⟨g', 0, none⟩)) ∧ QP w' base' g' M M' ps ∧ (∀ b ∈ M', w.heap.size ≤ b) ∧ Grow w w' := by
  obtain ⟨A, n, c, L, rfl, rfl, h3, h4⟩ := h
  exact (qcopy_any h3 hb).mono fun e w' ⟨g', A', c', h5, h6, h7, h8⟩ => ⟨g', _, h5, ⟨A', n, c', L, rfl, rfl, h6, fun b hb hm => by have h1 := h7 b hb; have h2 := (h3.lts b hm).2; omega⟩, h7, h8⟩
end Go.Proofs.Ytmchpopllhnahaa

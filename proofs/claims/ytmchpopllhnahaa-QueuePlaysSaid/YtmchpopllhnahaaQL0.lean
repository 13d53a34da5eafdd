/- Arguments opened: slices of float64. -/
import Derived.Test.YtmchpopllhnahaaOpenC
import Derived.Laws.Cover2
import Derived.Test.YtmchpopllhnahaaRows
namespace Go.Proofs.Ytmchpopllhnahaa
open Go.RowKit Go.ChangeShapes Go.WideShapes
set_option linter.unusedVariables false
set_option maxRecDepth 100000
section
variable {H : Type} {enc : TypeId × Value → H} {w : World} {r : Reach} {b0 base : Nat} {spare : Nat → Bool} {held : Bool}
theorem trod_f64 {fuel : Nat} {cs : List Value} {y : DataW H × List MemPlace} (h : DataW.trod enc Try.prog w base spare held fuel 26 cs = some y) : ∃ x : Nat, cs = [.float .f64 x] ∧ x < 2 ^ 64 := by
  cases fuel with
  | zero => simp [DataW.trod] at h
  | succ f =>
    simp only [DataW.trod, Try.underlying26] at h
    cases cs with
    | nil => simp at h
    | cons v r =>
      cases r with
      | cons a b => cases v <;> simp at h
      | nil =>
        cases v with
        | float k' b =>
          simp only [Option.ite_none_right_eq_some] at h
          obtain ⟨⟨rfl, hw⟩, _⟩ := h
          exact ⟨b, rfl, by simpa [Lit.wf] using hw⟩
        | _ => simp at h
theorem open_f64s {v : Value} {d : DataW H} {ps : List MemPlace} (hval : Value.okWide Try.prog w r b0 22 v) (h : DataW.Trod enc Try.prog w base spare held 22 v d ps) :
    ∃ A n c, ∃ xs : List Nat, v = .slice A n c ∧ Sl w w.heap.size 1 A n (xs.map (Value.float .f64)) ∧ ∀ x ∈ xs, x < 2 ^ 64 := by
  obtain ⟨A, n, c, l, h1, h2, h3, h4, h5, h6, _⟩ := open_list (fun x : Nat => [Value.float .f64 x]) (fun x => x < 2 ^ 64) Try.underlying22 (by kernel_rfl) (show 0 < 1 by omega) (fun fuel cs y _ h => trod_f64 h) hval h
  exact ⟨A, n, c, l, h1, by rw [← flat_one]; exact h5, h6⟩
end
end Go.Proofs.Ytmchpopllhnahaa

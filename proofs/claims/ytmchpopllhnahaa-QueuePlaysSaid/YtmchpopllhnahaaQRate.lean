/- Rates: whether two are the same, and what their order says of it. -/
import Derived.Test.YtmchpopllhnahaaRateL
namespace Go.Proofs.Ytmchpopllhnahaa
open Go.RowKit
set_option linter.unusedVariables false
def sameF (x y : Nat) : Bool := (x == y) || (nanB x && nanB y)
theorem rsame_any (x y : Nat) (w : World) (hx : x < 2^64) (hy : y < 2^64) : Calls Try.prog 12 #[.float .f64 x, .float .f64 y] w fun e w' => e = .returned (.bool (sameF x y)) ∧ w = w' := by
  have h1 := ord_ne x x hx hx
  have h2 := ord_ne y y hy hy
  rw [eqF_self, Bool.not_not] at h1 h2
  have e1 := ext_bits x
  have e2 := ext_bits y
  rw [sameF]
  by_cases hxy : x = y
  · subst hxy
    rw [show (x == x) = true by simp, Bool.true_or]
    clear h1 h2 e2
    go_enter Try.func12, Try.ntmps12
    go_wp2
    go_ret
    exact ⟨rfl, rfl⟩
  · have hb : (x == y) = false := beq_eq_false_iff_ne.2 hxy
    have hb2 : ((x : Int) == (y : Int)) = false := beq_eq_false_iff_ne.2 (by omega)
    rw [hb, Bool.false_or]
    generalize nanB x = b1 at *
    generalize nanB y = b2 at *
    clear hxy hb
    cases b1
    · clear h2
      go_enter Try.func12, Try.ntmps12
      go_wp2
      go_ret
      exact ⟨rfl, rfl⟩
    · cases b2
      all_goals
        go_enter Try.func12, Try.ntmps12
        go_wp2
        go_ret
        exact ⟨rfl, rfl⟩
theorem sameF_key {x y : Nat} (hx : x < 2^64) (hy : y < 2^64) : sameF x y = true ↔ keyF x = keyF y := by
  have a1 : x / 2^63 < 2 := by omega
  have a2 : y / 2^63 < 2 := by omega
  unfold sameF
  cases h1 : nanB x with
  | true =>
    cases h2 : nanB y with
    | true => simp [keyF_nan h1, keyF_nan h2]
    | false =>
      rw [keyF_nan h1, keyF_num hy h2]
      have hr := rung_le h2
      have hi := inf_lt
      have hne : x ≠ y := fun e => by rw [e, h2] at h1; cases h1
      simp only [Bool.true_and, Bool.or_false, beq_iff_eq]
      constructor
      · exact fun e => absurd e hne
      · intro e; split at e <;> omega
  | false =>
    cases h2 : nanB y with
    | true =>
      rw [keyF_nan h2, keyF_num hx h1]
      have hr := rung_le h1
      have hi := inf_lt
      have hne : x ≠ y := fun e => by rw [← e, h1] at h2; cases h2
      simp only [Bool.false_and, Bool.or_false, beq_iff_eq]
      constructor
      · exact fun e => absurd e hne
      · intro e; split at e <;> omega
    | false =>
      rw [keyF_num hx h1, keyF_num hy h2]
      have r1 := rung_le h1; have r2 := rung_le h2
      have hi := inf_lt
      simp only [Bool.false_and, Bool.or_false, beq_iff_eq]
      unfold negB
      unfold rung at *
      constructor
      · intro e; subst e; rfl
      · intro e
        split at e <;> rename_i e1 <;> split at e <;> rename_i e2 <;> simp only [decide_eq_true_eq, Nat.not_le] at e1 e2 <;> omega
theorem cmpK_zero {x y : Nat} (hx : x < 2^64) (hy : y < 2^64) : cmpK x y = 0 ↔ sameF x y = true := by
  rw [sameF_key hx hy]; unfold cmpK cmpN
  constructor
  · intro h; split at h
    · omega
    · split at h <;> omega
  · intro h; rw [h]; simp
end Go.Proofs.Ytmchpopllhnahaa

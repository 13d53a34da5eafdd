/- The walk of CoinsOrder. -/
import Derived.Test.YtolbbhbfbpiljaaCoinE
namespace Go.Proofs.Ytolbbhbfbpiljaa
open Go.RowKit
set_option linter.unusedVariables false

theorem cb_neg : ∀ (a b : List UInt8), Lib.compareBytes b a = - Lib.compareBytes a b
  | [], [] => by simp [Lib.compareBytes]
  | [], _ :: _ => by simp [Lib.compareBytes]
  | _ :: _, [] => by simp [Lib.compareBytes]
  | x :: a, y :: b => by
    rw [Lib.compareBytes, Lib.compareBytes]
    by_cases h1 : x < y
    · have h2 : ¬ y < x := UInt8.lt_asymm h1
      simp [h1, h2]
    · by_cases h2 : y < x
      · simp [h1, h2]
      · simp [h1, h2, cb_neg a b]
theorem cb_range : ∀ (a b : List UInt8), -1 ≤ Lib.compareBytes a b ∧ Lib.compareBytes a b ≤ 1
  | [], [] => by simp [Lib.compareBytes]
  | [], _ :: _ => by simp [Lib.compareBytes]
  | _ :: _, [] => by simp [Lib.compareBytes]
  | x :: a, y :: b => by
    rw [Lib.compareBytes]
    have := cb_range a b
    split
    · omega
    · split
      · omega
      · exact this
theorem u8_eq {x y : UInt8} (h1 : ¬ x < y) (h2 : ¬ y < x) : x = y := UInt8.le_antisymm (UInt8.not_lt.1 h2) (UInt8.not_lt.1 h1)
theorem cb_zero : ∀ (a b : List UInt8), Lib.compareBytes a b = 0 → a = b
  | [], [], _ => rfl
  | [], _ :: _, h => by simp [Lib.compareBytes] at h
  | _ :: _, [], h => by simp [Lib.compareBytes] at h
  | x :: a, y :: b, h => by
    rw [Lib.compareBytes] at h
    split at h
    · omega
    · split at h
      · omega
      · rename_i h1 h2
        rw [u8_eq h1 h2, cb_zero a b h]
theorem cb_trans : ∀ (a b c : List UInt8), Lib.compareBytes a b ≤ 0 → Lib.compareBytes b c ≤ 0 → Lib.compareBytes a c ≤ 0
  | [], _, [], _, _ => by simp [Lib.compareBytes]
  | [], _, _ :: _, _, _ => by simp [Lib.compareBytes]
  | _ :: _, [], _, h, _ => by simp [Lib.compareBytes] at h
  | _ :: _, _ :: _, [], _, h => by simp [Lib.compareBytes] at h
  | x :: a, y :: b, z :: c, h1, h2 => by
    rw [Lib.compareBytes] at h1 h2 ⊢
    split at h1
    · rename_i g1
      split at h2
      · rename_i g2
        rw [if_pos (UInt8.lt_trans g1 g2)]; omega
      · split at h2
        · omega
        · rename_i g2 g3
          rw [← u8_eq g2 g3, if_pos g1]; omega
    · split at h1
      · omega
      · rename_i g1 g2
        rw [u8_eq g1 g2]
        split at h2
        · rename_i g3; rw [if_pos g3]; omega
        · split at h2
          · omega
          · rename_i g3 g4
            rw [if_neg g3, if_neg g4]
            exact cb_trans a b c h1 h2
theorem cmpI_neg (a b : Int) : cmpI b a = - cmpI a b := by unfold cmpI; (repeat' split) <;> omega
theorem cmpI_range (a b : Int) : -1 ≤ cmpI a b ∧ cmpI a b ≤ 1 := by unfold cmpI; (repeat' split) <;> omega
theorem cmpI_trans (a b c : Int) (h1 : cmpI a b ≤ 0) (h2 : cmpI b c ≤ 0) : cmpI a c ≤ 0 := by
  unfold cmpI at *; (repeat' split) <;> (repeat' split at h1) <;> (repeat' split at h2) <;> omega
theorem cmpI_zero (a b : Int) (h : cmpI a b = 0) : a = b := by unfold cmpI at h; (repeat' split at h) <;> omega
theorem cmpP_neg (p q : PtK) : cmpP q p = - cmpP p q := by
  unfold cmpP
  rw [cb_neg p.1 q.1, cmpI_neg p.2 q.2]
  by_cases h : Lib.compareBytes p.1 q.1 = 0
  · rw [if_pos h, if_pos (by omega)]
  · rw [if_neg h, if_neg (by omega)]
theorem cmpP_range (p q : PtK) : -1 ≤ cmpP p q ∧ cmpP p q ≤ 1 := by
  unfold cmpP
  have := cb_range p.1 q.1
  have := cmpI_range p.2 q.2
  split <;> omega
theorem cmpP_zero (p q : PtK) : cmpP p q = 0 ↔ p = q := by
  unfold cmpP
  constructor
  · intro h
    by_cases h1 : Lib.compareBytes p.1 q.1 = 0
    · rw [if_pos h1] at h
      exact Prod.ext (cb_zero _ _ h1) (cmpI_zero _ _ h)
    · rw [if_neg h1] at h; exact absurd h h1
  · intro h
    subst h
    rw [cb_self, if_pos rfl]; unfold cmpI; simp
theorem cmpP_trans (p q r : PtK) (h1 : cmpP p q ≤ 0) (h2 : cmpP q r ≤ 0) : cmpP p r ≤ 0 := by
  unfold cmpP at *
  by_cases g1 : Lib.compareBytes p.1 q.1 = 0
  · rw [if_pos g1] at h1
    have e := cb_zero _ _ g1
    rw [← e] at h2
    by_cases g2 : Lib.compareBytes p.1 r.1 = 0
    · rw [if_pos g2] at h2 ⊢
      exact cmpI_trans _ _ _ h1 h2
    · rw [if_neg g2] at h2 ⊢; exact h2
  · rw [if_neg g1] at h1
    by_cases g2 : Lib.compareBytes q.1 r.1 = 0
    · have e := cb_zero _ _ g2
      rw [← e, if_neg g1]; exact h1
    · rw [if_neg g2] at h2
      have h3 := cb_trans _ _ _ h1 h2
      by_cases g3 : Lib.compareBytes p.1 r.1 = 0
      · exfalso
        have e := cb_zero _ _ g3
        rw [← e, cb_neg p.1 q.1] at h2
        omega
      · rw [if_neg g3]; exact h3

set_option maxRecDepth 100000 in
theorem eql_pt (p q : PtK) (hp : PtOK p) (hq : PtOK q) : ∀ w, (Op.equalIn 10000 52 (.agg (ptV p).toArray) (.agg (ptV q).toArray)).run Try.prog w = .ok (decide (p = q)) w := by
  intro w
  obtain ⟨la, ha⟩ := keyOf_pt p hp
  obtain ⟨lb, hb⟩ := keyOf_pt q hq
  have hf : ∀ x : PtK, x.1.length = 32 → (ptA x).formed Try.prog 52 = true := by
    intro x hx
    unfold ptA Value.formed
    simp only [Try.underlying52, cells_point, List.size_toArray, ptV_length hx]
    rfl
  have hk : Try.prog.keyType 52 = true := by kernel_rfl
  have ha' := ha
  have hb' := hb
  unfold keyOf at ha hb
  rw [Try.underlying52] at ha hb
  simp only [hk, hf p hp.1, hf q hq.1, Bool.and_self, if_true] at ha hb
  obtain ⟨l1, e1, e1'⟩ := Option.map_eq_some_iff.1 ha
  obtain ⟨l2, e2, e2'⟩ := Option.map_eq_some_iff.1 hb
  obtain ⟨r, hr, hiff⟩ := run_equalIn_deep (P := Try.prog) 9997 3 52 (by kernel_rfl) w _ _ (ptA p) (ptA q) l1 l2 (hf p hp.1) (hf q hq.1) e1 e2
  have : r = decide (p = q) := by
    rw [Bool.eq_iff_iff, hiff, decide_eq_true_eq]
    constructor
    · intro h
      subst h
      rw [e1'] at e2'
      subst e2'
      exact ptA_inj hp.1 hq.1 (kl_point.inj ha' hb')
    · intro h
      subst h
      rw [e1] at e2; cases e2; rfl
  rw [← this]
  exact hr

end Go.Proofs.Ytolbbhbfbpiljaa

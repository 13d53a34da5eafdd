/- The walk of CoinsOrder. -/
import Derived.Test.YtcbanjbibankgaaCoinE
namespace Go.Proofs.Ytcbanjbibankgaa
open Go.RowKit
set_option linter.unusedVariables false

theorem cb_neg : ∀ (a b : List UInt8), Lib.compareBytes b a = - Lib.compareBytes a b
  | [], [] => by simp [Lib.compareBytes]
  | [], _ :: _ => by simp [Lib.compareBytes]
  | _ :: _, [] => by simp [Lib.compareBytes]
  | x :: a, y :: b => by
    rw [Lib.compareBytes, Lib.compareBytes]
    by_cases h1 : x < y
    · have h2 : ¬ y < x := UInt8.lt_asymm h1
      simp [h1, h2]
    · by_cases h2 : y < x
      · simp [h1, h2]
      · simp [h1, h2, cb_neg a b]
theorem cb_range : ∀ (a b : List UInt8), -1 ≤ Lib.compareBytes a b ∧ Lib.compareBytes a b ≤ 1
  | [], [] => by simp [Lib.compareBytes]
  | [], _ :: _ => by simp [Lib.compareBytes]
  | _ :: _, [] => by simp [Lib.compareBytes]
  | x :: a, y :: b => by
    rw [Lib.compareBytes]
    have := cb_range a b
    split
    · omega
    · split
      · omega
      · exact this
theorem u8_eq {x y : UInt8} (h1 : ¬ x < y) (h2 : ¬ y < x) : x = y := UInt8.le_antisymm (UInt8.not_lt.1 h2) (UInt8.not_lt.1 h1)
theorem cb_zero : ∀ (a b : List UInt8), Lib.compareBytes a b = 0 → a = b
  | [], [], _ => rfl
  | [], _ :: _, h => by simp [Lib.compareBytes] at h
  | _ :: _, [], h => by simp [Lib.compareBytes] at h
  | x :: a, y :: b, h => by
    rw [Lib.compareBytes] at h
    split at h
    · omega
    · split at h
      · omega
      · rename_i h1 h2
        rw [u8_eq h1 h2, cb_zero a b h]
theorem cb_trans : ∀ (a b c : List UInt8), Lib.compareBytes a b ≤ 0 → Lib.compareBytes b c ≤ 0 → Lib.compareBytes a c ≤ 0
  | [], _, [], _, _ => by simp [Lib.compareBytes]
  | [], _, _ :: _, _, _ => by simp [Lib.compareBytes]
  | _ :: _, [], _, h, _ => by simp [Lib.compareBytes] at h
  | _ :: _, _ :: _, [], _, h => by simp [Lib.compareBytes] at h
  | x :: a, y :: b, z :: c, h1, h2 => by
    rw [Lib.compareBytes] at h1 h2 ⊢
    split at h1
    · rename_i g1
      split at h2
      · rename_i g2
        rw [if_pos (UInt8.lt_trans g1 g2)]; omega
      · split at h2
        · omega
        · rename_i g2 g3
          rw [← u8_eq g2 g3, if_pos g1]; omega
    · split at h1
      · omega
      · rename_i g1 g2
        rw [u8_eq g1 g2]
        split at h2
        · rename_i g3; rw [if_pos g3]; omega
        · split at h2
          · omega
          · rename_i g3 g4
            rw [if_neg g3, if_neg g4]
            exact cb_trans a b c h1 h2
theorem cmpI_neg (a b : Int) : cmpI b a = - cmpI a b := by unfold cmpI; (repeat' split) <;> omega
theorem cmpI_range (a b : Int) : -1 ≤ cmpI a b ∧ cmpI a b ≤ 1 := by unfold cmpI; (repeat' split) <;> omega
theorem cmpI_trans (a b c : Int) (h1 : cmpI a b ≤ 0) (h2 : cmpI b c ≤ 0) : cmpI a c ≤ 0 := by
  unfold cmpI at *; (repeat' split) <;> (repeat' split at h1) <;> (repeat' split at h2) <;> omega
theorem cmpI_zero (a b : Int) (h : cmpI a b = 0) : a = b := by unfold cmpI at h; (repeat' split at h) <;> omega
theorem cmpP_neg (p q : PtK) : cmpP q p = - cmpP p q := by
  unfold cmpP
  rw [cb_neg p.1 q.1, cmpI_neg p.2 q.2]
  by_cases h : Lib.compareBytes p.1 q.1 = 0
  · rw [if_pos h, if_pos (by omega)]
  · rw [if_neg h, if_neg (by omega)]
theorem cmpP_range (p q : PtK) : -1 ≤ cmpP p q ∧ cmpP p q ≤ 1 := by
  unfold cmpP
  have := cb_range p.1 q.1
  have := cmpI_range p.2 q.2
  split <;> omega
theorem cmpP_zero (p q : PtK) : cmpP p q = 0 ↔ p = q := by
  unfold cmpP
  constructor
  · intro h
    by_cases h1 : Lib.compareBytes p.1 q.1 = 0
    · rw [if_pos h1] at h
      exact Prod.ext (cb_zero _ _ h1) (cmpI_zero _ _ h)
    · rw [if_neg h1] at h; exact absurd h h1
  · intro h
    subst h
    rw [cb_self, if_pos rfl]; unfold cmpI; simp
theorem cmpP_trans (p q r : PtK) (h1 : cmpP p q ≤ 0) (h2 : cmpP q r ≤ 0) : cmpP p r ≤ 0 := by
  unfold cmpP at *
  by_cases g1 : Lib.compareBytes p.1 q.1 = 0
  · rw [if_pos g1] at h1
    have e := cb_zero _ _ g1
    rw [← e] at h2
    by_cases g2 : Lib.compareBytes p.1 r.1 = 0
    · rw [if_pos g2] at h2 ⊢
      exact cmpI_trans _ _ _ h1 h2
    · rw [if_neg g2] at h2 ⊢; exact h2
  · rw [if_neg g1] at h1
    by_cases g2 : Lib.compareBytes q.1 r.1 = 0
    · have e := cb_zero _ _ g2
      rw [← e, if_neg g1]; exact h1
    · rw [if_neg g2] at h2
      have h3 := cb_trans _ _ _ h1 h2
      by_cases g3 : Lib.compareBytes p.1 r.1 = 0
      · exfalso
        have e := cb_zero _ _ g3
        rw [← e, cb_neg p.1 q.1] at h2
        omega
      · rw [if_neg g3]; exact h3

theorem eql_pt (p q : PtK) (hp : PtOK p) (hq : PtOK q) : ∀ w, (Op.equalIn 10000 36 (.agg (ptV p).toArray) (.agg (ptV q).toArray)).run Try.prog w = .ok (decide (p = q)) w := by
  intro w
  obtain ⟨la, ha⟩ := keyOf_pt p hp
  obtain ⟨lb, hb⟩ := keyOf_pt q hq
  have hf : ∀ x : PtK, x.1.length = 32 → (ptA x).formed Try.prog 36 = true := by
    intro x hx
    unfold ptA Value.formed
    simp only [Try.underlying36, cells_point, List.size_toArray, ptV_length hx]
    rfl
  have hk : Try.prog.keyType 36 = true := by kernel_rfl
  have ha' := ha
  have hb' := hb
  unfold keyOf at ha hb
  rw [Try.underlying36] at ha hb
  simp only [hk, hf p hp.1, hf q hq.1, Bool.and_self, if_true] at ha hb
  obtain ⟨l1, e1, e1'⟩ := Option.map_eq_some_iff.1 ha
  obtain ⟨l2, e2, e2'⟩ := Option.map_eq_some_iff.1 hb
  obtain ⟨r, hr, hiff⟩ := run_equalIn_deep (P := Try.prog) 9997 3 36 (by kernel_rfl) w _ _ (ptA p) (ptA q) l1 l2 (hf p hp.1) (hf q hq.1) e1 e2
  have : r = decide (p = q) := by
    rw [Bool.eq_iff_iff, hiff, decide_eq_true_eq]
    constructor
    · intro h
      subst h
      rw [e1'] at e2'
      subst e2'
      exact ptA_inj hp.1 hq.1 (kl_point.inj ha' hb')
    · intro h
      subst h
      rw [e1] at e2; cases e2; rfl
  rw [← this]
  exact hr

set_option maxRecDepth 100000 in
set_option maxHeartbeats 4000000 in
theorem walk_CoinsOrder (p q r : PtK) (w : World) (hp : PtOK p) (hq : PtOK q) (hr : PtOK r) :
    Calls Try.prog 7 #[ptA p, ptA q, ptA r] w fun e w' => e = .returned (.bool true) ∧ Below w.heap.size w w' := by
  have k1 := fun w => ccmp_any p q w hp.1 hq.1
  have k2 := fun w => ccmp_any q r w hq.1 hr.1
  have k3 := fun w => ccmp_any p r w hp.1 hr.1
  have k4 := fun w => rccmp_any p q w hp.1 hq.1
  have k5 := fun w => ccmp_any q p w hq.1 hp.1
  have eq := eql_pt p q hp hq
  have hz := cmpP_zero p q
  have ht := cmpP_trans p q r
  rw [cmpP_neg p q] at k5
  obtain ⟨r1, r2⟩ := cmpP_range p q
  obtain ⟨same, hsame⟩ : ∃ same, same = decide (p = q) := ⟨_, rfl⟩
  rw [← hsame] at eq
  obtain ⟨x, hx⟩ : ∃ x, x = cmpP p q := ⟨_, rfl⟩
  obtain ⟨y, hy⟩ : ∃ y, y = cmpP q r := ⟨_, rfl⟩
  obtain ⟨z, hz'⟩ : ∃ z, z = cmpP p r := ⟨_, rfl⟩
  rw [← hx] at k1 k4 k5 hz ht r1 r2
  rw [← hy] at k2 ht
  rw [← hz'] at k3 ht
  have hxs : (x == 0) = same := by
    rw [hsame, Bool.eq_iff_iff]; simp [hz]
  have HXS := Lib.hid hxs
  have HT := Lib.hid ht
  have L1 := Lib.hid (ptV_length hp.1); have L2 := Lib.hid (ptV_length hq.1); have L3 := Lib.hid (ptV_length hr.1)
  clear hsame hx hy hz' hz ht hxs hp hq hr
  simp only [ptA] at k1 k2 k3 k4 k5 ⊢
  generalize ptV p = ps at *
  generalize ptV q = qs at *
  generalize ptV r = rs at *
  have K1 := Lib.hid k1; have K2 := Lib.hid k2; have K3 := Lib.hid k3; have K4 := Lib.hid k4; have K5 := Lib.hid k5
  have EQ := Lib.hid eq
  clear k1 k2 k3 k4 k5 eq
  have hwr : IntKind.i64.wrap (- - x) = x := by rw [Int.neg_neg]; exact IntWalk.i64_in _ (by omega)
  obtain ⟨g, hg⟩ : ∃ g, g = w.heap.size := ⟨_, rfl⟩
  have HG := Lib.hid hg
  clear hg
  go_enter Try.func7, Try.ntmps7
  go_wp2_with (first | (with_reducible refine wpl_box (o := ⟨some 3, _, _, _, _, _⟩) rfl rfl rfl ?_))
  intro w1 hb1 hbw1 hsz1
  rw [← HG.out] at hb1 hbw1 hsz1 ⊢
  go_wp2_with (first | (with_reducible refine wpl_box (o := ⟨some 4, _, _, _, _, _⟩) rfl rfl rfl ?_))
  intro w2 hb2 hbw2 hsz2
  go_wp2_with (first | (with_reducible refine wpl_box (o := ⟨some 5, _, _, _, _, _⟩) rfl rfl rfl ?_))
  intro w3 hb3 hbw3 hsz3
  have H1 := Lib.hid ((hb1.below hbw2 (by omega)).below hbw3 (by omega))
  have H2 := Lib.hid (hb2.below hbw3 (by omega))
  have H3 := Lib.hid hb3
  have HB := Lib.hid ((hbw1.trans (hbw2.mono (by omega))).trans (hbw3.mono (by omega)))
  have HZ := Lib.hid (show g ≤ w3.heap.size by omega)
  clear hb1 hb2 hb3 hbw1 hbw2 hbw3 hsz1 hsz2 hsz3
  generalize hg1 : g + 1 = g1 at *
  generalize hg2 : g1 + 1 = g2 at *
  clear hg1 hg2
  repeat' (first | (with_reducible refine wp_phase (id := 1) (fun (_ : Nat) w' => Below w3.heap.size w3 w') [] [(0,0),(0,0),(0,0),(0,0),(0,0),(0,0),(0,0),(0,0),(0,0),(0,0),(0,0),(0,0)] (by kernel_rfl) (by kernel_rfl) ?_ ?_) | go_values | go_skip | go_guarded | go_step | go_upon | go_back)
  · exact Drawn.all (Drawn.one w3)
  refine ph_load rfl rfl rfl row_point (fun k _ _ w h => H1.out.call h) rfl L1.out ?_
  (intro K hK; go_simp; refine hK _ ?_; clear hK K)
  refine ph_load rfl rfl rfl row_point (fun k _ _ w h => H2.out.call h) rfl L2.out ?_
  (intro K hK; go_simp; refine hK _ ?_; clear hK K)
  refine ph_call rfl (by first | rfl | go_simp) (fun w => by first | (go_simp; rfl) | (go_simp; done) | rfl) (fun k _ _ w h => (K1.out w).mono fun e w' ⟨he, hb⟩ => ⟨he, below_step h h.size hb⟩) ?_
  (intro K hK; go_simp; refine hK _ ?_; clear hK K)
  refine ph_load rfl rfl rfl row_point (fun k _ _ w h => H2.out.call h) rfl L2.out ?_
  (intro K hK; go_simp; refine hK _ ?_; clear hK K)
  refine ph_load rfl rfl rfl row_point (fun k _ _ w h => H3.out.call h) rfl L3.out ?_
  (intro K hK; go_simp; refine hK _ ?_; clear hK K)
  refine ph_call rfl (by first | rfl | go_simp) (fun w => by first | (go_simp; rfl) | (go_simp; done) | rfl) (fun k _ _ w h => (K2.out w).mono fun e w' ⟨he, hb⟩ => ⟨he, below_step h h.size hb⟩) ?_
  (intro K hK; go_simp; refine hK _ ?_; clear hK K)
  refine ph_load rfl rfl rfl row_point (fun k _ _ w h => H1.out.call h) rfl L1.out ?_
  (intro K hK; go_simp; refine hK _ ?_; clear hK K)
  refine ph_load rfl rfl rfl row_point (fun k _ _ w h => H3.out.call h) rfl L3.out ?_
  (intro K hK; go_simp; refine hK _ ?_; clear hK K)
  refine ph_call rfl (by first | rfl | go_simp) (fun w => by first | (go_simp; rfl) | (go_simp; done) | rfl) (fun k _ _ w h => (K3.out w).mono fun e w' ⟨he, hb⟩ => ⟨he, below_step h h.size hb⟩) ?_
  (intro K hK; go_simp; refine hK _ ?_; clear hK K)
  refine ph_value rfl (by first | rfl | go_simp) (fun k_ _ _ w_ hC_ => by first | (go_simp; rfl) | (go_simp; done) | rfl) (fun K hK => ?_)
  go_simp
  refine hK _ ?_
  clear hK K
  refine ph_value rfl (by first | rfl | go_simp) (fun k_ _ _ w_ hC_ => by first | (go_simp; rfl) | (go_simp; done) | rfl) (fun K hK => ?_)
  go_simp
  refine hK _ ?_
  clear hK K
  refine ph_value rfl (by first | rfl | go_simp) (fun k_ _ _ w_ hC_ => by first | (go_simp; rfl) | (go_simp; done) | rfl) (fun K hK => ?_)
  go_simp
  refine hK _ ?_
  clear hK K
  refine ph_nil ?_
  intro w4 hl4
  have G1 := Lib.hid (H1.out.call hl4)
  have G2 := Lib.hid (H2.out.call hl4)
  have HB4 := Lib.hid (HB.out.trans (hl4.mono HZ.out))
  have HZ4 := Lib.hid (Nat.le_trans HZ.out hl4.size)
  clear hl4 H1 H2 H3 HB HZ
  have hxs := HXS.out
  have ways : 0 < x ∨ (x ≤ 0 ∧ 0 < y) ∨ (x ≤ 0 ∧ y ≤ 0 ∧ z ≤ 0) := by
    rcases Int.lt_or_le 0 x with h | h
    · exact .inl h
    · rcases Int.lt_or_le 0 y with h2 | h2
      · exact .inr (.inl ⟨h, h2⟩)
      · exact .inr (.inr ⟨h, h2, HT.out h h2⟩)
  have eq := EQ.out
  cases same <;> rcases ways with hw1 | ⟨hw1, hw2⟩ | ⟨hw1, hw2, hw3⟩
  all_goals
    go_wp2_with (first | (with_reducible refine wpl_loadb (o := ⟨some 20, _, _, _, _, _⟩) rfl rfl row_point G1.out rfl L1.out ?_) | (with_reducible refine wpl_loadb (o := ⟨some 21, _, _, _, _, _⟩) rfl rfl row_point G2.out rfl L2.out ?_))
    refine (K4.out _).mono ?_
    rintro e w5 ⟨rfl, hb5⟩
    have F1 := Lib.hid (G1.out.call hb5)
    have F2 := Lib.hid (G2.out.call hb5)
    have HB5 := Lib.hid (HB4.out.trans (hb5.mono HZ4.out))
    have HZ5 := Lib.hid (Nat.le_trans HZ4.out hb5.size)
    clear hb5
    go_wp2_with (first | (with_reducible refine wpl_loadw (o := ⟨some 26, _, _, _, _, _⟩) (by first | rfl | go_simp) rfl row_point F2.out rfl L2.out ?_) | (with_reducible refine wpl_loadw (o := ⟨some 27, _, _, _, _, _⟩) (by first | rfl | go_simp) rfl row_point F1.out rfl L1.out ?_))
    refine (K5.out _).mono ?_
    rintro e w6 ⟨rfl, hb6⟩
    have E1 := Lib.hid (F1.out.call hb6)
    have E2 := Lib.hid (F2.out.call hb6)
    have HB6 := Lib.hid (HB5.out.trans (hb6.mono HZ5.out))
    have HZ6 := Lib.hid (Nat.le_trans HZ5.out hb6.size)
    clear hb6
    go_wp2_with (first | (with_reducible refine wpl_loadw (o := ⟨some 35, _, _, _, _, _⟩) (by first | rfl | go_simp) rfl row_point E1.out rfl L1.out ?_) | (with_reducible refine wpl_loadw (o := ⟨some 36, _, _, _, _, _⟩) (by first | rfl | go_simp) rfl row_point E2.out rfl L2.out ?_))
    refine (awake19 _).mono ?_
    rintro e w7 ⟨rfl, hb7⟩
    have HB7 := Lib.hid (HB6.out.trans (hb7.mono HZ6.out))
    clear hb7
    go_wp2_with fail
    go_ret
    exact ⟨rfl, by rw [← HG.out]; exact HB7.out⟩
end Go.Proofs.Ytcbanjbibankgaa

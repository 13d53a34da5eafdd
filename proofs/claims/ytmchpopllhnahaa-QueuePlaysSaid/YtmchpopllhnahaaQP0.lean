/- The plain law of the queue: what is pushed stands in its order. -/
import Derived.Test.YtmchpopllhnahaaQK
namespace Go.Proofs.Ytmchpopllhnahaa
set_option linter.unusedVariables false
def keyW (x : Wt) : Nat := keyF x.rate
/-- x stands ahead of y. -/
def Ah (x y : Wt) : Prop := keyW y < keyW x ∨ (keyW x = keyW y ∧ x.num < y.num)
theorem cmpK_lt {x y : Nat} : cmpK x y < 0 ↔ keyF x < keyF y := by unfold cmpK cmpN; (repeat' split) <;> omega
theorem cmpK_gt {x y : Nat} : 0 < cmpK x y ↔ keyF y < keyF x := by unfold cmpK cmpN; (repeat' split) <;> omega
theorem cmpK_le0 {x y : Nat} : cmpK x y ≤ 0 ↔ keyF x ≤ keyF y := by unfold cmpK cmpN; (repeat' split) <;> omega
theorem insP_nil (p : Wt) : insP p [] = [p] := rfl
theorem insP_cons (p x : Wt) (r : List Wt) : insP p (x :: r) = if keyW x < keyW p then p :: x :: r else x :: insP p r := by
  have h : isLess p.rate x = decide (keyW x < keyW p) := by unfold isLess keyW; rw [decide_eq_decide]; exact cmpK_lt
  unfold insP
  conv => lhs; unfold posP
  rw [h]
  by_cases hk : keyW x < keyW p
  · rw [if_pos hk, if_pos (by simpa using hk)]; rfl
  · rw [if_neg hk, if_neg (by simpa using hk)]; rfl
theorem insP_mem {p x : Wt} : ∀ {ps : List Wt}, x ∈ insP p ps ↔ x = p ∨ x ∈ ps
  | [] => by simp [insP_nil]
  | y :: r => by
    rw [insP_cons]
    split
    · simp
    · rw [List.mem_cons, insP_mem (ps := r), List.mem_cons]
      constructor
      · rintro (h | h | h) <;> simp [h]
      · rintro (h | h | h) <;> simp [h]
theorem insP_length (p : Wt) : ∀ ps : List Wt, (insP p ps).length = ps.length + 1
  | [] => rfl
  | y :: r => by
    rw [insP_cons]
    split
    · rfl
    · rw [List.length_cons, insP_length p r, List.length_cons]
theorem insP_ahead {p : Wt} : ∀ {ps : List Wt}, ps.Pairwise Ah → (∀ x ∈ ps, x.num < p.num) → (insP p ps).Pairwise Ah
  | [], _, _ => by rw [insP_nil]; simp
  | x :: r, h, hn => by
    rw [List.pairwise_cons] at h
    rw [insP_cons]
    split
    · rename_i hk
      rw [List.pairwise_cons, List.pairwise_cons]
      refine ⟨fun z hz => ?_, h⟩
      rcases List.mem_cons.1 hz with rfl | hz
      · exact .inl hk
      · left
        rcases h.1 z hz with h1 | h1
        · omega
        · rw [← h1.1]; exact hk
    · rename_i hk
      rw [List.pairwise_cons]
      refine ⟨fun z hz => ?_, insP_ahead h.2 (fun y hy => hn y (List.mem_cons_of_mem _ hy))⟩
      rcases insP_mem.1 hz with rfl | hz
      · have := hn x (List.mem_cons_self ..)
        unfold Ah
        omega
      · exact h.1 z hz
theorem insP_nums {p : Wt} {ps : List Wt} (h : (ps.map Wt.num).Nodup) (hn : ∀ x ∈ ps, x.num < p.num) : ((insP p ps).map Wt.num).Nodup := by
  induction ps with
  | nil => rw [insP_nil]; simp
  | cons x r ih =>
    rw [List.map_cons, List.nodup_cons] at h
    rw [insP_cons]
    have hx := hn x (List.mem_cons_self ..)
    split
    · rw [List.map_cons, List.nodup_cons]
      refine ⟨fun hm => ?_, by rw [List.map_cons, List.nodup_cons]; exact h⟩
      obtain ⟨y, hy, e⟩ := List.mem_map.1 hm
      have := hn y hy
      omega
    · rw [List.map_cons, List.nodup_cons]
      refine ⟨fun hm => ?_, ih h.2 (fun y hy => hn y (List.mem_cons_of_mem _ hy))⟩
      obtain ⟨y, hy, e⟩ := List.mem_map.1 hm
      rcases insP_mem.1 hy with rfl | hy
      · omega
      · exact h.1 (List.mem_map.2 ⟨y, hy, e⟩)
theorem hasP_false {ps : List Wt} {c n : Int} (h : ∀ x ∈ ps, x.num ≠ n) : hasP ps c n = false := by
  unfold hasP
  rw [List.any_eq_false]
  intro x hx
  unfold isHas
  have := h x hx
  simp [this]
theorem hasP_true {ps : List Wt} {x : Wt} (h : x ∈ ps) : hasP ps x.cl x.num = true := by
  unfold hasP
  rw [List.any_eq_true]
  exact ⟨x, h, by unfold isHas; simp⟩
/-- The queue behind k pushes of the law's own numbers. -/
def OrdI (d : Int) (xs : List Nat) (k : Nat) (ps : List Wt) : Prop :=
  ps.Pairwise Ah ∧ (ps.map Wt.num).Nodup ∧ ∀ x ∈ ps, x.cl = 0 ∧ x.bs = [] ∧ ∃ j : Nat, j < k ∧ x.num = (j : Int) + d ∧ xs[j]? = some x.rate
theorem OrdI.start (d : Int) (xs : List Nat) : OrdI d xs 0 [] := ⟨by simp, by simp, fun x hx => by cases hx⟩
theorem OrdI.lt {d : Int} {xs : List Nat} {k : Nat} {ps : List Wt} (h : OrdI d xs k ps) : ∀ x ∈ ps, x.num < (k : Int) + d := fun x hx => by
  obtain ⟨_, _, j, hj, e, _⟩ := h.2.2 x hx
  omega
theorem OrdI.ins {d : Int} {xs : List Nat} {k : Nat} {ps qs : List Wt} {r : Nat} (h : OrdI d xs k ps) (hr : xs[k]? = some r) (hq : ∀ x ∈ qs, x ∈ ps) (hs : qs.Pairwise Ah) (hn : (qs.map Wt.num).Nodup) : OrdI d xs (k + 1) (insP ⟨0, (k : Int) + d, r, []⟩ qs) := by
  have hlt : ∀ x ∈ qs, x.num < (k : Int) + d := fun x hx => h.lt x (hq x hx)
  refine ⟨insP_ahead hs hlt, insP_nums hn hlt, fun x hx => ?_⟩
  rcases insP_mem.1 hx with rfl | hx
  · exact ⟨rfl, rfl, k, by omega, rfl, hr⟩
  · obtain ⟨h1, h2, j, hj, e, h3⟩ := h.2.2 x (hq x hx)
    exact ⟨h1, h2, j, by omega, e, h3⟩
theorem OrdI.up {d : Int} {xs : List Nat} {k : Nat} {ps : List Wt} (h : OrdI d xs k ps) : OrdI d xs (k + 1) ps :=
  ⟨h.1, h.2.1, fun x hx => by obtain ⟨h1, h2, j, hj, e, h3⟩ := h.2.2 x hx; exact ⟨h1, h2, j, by omega, e, h3⟩⟩
theorem OrdI.has {d : Int} {xs : List Nat} {k : Nat} {ps : List Wt} (h : OrdI d xs k ps) (c : Int) : hasP ps c ((k : Int) + d) = false :=
  hasP_false fun x hx e => by have := h.lt x hx; omega
/-- A push into a queue that has room. -/
theorem OrdI.push {d : Int} {xs : List Nat} {k : Nat} {ps : List Wt} {r : Nat} (h : OrdI d xs k ps) (hr : xs[k]? = some r) (hl : ps.length < 32) :
    pushP ps ⟨0, (k : Int) + d, r, []⟩ = (insP ⟨0, (k : Int) + d, r, []⟩ ps, noWt, 0) ∧ OrdI d xs (k + 1) (insP ⟨0, (k : Int) + d, r, []⟩ ps) := by
  refine ⟨?_, h.ins hr (fun x hx => hx) h.1 h.2.1⟩
  unfold pushP
  rw [h.has 0, if_neg (by simp), if_neg (by omega)]
theorem key_top (x : Nat) (hx : x < 2^64) : keyF x ≤ keyF 9218868437227405312 := by
  have e : keyF 9218868437227405312 = 1 + (9218868437227405312 + 2^63) := key_small (by omega)
  rw [e]
  cases h : nanB x with
  | true => rw [keyF_nan h]; omega
  | false =>
    rw [keyF_num hx h]
    have hr := rung_le h
    rw [inf_val] at hr
    split <;> omega
end Go.Proofs.Ytmchpopllhnahaa

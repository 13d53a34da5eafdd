/- The contract of slices.Delete of one request. -/
import Derived.Test.YtmchpopllhnahaaQB
namespace Go.Proofs.Ytmchpopllhnahaa
open Go.RowKit
set_option linter.unusedVariables false
theorem zero1_wait : ∀ v ∈ wtV nilS noWt, v.oneCell' = true := (wtV_cl noWt rfl).2
/-- Rows of requests of this call's own. -/
def OwnW (w : World) (base : Nat) (A : Option Addr) (n c : Nat) (L : List (Value × Wt)) : Prop := w.ownsRow base 29 4 (.slice A n c) n (flat L)
theorem OwnW.len {w : World} {base n c : Nat} {A : Option Addr} {L : List (Value × Wt)} (h : OwnW w base A n c L) : L.length = n := by have := h.1; rw [flat_length] at this; omega
theorem OwnW.grow {w w' : World} {base n c : Nat} {A : Option Addr} {L : List (Value × Wt)} (h : OwnW w base A n c L) (k : Grow w w') : OwnW w' base A n c L := own_below h k
theorem OwnW.cap {w : World} {base n c : Nat} {A : Option Addr} {L : List (Value × Wt)} (h : OwnW w base A n c L) : n ≤ c ∧ c ≤ 9223372036854775807 := by
  rcases h.2 with ⟨hv, h0⟩ | ⟨g, cap, cur, hv, hbg, hh, hcap, hm, _⟩
  · injection hv with _ _ hc; omega
  · injection hv with _ _ hc
    unfold maxLen at hm; omega
theorem OwnW.form {w : World} {base n c : Nat} {A : Option Addr} {L : List (Value × Wt)} (h : OwnW w base A n c L) : (A = none ∧ n = 0 ∧ c = 0) ∨ ∃ g, A = some ⟨g, 0, none⟩ ∧ base ≤ g ∧ g < w.heap.size := by
  rcases h.2 with ⟨hv, h0⟩ | ⟨g, cap, cur, hv, hbg, hh, hcap, hm, _⟩
  · injection hv with hA _ hc; exact .inl ⟨hA, h0, hc⟩
  · injection hv with hA _ hc
    exact .inr ⟨g, hA, hbg, (h.lt g (by rw [hA]; rfl)).2⟩
theorem OwnW.one {w : World} {M : List Nat} {L : List (Value × Wt)} (h : ∀ p ∈ L, BV w M p.1 p.2.bs ∧ p.2.ok) : ∀ u ∈ flat L, u.oneCell' = true := by
  intro u hu
  obtain ⟨p, hp, hu2⟩ := List.mem_flatMap.1 hu
  exact (wtV_cl p.2 (h p hp).1.one).2 u hu2
/-- The cells of a row, from element k on. -/
theorem OwnW.from_ {w : World} {base g n c : Nat} {L : List (Value × Wt)} (h : OwnW w base (some ⟨g, 0, none⟩) n c L) (k : Nat) : ∀ j u, (flat (L.drop k))[j]? = some u → w.cell? ((⟨g, k * 4, none⟩ : Addr).add j) = some u := by
  intro j u hu
  rw [Addr.add_lit]
  rw [← flat_drop, List.getElem?_drop] at hu
  obtain ⟨b, off, e, hb, hc⟩ := (Sl.of_own h).2 (by
    have h1 := (List.getElem?_eq_some_iff.1 hu).1
    have h2 := h.1
    omega)
  cases e
  have := hc _ u hu
  rwa [Nat.zero_add] at this
set_option maxRecDepth 100000 in
set_option maxHeartbeats 2000000 in
theorem qdel_any {base g n c i : Nat} {L : List (Value × Wt)} {w : World} {M : List Nat} (h : OwnW w base (some ⟨g, 0, none⟩) n c L) (hi : i < n) (hM : ∀ p ∈ L, BV w M p.1 p.2.bs ∧ p.2.ok) :
    Calls Try.prog 30 #[.slice (some ⟨g, 0, none⟩) n c, .int .i64 (i : Int), .int .i64 ((i : Int) + 1)] w fun e w' => e = .returned (.slice (some ⟨g, 0, none⟩) (n - 1) c) ∧ OwnW w' base (some ⟨g, 0, none⟩) (n - 1) c (L.take i ++ L.drop (i + 1)) ∧ w.grownBy w' (some g) := by
  have HO := Lib.hid h
  have HL := Lib.hid h.len
  have HON := Lib.hid (OwnW.one hM)
  obtain ⟨hnc, hc63⟩ := h.cap
  have HT := Lib.hid (own_take (i := i) h (by omega))
  clear h hM
  have a1 : IntKind.i64.wrap ((i : Int) + 1) = (i : Int) + 1 := IntWalk.i64_in _ (by omega)
  have a2 : ((i : Int) + 1).toNat = i + 1 := by omega
  have a3 : (0 : Int) ≤ (i : Int) + 1 := by omega
  have a4 : (i : Int) + 1 ≤ (n : Int) := by omega
  have a5 : ¬ ((i : Int) = (i : Int) + 1) := by omega
  have a6 : i ≤ n := by omega
  have a7 : (i : Int) ≤ (i : Int) + 1 := by omega
  have a8 : i + 1 ≤ n := by omega
  have a9 : ((i : Int) == (i : Int) + 1) = false := beq_eq_false_iff_ne.2 a5
  have a10 : (i : Int) ≤ (c : Int) := by omega
  have a11 : i ≤ c := by omega
  go_enter Try.func30, Try.ntmps30
  go_wp2_with fail
  by_cases hcc : c = i + 1
  · subst hcc
    obtain rfl : n = i + 1 := by omega
    have HE := Lib.hid (show flat (L.take i ++ L.drop (i + 1)) = (flat L).take (i * 4) ++ [] by rw [flat_append, flat_take, List.drop_of_length_le (by rw [HL.out]; exact Nat.le_refl _)]; rfl)
    repeat' (first | (with_reducible refine wp_tail (id := 5) 6 (by kernel_rfl) (by kernel_rfl) ?_) | go_values | go_skip | go_guarded | go_step | go_upon | go_back)
    intro w6 hd6
    simp only [List.take_succ_cons, List.take_zero, List.drop_succ_cons, List.drop_zero]
    repeat still_step
    refine wpStill_nil ?_
    obtain ⟨w7, hr7, ho7, hg7, hz7⟩ := run_app_room (ty := 44) (c2 := 0) (ad := ⟨g, 0, none⟩) (cs := []) (m := 0) el_wait (hd6.own HT.out) rfl (by omega) (fun j v hj => by simp at hj) (fun v hv => by cases hv)
    have HG := Lib.hid (show w.grownBy w7 (some g) by obtain ⟨q, rfl⟩ := hd6; exact grown_undrew hg7)
    rw [← HE.out] at ho7
    simp only [Nat.add_zero] at hr7 ho7
    have HO7 := Lib.hid ho7
    clear ho7 hg7 hz7 hd6 HT HE HO HON
    obtain ⟨w8, hr8, ho8, hg8, hz8⟩ := run_clear_own (ty := 0) (m := 1) (c2 := 1) el_wait zero_wait zero1_wait HO7.out (by omega)
    have HG8 := Lib.hid (grown_trans HG.out hg8)
    have HO8 := Lib.hid ho8
    clear ho8 hg8 hz8 HO7 HG
    go_wp2_with (first | (at_builtin; refine Lib.wpList_append_run _ rfl _ _ _ _ rfl _ _ rfl rfl _ _ hr7 ?_) | (at_builtin; refine wpl_clear_run rfl rfl rfl hr8 ?_))
    go_ret
    exact ⟨rfl, HO8.out, HG8.out⟩
  · have HC := Lib.hid hcc
    have HE := Lib.hid (show flat (L.take i ++ L.drop (i + 1)) = (flat L).take (i * 4) ++ flat (L.drop (i + 1)) by rw [flat_append, flat_take])
    repeat' (first | (with_reducible refine wp_tail (id := 5) 6 (by kernel_rfl) (by kernel_rfl) ?_) | go_values | go_skip | go_guarded | go_step | go_upon | go_back)
    intro w6 hd6
    simp only [List.take_succ_cons, List.take_zero, List.drop_succ_cons, List.drop_zero]
    repeat still_step
    refine wpStill_nil ?_
    obtain ⟨w7, hr7, ho7, hg7, hz7⟩ := run_app_room (ty := 44) (c2 := c - (i + 1)) (ad := ⟨g, (i + 1) * 4, none⟩) (cs := flat (L.drop (i + 1))) (m := n - (i + 1)) el_wait (hd6.own HT.out) (by rw [flat_length, List.length_drop, HL.out]) (by omega) (fun j v hj => (hd6.cell _).trans (HO.out.from_ (i + 1) j v hj)) (fun v hv => by
      rw [← flat_drop] at hv; exact HON.out v (List.mem_of_mem_drop hv))
    have HG := Lib.hid (show w.grownBy w7 (some g) by obtain ⟨q, rfl⟩ := hd6; exact grown_undrew hg7)
    rw [← HE.out] at ho7
    have e7 : i + (n - (i + 1)) = n - 1 := by omega
    rw [e7] at ho7 hr7
    have HO7 := Lib.hid ho7
    clear ho7 hg7 hz7 hd6 HT HE HO HON e7
    obtain ⟨w8, hr8, ho8, hg8, hz8⟩ := run_clear_own (ty := 0) (m := n - (n - 1)) (c2 := c - (n - 1)) el_wait zero_wait zero1_wait HO7.out (by omega)
    have HG8 := Lib.hid (grown_trans HG.out hg8)
    have HO8 := Lib.hid ho8
    clear ho8 hg8 hz8 HO7 HG
    go_wp2_with (first | (at_builtin; refine Lib.wpList_append_run _ rfl _ _ _ _ rfl _ _ rfl rfl _ _ hr7 ?_) | (at_builtin; refine wpl_clear_run rfl rfl rfl hr8 ?_))
    go_ret
    exact ⟨rfl, HO8.out, HG8.out⟩
end Go.Proofs.Ytmchpopllhnahaa

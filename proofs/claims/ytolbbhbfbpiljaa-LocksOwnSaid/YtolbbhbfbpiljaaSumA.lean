/- Contracts of sums.is and sums.Add. -/
import Derived.Test.YtolbbhbfbpiljaaRows
import Derived.Test.YtolbbhbfbpiljaaBase
namespace Go.Proofs.Ytolbbhbfbpiljaa
open Go.RowKit

def small (n : Int) : Bool := decide (n ≤ 4611686018427387904)

theorem take_all_snoc (zs : List Int) (k : Nat) (h : k < zs.length) : (zs.take (k+1)).all small = ((zs.take k).all small && small (zs[k]?.getD 0)) := by
  rw [List.take_succ_eq_append_getElem h, List.all_append]; simp [h]

theorem is_any (b off n cap : Nat) (zs : List Int) (w : World) (hn : n = zs.length) (hlen : zs.length ≤ 1000000)
    (hc : ∀ i, i < zs.length → w.cell? ⟨b, off + i, none⟩ = some (.int .u64 (zs[i]?.getD 0))) :
    Calls Try.prog 86 #[.slice (some ⟨b, off, none⟩) n cap] w fun e w' => e = .returned (.bool (zs.all small)) ∧ w = w' := by
  subst hn
  have HC := Lib.hid hc; clear hc
  go_enter Try.func86, Try.ntmps86
  go_wp2
  go_loop [7] (fun i => ∃ k : Nat, k ≤ zs.length ∧ i = .int .i64 k ∧ (zs.take k).all small = true) (fun i => zs.length - (intOf i).toNat)
  case atStart => exact ⟨0, Nat.zero_le _, rfl, rfl⟩
  case round =>
    obtain ⟨k, hk, rfl, hall⟩ := hrel
    have HA := Lib.hid hall; clear hall
    by_cases hlt : k < zs.length
    · have hcell := HC.out k hlt
      have hs := take_all_snoc zs k hlt
      generalize hz : zs[k]?.getD 0 = z at *
      have HS := Lib.hid hs; clear hs
      have Hz := Lib.hid hz; clear hz
      by_cases hb : 4611686018427387904 < z
      · go_wp2
        go_ret
        have : zs.all small = false := by
          rw [List.all_eq_false]
          have h := Hz.out
          simp [hlt] at h
          refine ⟨z, by rw [← h]; simp, ?_⟩
          simp only [small, decide_eq_true_eq]; omega
        exact ⟨ret_bool this.symm, rfl⟩
      · go_wp2
        go_round
        case rel => exact ⟨k + 1, by omega, by go_num, by rw [HS.out, HA.out]; simp [small]; omega⟩
        case measure => simp [intOf]; omega
    · go_wp2
      go_ret
      have h := HA.out
      rw [List.take_of_length_le (by omega)] at h
      exact ⟨ret_bool h.symm, rfl⟩

theorem is_two (a b : Int) (w : World) :
    Calls Try.prog 86 #[.slice (some ⟨w.heap.size, 0, none⟩) 2 2] (w.alloc (.cells #[.int .u64 a, .int .u64 b] 30)) fun e w' => e = .returned (.bool (small a && small b)) ∧ w.alloc (.cells #[.int .u64 a, .int .u64 b] 30) = w' := by
  refine (is_any w.heap.size 0 2 2 [a, b] _ rfl (by simp) ?_).mono ?_
  · intro i hi
    match i, hi with
    | 0, _ => simp
    | 1, _ => simp
  · rintro e w' ⟨rfl, rfl⟩
    exact ⟨by simp, rfl⟩

theorem is_one (a : Int) (w : World) (h : Nat) (hh : h = w.heap.size) :
    Calls Try.prog 86 #[.slice (some ⟨h, 0, none⟩) 1 1] (w.alloc (.cells #[.int .u64 a] 30)) fun e w' => e = .returned (.bool (small a)) ∧ w.alloc (.cells #[.int .u64 a] 30) = w' := by
  subst hh
  refine (is_any w.heap.size 0 1 1 [a] _ rfl (by simp) ?_).mono ?_
  · intro i hi
    match i, hi with
    | 0, _ => simp
  · rintro e w' ⟨rfl, rfl⟩
    exact ⟨by simp, rfl⟩

theorem add_ok (a b : Int) (w : World) (ha : 0 ≤ a) (hb : 0 ≤ b) (h1 : a ≤ 4611686018427387904) (h2 : b ≤ 4611686018427387904) (h3 : a + b ≤ 4611686018427387904) :
    Calls Try.prog 53 #[.int .u64 a, .int .u64 b] w fun e w' => e = .returned (.tuple #[.int .u64 (a + b), .int .i64 0]) ∧ Below w.heap.size w w' := by
  have e1 : small a = true := by simp [small]; omega
  have e2 : small b = true := by simp [small]; omega
  have e3 : small (a + b) = true := by simp [small]; omega
  go_enter Try.func53, Try.ntmps53
  go_wp2_with fail
  refine (is_two a b _).mono ?_
  rintro e w1 ⟨rfl, rfl⟩
  go_wp2_with fail
  refine (is_one (a + b) _ _ (by simp)).mono ?_
  rintro e w1 ⟨rfl, rfl⟩
  go_wp2_with fail
  go_ret2
  exact ⟨rfl, ((Below.refl _ _).alloc (by simp) _).alloc (by simp) _⟩

theorem add_no (a b : Int) (w : World) (ha : 0 ≤ a) (hb : 0 ≤ b) (h : ¬ (a ≤ 4611686018427387904 ∧ b ≤ 4611686018427387904 ∧ a + b ≤ 4611686018427387904)) :
    Calls Try.prog 53 #[.int .u64 a, .int .u64 b] w fun e w' => e = .returned (.tuple #[.int .u64 0, .int .i64 6]) ∧ Below w.heap.size w w' := by
  by_cases hab : a ≤ 4611686018427387904 ∧ b ≤ 4611686018427387904
  · obtain ⟨h1, h2⟩ := hab
    have h3 : ¬ a + b ≤ 4611686018427387904 := fun x => h ⟨h1, h2, x⟩
    clear h
    have e1 : small a = true := by simp [small]; omega
    have e2 : small b = true := by simp [small]; omega
    have e3 : small (a + b) = false := by simp [small]; omega
    go_enter Try.func53, Try.ntmps53
    go_wp2_with fail
    refine (is_two a b _).mono ?_
    rintro e w1 ⟨rfl, rfl⟩
    go_wp2_with fail
    refine (is_one (a + b) _ _ (by simp)).mono ?_
    rintro e w1 ⟨rfl, rfl⟩
    go_wp2_with fail
    go_ret2
    exact ⟨rfl, ((Below.refl _ _).alloc (by simp) _).alloc (by simp) _⟩
  · have e1 : (small a && small b) = false := by
      simp only [small, ← Bool.decide_and, decide_eq_false_iff_not]; exact hab
    clear h hab
    go_enter Try.func53, Try.ntmps53
    go_wp2_with fail
    refine (is_two a b _).mono ?_
    rintro e w1 ⟨rfl, rfl⟩
    rw [e1]
    go_wp2_with fail
    go_ret2
    exact ⟨rfl, ((Below.refl _ _).alloc (by simp) _)⟩

def addE (a b : Int) : Int × Int := if a ≤ 4611686018427387904 ∧ b ≤ 4611686018427387904 ∧ a + b ≤ 4611686018427387904 then (a + b, 0) else (0, 6)

theorem add_any (a b : Int) (w : World) (ha : 0 ≤ a) (hb : 0 ≤ b) :
    Calls Try.prog 53 #[.int .u64 a, .int .u64 b] w fun e w' => e = .returned (.tuple #[.int .u64 (addE a b).1, .int .i64 (addE a b).2]) ∧ Below w.heap.size w w' := by
  unfold addE
  split
  · rename_i h; exact add_ok a b w ha hb h.1 h.2.1 h.2.2
  · rename_i h; exact add_no a b w ha hb h
end Go.Proofs.Ytolbbhbfbpiljaa

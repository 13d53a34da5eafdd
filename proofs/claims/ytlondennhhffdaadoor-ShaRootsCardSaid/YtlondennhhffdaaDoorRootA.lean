/- Layer 3, the document's answer: primes, powers, digits. -/
import Derived.Test.YtlondennhhffdaaDoorRootP
import Derived.Test.YtlondennhhffdaaDoorOwnB
namespace Go.Proofs.YtlondennhhffdaaDoor
open Go.RowKit Go.Shelf
set_option linter.unusedVariables false

abbrev U (x : Nat) : Value := .int .u64 (x : Int)
theorem info_u64 : (Tryd.prog.info? 68).map (fun i => (i.zero, i.size, i.bytes)) = some (some (.int .u64 0), 1, 8) := by kernel_rfl
theorem el_u64 : ElemT Tryd.prog 97 68 1 8 := elemT Tryd.underlying97 info_u64 rfl (by omega)
theorem all_u (l : List Nat) : ∀ v ∈ l.map U, v.oneCell' = true := by intro v hv; obtain ⟨x, _, rfl⟩ := List.mem_map.1 hv; rfl

set_option maxRecDepth 100000 in
theorem power_any (n k : Nat) {r : Nat} (hr : n ^ k = r) (w : World) (hn : n ≤ 1000) (hk : k ≤ 3) :
    Calls Tryd.prog 71 #[.int .i64 n, .int .i64 k] w fun e w' => e = .returned (.int .i64 (r : Int)) ∧ w' = w := by
  have HRR := Lib.hid hr
  clear hr
  go_enter Tryd.func71, Tryd.ntmps71
  go_wp2_with fail
  go_loop [5, 6] (fun v i => ∃ j p : Nat, j ≤ k ∧ i = .int .i64 j ∧ v = .int .i64 p ∧ Hid (p = n ^ j)) (fun _ i => k - (intOf i).toNat)
  case atStart => exact ⟨0, 1, by omega, rfl, rfl, Lib.hid (by simp)⟩
  case round =>
    obtain ⟨j, p, hj, rfl, rfl, hp⟩ := hrel
    by_cases hlt : j < k
    · have hpb : p ≤ 1000000 := by
        rw [hp.out]
        have : n ^ j ≤ 1000 ^ j := Nat.pow_le_pow_left hn j
        have : (1000 : Nat) ^ j ≤ 1000 ^ 2 := Nat.pow_le_pow_right (by omega) (by omega)
        omega
      have hpn : p * n ≤ 1000000000 := Nat.mul_le_mul hpb hn
      have hm : (p : Int) * (n : Int) = ((p * n : Nat) : Int) := by simp
      have HE := Lib.hid (show p * n = n ^ (j + 1) by rw [hp.out, Nat.pow_succ])
      generalize p * n = q at hpn hm HE
      have hw1 : RowKit.wrap64 (q : Int) = (q : Int) := wrap64_in _ (by omega)
      have hw2 : IntKind.i64.wrap (q : Int) = (q : Int) := IntWalk.i64_in _ (by omega)
      go_wp2_with fail
      go_round
      case rel => exact ⟨j + 1, q, by omega, by go_num, rfl, HE⟩
      case measure => simp [intOf]; omega
    · obtain rfl : j = k := by omega
      have HE := Lib.hid (show r = p by rw [hp.out, HRR.out])
      go_wp2_with fail
      go_ret
      exact ⟨by rw [HE.out]; rfl, rfl⟩

theorem primeB_no {n d : Nat} (hd : 2 ≤ d) (hdd : d * d ≤ n) (hm : n % d = 0) : primeB n = false := by
  unfold primeB
  have hdn : d < n := by
    have : 2 * d ≤ d * d := Nat.mul_le_mul_right d hd
    omega
  have : ((List.range n).all fun d => !(decide (2 ≤ d) && decide (d * d ≤ n) && n % d == 0)) = false := by
    rw [List.all_eq_false]
    exact ⟨d, List.mem_range.2 hdn, by simp [hd, hdd, hm]⟩
  rw [this]; simp
theorem primeB_yes {n d : Nat} (hd : n < d * d) (hall : ∀ e, 2 ≤ e → e < d → e * e ≤ n → n % e ≠ 0) : primeB n = decide (1 < n) := by
  unfold primeB
  have : ((List.range n).all fun d => !(decide (2 ≤ d) && decide (d * d ≤ n) && n % d == 0)) = true := by
    rw [List.all_eq_true]
    intro e he
    by_cases h2 : 2 ≤ e
    · by_cases h3 : e * e ≤ n
      · have hed : e < d := by
          rcases Nat.lt_or_ge e d with h | h
          · exact h
          · have : d * d ≤ e * e := Nat.mul_le_mul h h
            omega
        have := hall e h2 hed h3
        simp [h2, h3, this]
      · simp [h3]
    · simp [h2]
  rw [this]; simp
set_option maxRecDepth 100000 in
set_option maxHeartbeats 1000000 in
theorem prime_any (n : Nat) (w : World) (hn : n ≤ 400) :
    Calls Tryd.prog 54 #[.int .i64 n] w fun e w' => e = .returned (.bool (primeB n)) ∧ w' = w := by
  go_enter Tryd.func54, Tryd.ntmps54
  go_wp2_with fail
  go_loop [3] (fun v => ∃ d : Nat, 2 ≤ d ∧ d ≤ 22 ∧ v = .int .i64 d ∧ Hid (∀ e, 2 ≤ e → e < d → e * e ≤ n → n % e ≠ 0)) (fun v => 30 - (intOf v).toNat)
  case atStart => exact ⟨2, by omega, by omega, rfl, Lib.hid (fun e h1 h2 => by omega)⟩
  case round =>
    obtain ⟨d, hd2, hd22, rfl, hall⟩ := hrel
    have hm : (d : Int) * (d : Int) = ((d * d : Nat) : Int) := by simp
    have hdb : d * d ≤ 484 := Nat.mul_le_mul hd22 hd22
    obtain ⟨q, hq⟩ : ∃ q, q = d * d := ⟨_, rfl⟩
    rw [← hq] at hm hdb
    have HQ := Lib.hid hq
    clear hq
    have hw1 : RowKit.wrap64 (q : Int) = (q : Int) := wrap64_in _ (by omega)
    have hw2 : IntKind.i64.wrap (q : Int) = (q : Int) := IntWalk.i64_in _ (by omega)
    have hd0 : (d : Int) ≠ 0 := by omega
    have hd1 : d ≠ 0 := by omega
    have hd3 : (d : Int) ≠ -1 := by omega
    by_cases hlt : q ≤ n
    · have g1 : decide ((q : Int) ≤ (n : Int)) = true := by simp; omega
      obtain ⟨r, hr⟩ : ∃ r, r = n % d := ⟨_, rfl⟩
      have ht1 : (n : Int).tmod (d : Int) = (r : Int) := by rw [Int.tmod_eq_emod_of_nonneg (by omega), hr]; simp
      have ht2 : (n : Int) % (d : Int) = (r : Int) := by rw [hr]; simp
      have hd21 : d ≤ 21 := by
        rcases Nat.lt_or_ge d 22 with h | h
        · omega
        · have : 22 * 22 ≤ d * d := Nat.mul_le_mul h h
          rw [← HQ.out] at this
          omega
      have HR := Lib.hid hr
      clear hr
      by_cases hr0 : r = 0
      · have HP := Lib.hid (primeB_no hd2 (by rw [← HQ.out]; exact hlt) (by rw [← HR.out]; exact hr0))
        subst hr0
        go_wp2_with fail
        go_ret
        exact ⟨by rw [HP.out]; rfl, rfl⟩
      · have z1 : ((r : Int) == 0) = false := by simp; omega
        have z2 : (r == 0) = false := by simp; omega
        have z3 : decide ((r : Int) = 0) = false := by simp; omega
        have z4 : decide (r = 0) = false := by simp; omega
        have HA := Lib.hid (show ∀ e, 2 ≤ e → e < d + 1 → e * e ≤ n → n % e ≠ 0 from fun e h1 h2 h3 => by
          by_cases he : e = d
          · subst he; rw [← HR.out]; exact hr0
          · exact hall.out e h1 (by omega) h3)
        go_wp2_with fail
        go_round
        case rel => exact ⟨d + 1, by omega, by omega, by go_num, HA⟩
        case measure => simp [intOf]; omega
    · have g1 : decide ((q : Int) ≤ (n : Int)) = false := by simp; omega
      have HP := Lib.hid (primeB_yes (by rw [← HQ.out]; omega) hall.out)
      have HD := Lib.hid (show decide ((1 : Int) < (n : Int)) = decide (1 < n) from decide_eq_decide.2 (by omega))
      go_wp2_with fail
      go_ret
      refine ⟨?_, rfl⟩
      rw [HP.out, ← HD.out]; rfl

set_option maxRecDepth 100000 in
set_option maxHeartbeats 1000000 in
theorem digits_any (x : Nat) (w : World) (hx : x < 18446744073709551616) :
    Calls Tryd.prog 77 #[.int .u64 x] w fun e w' => ∃ A c, e = .returned (.slice A 4 c) ∧ Sl w' w'.heap.size 1 A 4 ((dg x 4).map U) ∧ Below w.heap.size w w' := by
  have hr : x ≤ 18446744073709551615 := by omega
  clear hx
  go_enter Tryd.func77, Tryd.ntmps77
  go_wp2_with fail
  go_loopw [0, 3, 4] (fun v o i wr => ∃ k y : Nat, ∃ A c, k ≤ 4 ∧ y ≤ 18446744073709551615 ∧ i = .int .i64 k ∧ v = .int .u64 y ∧ o = .slice A k c ∧ Hid (y = x / 65536 ^ k) ∧ Hid (wr.ownsRow w.heap.size 68 1 (.slice A k c) k ((dg x k).map U)) ∧ Hid (Below w.heap.size w wr)) (fun _ _ i _ => 4 - (intOf i).toNat)
  case atStart => exact ⟨0, x, none, 0, by omega, hr, rfl, rfl, rfl, Lib.hid (by simp), Lib.hid (by simpa [dg] using World.ownsRow_nil _ _ _ _), Lib.hid (Below.refl _ _)⟩
  case round =>
    obtain ⟨k, y, A, c, hk, hy, rfl, rfl, rfl, hyx, ho0, hb0⟩ := hrel
    by_cases hlt : k < 4
    · have m1 : (y : Int) % 65536 = ((y % 65536 : Nat) : Int) := by omega
      have m2 : (y : Int) / 65536 = ((y / 65536 : Nat) : Int) := by omega
      have HB := hb0
      have hbz := Nat.le_trans hb0.out.size (Nat.le_refl _)
      obtain ⟨r, hr2⟩ : ∃ r, r = y % 65536 := ⟨_, rfl⟩
      obtain ⟨q, hq2⟩ : ∃ q, q = y / 65536 := ⟨_, rfl⟩
      rw [← hr2] at m1; rw [← hq2] at m2
      have HR := Lib.hid hr2; have HQ := Lib.hid hq2
      have hqb : q ≤ 18446744073709551615 := by omega
      clear hr2 hq2
      go_wp2_with (at_builtin; refine wpl_app1 rfl rfl el_u64 ho0.out rfl (m := 1) rfl rfl ?_ ?_ ?_ ?_ ?_)
      · rfl
      · omega
      · omega
      · exact hbz
      · intro A4 c4 w4 ho hg hA
        have HO := Lib.hid (show w4.ownsRow w.heap.size 68 1 (.slice A4 (k + 1) c4) (k + 1) ((dg x (k + 1)).map U) by
          rw [dg, List.map_append, List.map_cons, List.map_nil, ← hyx.out, ← HR.out]; exact ho)
        have HB4 := Lib.hid (show Below w.heap.size w w4 from hb0.out.grown hg hb0.out.size (fun g hg => own_from ho0.out g hg))
        have HYQ := Lib.hid (show q = x / 65536 ^ (k + 1) by rw [HQ.out, hyx.out, Nat.div_div_eq_div_mul, Nat.pow_succ])
        clear ho hg hA
        go_wp2_with fail
        go_roundw
        case rel => exact ⟨k + 1, q, A4, c4, by omega, hqb, by go_num, rfl, rfl, HYQ, HO, HB4⟩
        case measure => simp [intOf]; omega
    · obtain rfl : k = 4 := by omega
      go_wp2_with fail
      go_ret
      exact ⟨A, c, rfl, Sl.of_own ho0.out, hb0.out⟩

set_option maxRecDepth 100000 in
theorem digit_any (A : Option Addr) (n c i : Nat) (l : List Nat) (w : World) (hs : Sl w w.heap.size 1 A n (l.map U)) :
    Calls Tryd.prog 79 #[.slice A n c, .int .i64 i] w fun e w' => e = .returned (.int .u64 ((l.getD i 0 : Nat) : Int)) ∧ w' = w := by
  have HL := Lib.hid (show l.length = n by have := hs.len; simpa using this)
  by_cases hi : i < n
  · obtain ⟨b, off, u, rfl, hb, hu, hc⟩ := hs.at_ hi
    have HU := Lib.hid (show u = .int .u64 ((l.getD i 0 : Nat) : Int) by
      rw [List.getElem?_map] at hu
      obtain ⟨y, hy, rfl⟩ := Option.map_eq_some_iff.1 hu
      rw [List.getD_eq_getElem?_getD, hy]; rfl)
    have g1 : decide ((i : Int) < (n : Int)) = true := by simp; omega
    clear hs hu hb
    go_enter Tryd.func79, Tryd.ntmps79
    go_wp2_with fail
    go_ret
    exact ⟨by rw [← HU.out]; rfl, rfl⟩
  · have HU := Lib.hid (show l.getD i 0 = 0 by rw [List.getD_eq_getElem?_getD, List.getElem?_eq_none (by rw [HL.out]; omega)]; rfl)
    have g1 : decide ((i : Int) < (n : Int)) = false := by simp; omega
    clear hs
    go_enter Tryd.func79, Tryd.ntmps79
    go_wp2_with fail
    go_ret
    exact ⟨by rw [HU.out]; rfl, rfl⟩
end Go.Proofs.YtlondennhhffdaaDoor

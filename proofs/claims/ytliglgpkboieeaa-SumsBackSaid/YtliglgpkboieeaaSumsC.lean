/- The laws of chapter 02, each as a walk out of the contracts. -/
import Derived.Test.YtliglgpkboieeaaSumsB
import Derived.OpenShut
import Derived.Deep.QuietTactic
import Derived.BigQuiet
namespace Go.Proofs.Ytliglgpkboieeaa
open Go.RowKit

theorem awake02 (w : World) : Calls Try.prog 11 #[] w fun e w' => e = .returned (.bool true) ∧ Below w.heap.size w w' := by
  have hs := split_yes 7 3 w (by omega) (by omega) (by omega) (by omega)
  have e1 : (partsE 7 3).map (Value.int .u64) = [.int .u64 3, .int .u64 2, .int .u64 2] := by
    have : partsE 7 3 = [3, 2, 2] := by decide +kernel
    rw [this]; rfl
  rw [e1] at hs
  have HS := Lib.hid hs; clear hs e1
  go_enter Try.func11, Try.ntmps11
  go_wp2_with fail
  refine HS.out.mono ?_
  rintro e w1 ⟨g, rfl, hown, hb⟩
  have c0 := hown.cellAt 0 (by omega)
  have c1 := hown.cellAt 1 (by omega)
  have c2 := hown.cellAt 2 (by omega)
  simp only [List.getElem?_cons_zero, List.getElem?_cons_succ] at c0 c1 c2
  have HB := Lib.hid hb; clear hb hown
  go_wp2_with fail
  go_ret
  exact ⟨rfl, HB.out⟩

theorem addE_not (a b : Int) : (addE a b).2 = 0 ∨ (addE a b).2 = 6 := by unfold addE; split <;> simp


theorem lessE_range (a b : Int) (ha : 0 ≤ a) (hb : 0 ≤ b) : 0 ≤ (lessE a b).1 ∧ (lessE a b).1 ≤ 4611686018427387904 ∧ 0 ≤ (lessE a b).2 ∧ (lessE a b).2 ≤ 9 := by
  unfold lessE; split
  · split <;> simp <;> omega
  · simp

theorem walk_SumsTell (a b : Int) (w : World) (ha : (Lit.int .u64 a).wf = true) (hb : (Lit.int .u64 b).wf = true) :
    Calls Try.prog 3 #[.int .u64 a, .int .u64 b] w fun e w' => e = .returned (.bool true) ∧ Below w.heap.size w w' := by
  have h0 := (bounds_u64 ha).1
  have h1 := (bounds_u64 hb).1
  have ra := addE_range a b h0 h1
  have rl := lessE_range a b h0 h1
  have c1 := fun w => add_any a b w h0 h1
  have c2 := fun w => radd_any a b w h0 h1
  have c3 := fun w => less_any a b w h0 h1
  have c4 := fun w => rless_any a b w h0 h1
  generalize addE a b = p at *
  generalize lessE a b = q at *
  obtain ⟨p1, p2⟩ := p
  obtain ⟨q1, q2⟩ := q
  simp only at ra rl c1 c2 c3 c4
  have C1 := Lib.hid c1; clear c1
  have C2 := Lib.hid c2; clear c2
  have C3 := Lib.hid c3; clear c3
  have C4 := Lib.hid c4; clear c4
  have r1 : 0 ≤ p2 := by omega
  have r2 : p2 ≤ 6 := by omega
  obtain ⟨-, -, r3, r4⟩ := rl
  clear ra ha hb
  go_enter Try.func3, Try.ntmps3
  go_wp2_with fail
  refine (C1.out _).mono ?_
  rintro e w1 ⟨rfl, hb1⟩
  have HB1 := Lib.hid hb1; clear hb1
  go_wp2_with fail
  refine (C2.out _).mono ?_
  rintro e w2 ⟨rfl, rfl⟩
  go_wp2_with fail
  refine (C3.out _).mono ?_
  rintro e w2 ⟨rfl, hb1⟩
  have HB2 := Lib.hid hb1; clear hb1
  go_wp2_with fail
  refine (C4.out _).mono ?_
  rintro e w3 ⟨rfl, rfl⟩
  go_wp2_with fail
  refine (awake02 _).mono ?_
  rintro e w3 ⟨rfl, hb1⟩
  have HB3 := Lib.hid hb1; clear hb1
  go_wp2_with fail
  go_ret
  exact ⟨rfl, below_chain (below_chain HB1.out HB2.out) HB3.out⟩

theorem walk_SumsAll (A : Option Addr) (n cap : Nat) (zs : List Int) (w : World) (hs : Sl w w.heap.size 1 A n (zs.map (Value.int .u64))) (hn : n ≤ 9223372036854775807) (hwf : ∀ z ∈ zs, (Lit.int .u64 z).wf = true) :
    Calls Try.prog 4 #[.slice A n cap] w fun e w' => e = .returned (.bool true) ∧ Below w.heap.size w w' := by
  have hz : ∀ z ∈ zs, 0 ≤ z := fun z h => (bounds_u64 (hwf z h)).1
  clear hwf
  by_cases hlt : 100 < n
  · go_enter Try.func4, Try.ntmps4
    clear hs hz
    go_wp2_with fail
    refine (awake02 _).mono ?_
    rintro e w3 ⟨rfl, hb1⟩
    have HB3 := Lib.hid hb1; clear hb1
    go_wp2_with fail
    go_ret
    exact ⟨rfl, HB3.out⟩
  · have c1 := all_any A n cap zs w hs hn hz
    have c2 := fun w1 (hb : Below w.heap.size w w1) => rall_any A n cap zs w1 ((hs.below hb).more hb.size) hn hz
    have hr := allE_range zs 0 hz (by omega) (by omega)
    generalize allE 0 zs = p at *
    obtain ⟨p1, p2⟩ := p
    simp only at c1 c2 hr
    have C1 := Lib.hid c1; clear c1
    have C2 := Lib.hid c2; clear c2
    obtain ⟨r1, r2⟩ := hr
    clear hs hz
    go_enter Try.func4, Try.ntmps4
    go_wp2_with fail
    refine C1.out.mono ?_
    rintro e w1 ⟨rfl, hb1⟩
    have HB1 := Lib.hid hb1; clear hb1
    go_wp2_with fail
    refine (C2.out _ HB1.out).mono ?_
    rintro e w2 ⟨rfl, hb1⟩
    have HB2 := Lib.hid hb1; clear hb1
    go_wp2_with fail
    refine (awake02 _).mono ?_
    rintro e w3 ⟨rfl, hb1⟩
    have HB3 := Lib.hid hb1; clear hb1
    go_wp2_with fail
    go_ret
    exact ⟨rfl, below_chain (below_chain HB1.out HB2.out) HB3.out⟩

/-- The sum of the first k parts. -/
def preE (a : Int) (n k : Nat) : Int := k * (a / n) + min (k : Int) (a % n)

theorem preE_step (a : Int) (n k : Nat) (hk : k < n) : preE a n k + partE a n k = preE a n (k + 1) := by
  rw [part_eq a n k hk]
  unfold preE
  rw [show ((k + 1 : Nat) : Int) = (k : Int) + 1 by omega, Int.add_mul, Int.one_mul]
  split <;> omega

theorem preE_all (a : Int) (n : Nat) (hn : 0 < n) : preE a n n = a := by
  unfold preE
  have h1 := Int.mul_ediv_add_emod a n
  have h3 := Int.emod_lt_of_pos a (b := (n : Int)) (by omega)
  omega

theorem partE_nonneg (a : Int) (n k : Nat) (ha : 0 ≤ a) (hk : k < n) : 0 ≤ partE a n k := by
  rw [part_eq a n k hk]
  have : 0 ≤ a / (n : Int) := Int.ediv_nonneg ha (by omega)
  split <;> omega

theorem preE_nonneg (a : Int) (n k : Nat) (ha : 0 ≤ a) (hn : 0 < n) : 0 ≤ preE a n k := by
  unfold preE
  have h2 := Int.emod_nonneg a (b := (n : Int)) (by omega)
  have : 0 ≤ a / (n : Int) := Int.ediv_nonneg ha (by omega)
  have := Int.mul_nonneg (by omega : (0 : Int) ≤ k) this
  omega

theorem preE_le (a : Int) (n : Nat) (ha : 0 ≤ a) (m : Nat) : ∀ k, k + m = n → preE a n k ≤ preE a n n := by
  induction m with
  | zero => intro k hk; have : k = n := by omega
            subst this; exact Int.le_refl _
  | succ m ih =>
    intro k hk
    have h1 := ih (k + 1) (by omega)
    have h2 := preE_step a n k (by omega)
    have h3 := partE_nonneg a n k ha (by omega)
    omega

theorem allE_parts (a : Int) (n : Nat) (ha : 0 ≤ a) (hn : 0 < n) (hM : a ≤ 4611686018427387904) (m : Nat) : ∀ k, k + m = n → allE (preE a n k) ((List.range' k m).map (partE a n)) = (a, 0) := by
  induction m with
  | zero =>
    intro k hk
    have : k = n := by omega
    subst this
    simp [allE, preE_all a k hn]
  | succ m ih =>
    intro k hk
    rw [List.range'_succ, List.map_cons, allE]
    have h2 := preE_step a n k (by omega)
    have h3 := partE_nonneg a n k ha (by omega)
    have h4 := preE_le a n ha m (k + 1) (by omega)
    rw [preE_all a n hn] at h4
    have h5 := preE_nonneg a n k ha hn
    have h6 : addE (preE a n k) (partE a n k) = (preE a n (k + 1), 0) := by
      unfold addE; rw [if_pos (by omega), h2]
    rw [h6, if_pos rfl]
    exact ih (k + 1) (by omega)

theorem allE_partsE (a : Int) (n : Nat) (ha : 0 ≤ a) (hn : 0 < n) (hM : a ≤ 4611686018427387904) : allE 0 (partsE a n) = (a, 0) := by
  have h := allE_parts a n ha hn hM n 0 (by omega)
  have h0 : preE a n 0 = 0 := by
    unfold preE
    have h2 := Int.emod_nonneg a (b := (n : Int)) (by omega)
    simp; omega
  rw [h0] at h
  rw [partsE, List.range_eq_range']
  exact h

theorem walk_SumsSplit (a n : Int) (w : World) (ha : (Lit.int .u64 a).wf = true) (hn : (Lit.int .i64 n).wf = true) :
    Calls Try.prog 5 #[.int .u64 a, .int .i64 n] w fun e w' => e = .returned (.bool true) ∧ Below w.heap.size w w' := by
  have h0 := (bounds_u64 ha).1
  obtain ⟨n0, n1⟩ := bounds_i64 hn
  by_cases hyes : 1 ≤ n ∧ n ≤ 256 ∧ a ≤ 4611686018427387904
  · obtain ⟨y1, y2, y3⟩ := hyes
    obtain ⟨m, rfl⟩ := Int.eq_ofNat_of_zero_le (show 0 ≤ n by omega)
    have c1 := fun w => split_yes a m w h0 (by omega) (by omega) y3
    have c2 := fun w => rsplit_yes a m w h0 (by omega) (by omega) y3
    have c3 := fun A w hs => all_any A m m (partsE a m) w hs (by omega) (fun z hz => by
      obtain ⟨i, hi, rfl⟩ := List.mem_map.1 hz
      exact partE_nonneg a m i h0 (by simpa using hi))
    rw [allE_partsE a m h0 (by omega) y3] at c3
    have C1 := Lib.hid c1; clear c1
    have C2 := Lib.hid c2; clear c2
    have C3 := Lib.hid c3; clear c3
    clear ha hn
    have e0 : (((m : Int)) == 0) = false := by simp; omega
    go_enter Try.func5, Try.ntmps5
    go_wp2_with fail
    refine (C1.out _).mono ?_
    rintro e w1 ⟨g, rfl, hown, hb1⟩
    have HO := Lib.hid hown; clear hown
    have HB1 := Lib.hid hb1; clear hb1
    go_wp2_with fail
    refine (C2.out _).mono ?_
    rintro e w2 ⟨A, c, rfl, hown2, hb1⟩
    have HO2 := Lib.hid hown2; clear hown2
    have HB2 := Lib.hid hb1; clear hb1
    have s1 := Sl.of_own (own_below HO.out HB2.out)
    have s2 := Sl.of_own HO2.out
    have S1 := Lib.hid s1; clear s1
    have S2 := Lib.hid s2; clear s2
    go_wp2_with fail
    go_loopw [7] (fun i wr => ∃ k : Nat, k ≤ m ∧ i = .int .i64 k ∧ Hid (Below w2.heap.size w2 wr)) (fun i _ => m - (intOf i).toNat)
    case atStart => exact ⟨0, by omega, rfl, Below.refl _ _⟩
    case round =>
      obtain ⟨k, hk, rfl, hbw⟩ := hrel
      by_cases hlt : k < m
      · obtain ⟨b1, o1, u1, e1, -, x1, cc1⟩ := (S1.out.below hbw.out).at_ hlt
        obtain ⟨b2, o2, u2, e2, -, x2, cc2⟩ := (S2.out.below hbw.out).at_ hlt
        rw [x1] at x2
        cases e1
        cases x2
        subst e2
        rw [List.getElem?_map] at x1
        obtain ⟨z, -, rfl⟩ := Option.map_eq_some_iff.1 x1
        clear x1
        rw [Nat.zero_add] at cc1
        have i0 : (0 : Int) ≤ k := by omega
        have i1 : (k : Int) < m := by omega
        go_wp2_with fail
        go_quiet (fail)
        go_wp2_with fail
        go_roundw
        case rel => exact ⟨k + 1, by omega, by go_num, below_dn hbw.out _⟩
        case measure => simp [intOf]; omega
      · go_wp2_with fail
        refine (C3.out _ _ ((S1.out.below hbw.out).more hbw.out.size)).mono ?_
        rintro e w3 ⟨rfl, hb1⟩
        have HB3 := Lib.hid hb1; clear hb1
        go_wp2_with fail
        refine (awake02 _).mono ?_
        rintro e w4 ⟨rfl, hb1⟩
        have HB4 := Lib.hid hb1; clear hb1
        go_wp2_with fail
        go_ret
        exact ⟨rfl, below_chain (below_chain (below_chain (below_chain HB1.out HB2.out) hbw.out) HB3.out) HB4.out⟩
  · have c1 := fun w => split_no a n w h0 n0 n1 hyes
    have c2 := fun w => rsplit_no a n w n0 n1 hyes
    have c3 := fun w => all_any none 0 0 [] w Sl.nil (by omega) (by simp)
    rw [show allE 0 [] = (0, 0) from rfl] at c3
    have C1 := Lib.hid c1; clear c1
    have C2 := Lib.hid c2; clear c2
    have C3 := Lib.hid c3; clear c3
    clear ha hn hyes
    go_enter Try.func5, Try.ntmps5
    go_wp2_with fail
    refine (C1.out _).mono ?_
    rintro e w1 ⟨rfl, hb1⟩
    have HB1 := Lib.hid hb1; clear hb1
    go_wp2_with fail
    refine (C2.out _).mono ?_
    rintro e w2 ⟨rfl, hb1⟩
    have HB2 := Lib.hid hb1; clear hb1
    go_wp2_with fail
    go_loopw [7] (fun i wr => i = .int .i64 0 ∧ wr = w2) (fun i _ => 0)
    case atStart => exact ⟨rfl, rfl⟩
    case round =>
      obtain ⟨rfl, rfl⟩ := hrel
      go_wp2_with fail
      refine (C3.out _).mono ?_
      rintro e w3 ⟨rfl, hb1⟩
      have HB3 := Lib.hid hb1; clear hb1
      go_wp2_with fail
      refine (awake02 _).mono ?_
      rintro e w4 ⟨rfl, hb1⟩
      have HB4 := Lib.hid hb1; clear hb1
      go_wp2_with fail
      go_ret
      exact ⟨rfl, below_chain (below_chain (below_chain HB1.out HB2.out) HB3.out) HB4.out⟩

theorem addE_comm (a b : Int) : addE a b = addE b a := by
  unfold addE; rw [Int.add_comm b a]; split <;> split <;> first | rfl | omega

/-- A sum that is one is the numbers' own sum; else there is none. -/
theorem allE_eq (zs : List Int) : ∀ (s : Int) (_ : ∀ z ∈ zs, 0 ≤ z) (_ : 0 ≤ s) (_ : s ≤ 4611686018427387904), allE s zs = if s + zs.sum ≤ 4611686018427387904 then (s + zs.sum, 0) else (0, 6) := by
  induction zs with
  | nil => intro s _ h0 h1; simp [allE, h1]
  | cons z zs ih =>
    intro s hz h0 h1
    have hz0 := hz z (by simp)
    have hs : 0 ≤ zs.sum := by
      have : ∀ l : List Int, (∀ z ∈ l, 0 ≤ z) → 0 ≤ l.sum := by
        intro l; induction l with
        | nil => simp
        | cons x l ihl => intro h; have := h x (by simp); have := ihl (fun y hy => h y (by simp [hy])); simp; omega
      exact this zs (fun x hx => hz x (by simp [hx]))
    rw [allE, List.sum_cons]
    unfold addE
    by_cases h : s + z ≤ 4611686018427387904
    · rw [if_pos (show s ≤ 4611686018427387904 ∧ z ≤ 4611686018427387904 ∧ s + z ≤ 4611686018427387904 by omega), if_pos rfl]
      rw [ih _ (fun x hx => hz x (by simp [hx])) (by show 0 ≤ s + z; omega) h]
      show (if s + z + zs.sum ≤ _ then (s + z + zs.sum, 0) else (0, 6)) = _
      rw [Int.add_assoc]
    · rw [if_neg (show ¬ (s ≤ 4611686018427387904 ∧ z ≤ 4611686018427387904 ∧ s + z ≤ 4611686018427387904) by omega), if_neg (by decide), if_neg (by omega)]

theorem allE_reverse (zs : List Int) (hz : ∀ z ∈ zs, 0 ≤ z) : allE 0 zs.reverse = allE 0 zs := by
  rw [allE_eq _ _ (by simpa using hz) (by omega) (by omega), allE_eq _ _ hz (by omega) (by omega), List.sum_reverse]

theorem walk_SumsBack (a b : Int) (A : Option Addr) (n cap : Nat) (zs : List Int) (w : World) (ha : (Lit.int .u64 a).wf = true) (hb : (Lit.int .u64 b).wf = true)
    (hs : Sl w w.heap.size 1 A n (zs.map (Value.int .u64))) (hn : n ≤ 9223372036854775807) (hwf : ∀ z ∈ zs, (Lit.int .u64 z).wf = true) :
    Calls Try.prog 6 #[.int .u64 a, .int .u64 b, .slice A n cap] w fun e w' => e = .returned (.bool true) ∧ Below w.heap.size w w' := by
  have hz : ∀ z ∈ zs, 0 ≤ z := fun z h => (bounds_u64 (hwf z h)).1
  clear hwf
  by_cases hlt : 50 < n
  · go_enter Try.func6, Try.ntmps6
    clear hs hz
    go_wp2_with fail
    refine (awake02 _).mono ?_
    rintro e w3 ⟨rfl, hb1⟩
    have HB3 := Lib.hid hb1; clear hb1
    go_wp2_with fail
    go_ret
    exact ⟨rfl, HB3.out⟩
  · have h0 := (bounds_u64 ha).1
    have h1 := (bounds_u64 hb).1
    have hl := hs.len
    simp only [List.length_map] at hl
    have c1 := fun w1 (hb : Below w.heap.size w w1) => all_any A n cap zs w1 ((hs.below hb).more hb.size) hn hz
    have c2 := fun w1 A c (hr : Sl w1 w1.heap.size 1 A n (zs.reverse.map (Value.int .u64))) => all_any A n c zs.reverse w1 hr hn (by simpa using hz)
    rw [allE_reverse zs hz] at c2
    have hr := allE_range zs 0 hz (by omega) (by omega)
    generalize allE 0 zs = p at *
    obtain ⟨p1, p2⟩ := p
    simp only at c1 c2 hr
    have C1 := Lib.hid c1; clear c1
    have C2 := Lib.hid c2; clear c2
    obtain ⟨r1, r2⟩ := hr
    have HS := Lib.hid hs; clear hs
    have HL := Lib.hid hl; clear hl
    have HZ := Lib.hid hz; clear hz
    clear ha hb
    by_cases hok : a ≤ 4611686018427387904 ∧ b ≤ 4611686018427387904 ∧ a + b ≤ 4611686018427387904
    · obtain ⟨k1, k2, k3⟩ := hok
      go_enter Try.func6, Try.ntmps6
      go_wp2_with fail
      refine (add_ok a b _ h0 h1 k1 k2 k3).mono ?_
      rintro e w1 ⟨rfl, hb1⟩
      have HB1 := Lib.hid hb1; clear hb1
      go_wp2_with fail
      refine (add_ok b a _ h1 h0 k2 k1 (by omega)).mono ?_
      rintro e w2 ⟨rfl, hb1⟩
      have HB2 := Lib.hid hb1; clear hb1
      rw [Int.add_comm b a]
      go_wp2_with fail
      refine (less_ok (a + b) b _ (by omega) h1 k3 k2 (by omega)).mono ?_
      rintro e w3 ⟨rfl, hb1⟩
      have HB3 := Lib.hid hb1; clear hb1
      rw [Int.add_sub_cancel]
      go_wp2_with fail
      have HBB := Lib.hid (below_chain (below_chain HB1.out HB2.out) HB3.out)
      go_loopw [13, 14] (fun v i wr => ∃ k : Nat, ∃ j : Int, ∃ A' c', k ≤ n ∧ j + 1 + k = n ∧ i = .int .i64 j ∧ v = .slice A' k c' ∧ Hid (wr.ownsRow w.heap.size 22 1 (.slice A' k c') k ((zs.reverse.take k).map (Value.int .u64))) ∧ Hid (Below w.heap.size w wr)) (fun v _ _ => n - (match v with | .slice _ l _ => l | _ => 0))
      case atStart => exact ⟨0, (n : Int) - 1, none, 0, by omega, by omega, rfl, rfl, World.ownsRow_nil _ _ _ _, HBB.out⟩
      case round =>
        obtain ⟨k, j, A', c', hk, hj, rfl, rfl, hown, hbw⟩ := hrel
        have HJ := Lib.hid hj
        by_cases hkn : k < n
        · obtain ⟨i, rfl⟩ := Int.eq_ofNat_of_zero_le (show 0 ≤ j by omega)
          have hin : i < n := by omega
          obtain ⟨b1, o1, u1, rfl, -, x1, cc1⟩ := (HS.out.below hbw.out).at_ hin
          rw [List.getElem?_map] at x1
          obtain ⟨z, hz1, rfl⟩ := Option.map_eq_some_iff.1 x1
          have hrev : zs.reverse.take (k + 1) = zs.reverse.take k ++ [z] := by
            rw [List.take_add_one, List.getElem?_reverse (by have := HL.out; omega), show zs.length - 1 - k = i by have := HL.out; omega, hz1]; rfl
          have HR := Lib.hid hrev
          clear hrev x1 hz1
          clear hj
          have i0 : (0 : Int) ≤ i := by omega
          go_wp2_with (at_builtin; refine wpl_app1 rfl rfl el_u64 hown.out rfl (m := 1) rfl rfl ?_ ?_ ?_ ?_ ?_)
          · simp [Value.oneCell']
          · omega
          · omega
          · exact hbw.out.size
          · intro A2 c2 w4 ho hg _
            have hb3 := below_grown hbw.out hg hbw.out.size (own_from hown.out)
            have HO := Lib.hid ho; clear ho
            have HB := Lib.hid hb3; clear hb3 hg
            go_wp2_with fail
            go_roundw
            case rel =>
              refine ⟨k + 1, (i : Int) - 1, A2, c2, by omega, by have := HJ.out; omega, rfl, rfl, ?_, HB⟩
              have h5 := HO.out
              rw [HR.out, List.map_append, List.map_take, List.map_reverse]
              exact h5
            case measure => simp; omega
        · obtain rfl : k = n := by omega
          obtain rfl : j = -1 := by omega
          have hf : zs.reverse.take k = zs.reverse := by rw [List.take_of_length_le]; simp [HL.out]
          have h5 := hown.out
          rw [hf] at h5
          have S5 := Lib.hid h5; clear h5 hf hj
          go_wp2_with fail
          refine (C1.out _ hbw.out).mono ?_
          rintro e w4 ⟨rfl, hb1⟩
          have HB4 := Lib.hid hb1; clear hb1
          go_wp2_with fail
          refine (C2.out _ _ _ (Sl.of_own (own_below S5.out HB4.out))).mono ?_
          rintro e w5 ⟨rfl, hb1⟩
          have HB5 := Lib.hid hb1; clear hb1
          go_wp2_with fail
          refine (awake02 _).mono ?_
          rintro e w6 ⟨rfl, hb1⟩
          have HB6 := Lib.hid hb1; clear hb1
          go_wp2_with fail
          go_ret
          exact ⟨rfl, below_step (below_step (below_step hbw.out hbw.out.size HB4.out) (Nat.le_trans hbw.out.size HB4.out.size) HB5.out) (Nat.le_trans (Nat.le_trans hbw.out.size HB4.out.size) HB5.out.size) HB6.out⟩
    · go_enter Try.func6, Try.ntmps6
      go_wp2_with fail
      refine (add_no a b _ h0 h1 hok).mono ?_
      rintro e w1 ⟨rfl, hb1⟩
      have HB1 := Lib.hid hb1; clear hb1
      have hok2 : ¬ (b ≤ 4611686018427387904 ∧ a ≤ 4611686018427387904 ∧ b + a ≤ 4611686018427387904) := by omega
      have HOK := Lib.hid hok2; clear hok hok2
      go_wp2_with fail
      refine (add_no b a _ h1 h0 HOK.out).mono ?_
      rintro e w2 ⟨rfl, hb1⟩
      have HB2 := Lib.hid hb1; clear hb1
      go_wp2_with fail
      have HBB := Lib.hid (below_chain HB1.out HB2.out)
      go_loopw [13, 14] (fun v i wr => ∃ k : Nat, ∃ j : Int, ∃ A' c', k ≤ n ∧ j + 1 + k = n ∧ i = .int .i64 j ∧ v = .slice A' k c' ∧ Hid (wr.ownsRow w.heap.size 22 1 (.slice A' k c') k ((zs.reverse.take k).map (Value.int .u64))) ∧ Hid (Below w.heap.size w wr)) (fun v _ _ => n - (match v with | .slice _ l _ => l | _ => 0))
      case atStart => exact ⟨0, (n : Int) - 1, none, 0, by omega, by omega, rfl, rfl, World.ownsRow_nil _ _ _ _, HBB.out⟩
      case round =>
        obtain ⟨k, j, A', c', hk, hj, rfl, rfl, hown, hbw⟩ := hrel
        have HJ := Lib.hid hj
        by_cases hkn : k < n
        · obtain ⟨i, rfl⟩ := Int.eq_ofNat_of_zero_le (show 0 ≤ j by omega)
          have hin : i < n := by omega
          obtain ⟨b1, o1, u1, rfl, -, x1, cc1⟩ := (HS.out.below hbw.out).at_ hin
          rw [List.getElem?_map] at x1
          obtain ⟨z, hz1, rfl⟩ := Option.map_eq_some_iff.1 x1
          have hrev : zs.reverse.take (k + 1) = zs.reverse.take k ++ [z] := by
            rw [List.take_add_one, List.getElem?_reverse (by have := HL.out; omega), show zs.length - 1 - k = i by have := HL.out; omega, hz1]; rfl
          have HR := Lib.hid hrev
          clear hrev x1 hz1
          clear hj
          have i0 : (0 : Int) ≤ i := by omega
          go_wp2_with (at_builtin; refine wpl_app1 rfl rfl el_u64 hown.out rfl (m := 1) rfl rfl ?_ ?_ ?_ ?_ ?_)
          · simp [Value.oneCell']
          · omega
          · omega
          · exact hbw.out.size
          · intro A2 c2 w4 ho hg _
            have hb3 := below_grown hbw.out hg hbw.out.size (own_from hown.out)
            have HO := Lib.hid ho; clear ho
            have HB := Lib.hid hb3; clear hb3 hg
            go_wp2_with fail
            go_roundw
            case rel =>
              refine ⟨k + 1, (i : Int) - 1, A2, c2, by omega, by have := HJ.out; omega, rfl, rfl, ?_, HB⟩
              have h5 := HO.out
              rw [HR.out, List.map_append, List.map_take, List.map_reverse]
              exact h5
            case measure => simp; omega
        · obtain rfl : k = n := by omega
          obtain rfl : j = -1 := by omega
          have hf : zs.reverse.take k = zs.reverse := by rw [List.take_of_length_le]; simp [HL.out]
          have h5 := hown.out
          rw [hf] at h5
          have S5 := Lib.hid h5; clear h5 hf hj
          go_wp2_with fail
          refine (C1.out _ hbw.out).mono ?_
          rintro e w4 ⟨rfl, hb1⟩
          have HB4 := Lib.hid hb1; clear hb1
          go_wp2_with fail
          refine (C2.out _ _ _ (Sl.of_own (own_below S5.out HB4.out))).mono ?_
          rintro e w5 ⟨rfl, hb1⟩
          have HB5 := Lib.hid hb1; clear hb1
          go_wp2_with fail
          refine (awake02 _).mono ?_
          rintro e w6 ⟨rfl, hb1⟩
          have HB6 := Lib.hid hb1; clear hb1
          go_wp2_with fail
          go_ret
          exact ⟨rfl, below_step (below_step (below_step hbw.out hbw.out.size HB4.out) (Nat.le_trans hbw.out.size HB4.out.size) HB5.out) (Nat.le_trans (Nat.le_trans hbw.out.size HB4.out.size) HB5.out.size) HB6.out⟩
end Go.Proofs.Ytliglgpkboieeaa

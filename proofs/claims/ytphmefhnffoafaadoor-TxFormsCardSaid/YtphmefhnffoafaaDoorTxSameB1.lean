/- What an eye reads of bytes (plain). No program in sight. -/
import Derived.Test.YtphmefhnffoafaaDoorHeaderFollowsB7
import Derived.Test.YtphmefhnffoafaaDoorRows
import Derived.Test.YtphmefhnffoafaaDoorHeaderFollowsB1
import Derived.Test.YtphmefhnffoafaaDoorHeaderFollowsB13
set_option linter.unusedSimpArgs false
/- What an eye reads of bytes (plain). No program in sight. -/
namespace Go.Proofs.YtphmefhnffoafaaDoor
set_option linter.unusedVariables false

/-- The number of bytes, the greatest first. -/
def valB (l : List UInt8) : Nat := l.foldl (fun v c => v * 256 + c.toNat) 0
theorem valB_nil : valB [] = 0 := rfl
theorem valB_snoc (l : List UInt8) (c : UInt8) : valB (l ++ [c]) = valB l * 256 + c.toNat := by unfold valB; rw [List.foldl_append]; rfl
theorem valB_lt : ∀ (n : Nat) (l : List UInt8), l.length ≤ n → valB l < 256 ^ n
  | 0, l, h => by obtain rfl : l = [] := List.eq_nil_of_length_eq_zero (by omega); simp [valB]
  | n + 1, l, h => by
    rcases List.eq_nil_or_concat l with rfl | ⟨t, c, rfl⟩
    · exact Nat.pow_pos (by omega)
    · rw [List.concat_eq_append, valB_snoc]
      have h1 := valB_lt n t (by rw [List.concat_eq_append, List.length_append] at h; simp at h; omega)
      have h2 := c.toNat_lt
      rw [Nat.pow_succ]; omega
theorem valB_64 {l : List UInt8} (h : l.length ≤ 8) : valB l ≤ 18446744073709551615 := by have := valB_lt 8 l h; omega
theorem valB_leB : ∀ (n : Nat), valB (leB n).reverse = n := by
  intro n
  induction n using Nat.strongRecOn with
  | _ n ih =>
    by_cases h : n = 0
    · rw [h, leB_zero]; rfl
    · rw [leB_pos h, List.reverse_cons, valB_snoc, ih (n / 256) (by omega), UInt8.toNat_ofNat']
      omega
theorem leB_last : ∀ (n : Nat), n ≠ 0 → ∃ c t, (leB n).reverse = c :: t ∧ c ≠ 0 := by
  intro n
  induction n using Nat.strongRecOn with
  | _ n ih =>
    intro h
    rw [leB_pos h, List.reverse_cons]
    by_cases h2 : n / 256 = 0
    · rw [h2, leB_zero]
      refine ⟨UInt8.ofNat n, [], rfl, fun e => ?_⟩
      have := congrArg UInt8.toNat e
      rw [UInt8.toNat_ofNat'] at this
      have h3 : (0 : UInt8).toNat = 0 := rfl
      omega
    · obtain ⟨c, t, h3, h4⟩ := ih (n / 256) (by omega) h2
      exact ⟨c, t ++ [UInt8.ofNat n], by rw [h3]; rfl, h4⟩

abbrev Rd (α : Type) := Except Nat (α × List UInt8)
def takeR (n : Nat) (l : List UInt8) : Rd (List UInt8) := if n ≤ l.length then .ok (l.take n, l.drop n) else .error 2
/-- The next number. -/
def numR (most : Nat) : List UInt8 → Rd Nat
  | [] => .error 2
  | k :: t => if 8 < k.toNat then .error 3 else if t.length < k.toNat then .error 2 else if 0 < k.toNat ∧ t[0]? = some 0 then .error 3
      else if most < valB (t.take k.toNat) then .error 5 else .ok (valB (t.take k.toNat), t.drop k.toNat)
def textR (most : Nat) (l : List UInt8) : Rd (List UInt8) := match numR most l with
  | .error x => .error x
  | .ok (v, t) => takeR v t
theorem takeR_app {b t : List UInt8} : takeR b.length (b ++ t) = .ok (b, t) := by
  unfold takeR
  rw [if_pos (by simp), List.take_left, List.drop_left]
theorem takeR_len {n : Nat} {b t : List UInt8} (h : b.length = n) : takeR n (b ++ t) = .ok (b, t) := by rw [← h]; exact takeR_app
theorem numR_put {n most : Nat} {t : List UInt8} (h : n ≤ most) (h64 : n ≤ 18446744073709551615) : numR most (numB n ++ t) = .ok (n, t) := by
  have h8 := lenB_64 h64
  have e0 : numB n = UInt8.ofNat (lenB n) :: (leB n).reverse := by unfold numB; rfl
  have e1 : (UInt8.ofNat (lenB n)).toNat = ((leB n).reverse).length := by rw [UInt8.toNat_ofNat', List.length_reverse, leB_len]; omega
  rw [e0, List.cons_append]
  simp only [numR]
  rw [e1, List.take_left, List.drop_left, valB_leB]
  have e2 : ((leB n).reverse).length = lenB n := by rw [List.length_reverse, leB_len]
  rw [if_neg (by omega), if_neg (by simp), if_neg, if_neg (by omega)]
  rintro ⟨h1, h2⟩
  have hn : n ≠ 0 := by rintro rfl; rw [e2, lenB_zero] at h1; omega
  obtain ⟨c, t', h3, h4⟩ := leB_last n hn
  rw [h3] at h2
  simp at h2
  exact h4 h2
theorem textR_put {b t : List UInt8} {most : Nat} (h : b.length ≤ most) (h64 : b.length ≤ 18446744073709551615) : textR most (numB b.length ++ (b ++ t)) = .ok (b, t) := by
  unfold textR
  rw [numR_put h h64]
  exact takeR_app
theorem numR_le {most : Nat} {l t : List UInt8} {v : Nat} (h : numR most l = .ok (v, t)) : v ≤ most ∧ v ≤ 18446744073709551615 ∧ t.length ≤ l.length := by
  cases l with
  | nil => cases h
  | cons k l =>
    simp only [numR] at h
    split at h
    · cases h
    · split at h
      · cases h
      · split at h
        · cases h
        · split at h
          · cases h
          · injection h with h
            injection h with h1 h2
            rename_i h8 _ _ hm
            subst h1; subst h2
            refine ⟨by omega, valB_64 (by rw [List.length_take]; omega), by simp; omega⟩
theorem takeR_le {n : Nat} {l b t : List UInt8} (h : takeR n l = .ok (b, t)) : b.length = n ∧ t.length ≤ l.length := by
  unfold takeR at h
  split at h
  · injection h with h; injection h with h1 h2
    subst h1; subst h2
    rw [List.length_take, List.length_drop]; omega
  · cases h
theorem textR_le {most : Nat} {l b t : List UInt8} (h : textR most l = .ok (b, t)) : b.length ≤ most ∧ t.length ≤ l.length := by
  unfold textR at h
  cases hn : numR most l with
  | error x => rw [hn] at h; cases h
  | ok p =>
    obtain ⟨v, t'⟩ := p
    rw [hn] at h
    have h1 := numR_le hn
    have h2 := takeR_le h
    omega
end Go.Proofs.YtphmefhnffoafaaDoor

/- Contracts of sums.Add and sums.All, and of the document's; in seats where other words are taken. -/
namespace Go.Proofs.YtphmefhnffoafaaDoor
open Go.RowKit

def small (n : Int) : Bool := decide (n ≤ 4611686018427387904)

theorem take_all_snoc (zs : List Int) (k : Nat) (h : k < zs.length) : (zs.take (k+1)).all small = ((zs.take k).all small && small (zs[k]?.getD 0)) := by
  rw [List.take_succ_eq_append_getElem h, List.all_append]; simp [h]

theorem is_any (b off n cap : Nat) (zs : List Int) (w : World) (hn : n = zs.length) (hlen : zs.length ≤ 1000000)
    (hc : ∀ i, i < zs.length → w.cell? ⟨b, off + i, none⟩ = some (.int .u64 (zs[i]?.getD 0))) :
    Calls Tryd.prog 147 #[.slice (some ⟨b, off, none⟩) n cap] w fun e w' => e = .returned (.bool (zs.all small)) ∧ w = w' := by
  subst hn
  have HC := Lib.hid hc; clear hc
  go_enter Tryd.func147, Tryd.ntmps147
  go_wp2
  go_loop [7] (fun i => ∃ k : Nat, k ≤ zs.length ∧ i = .int .i64 k ∧ (zs.take k).all small = true) (fun i => zs.length - (intOf i).toNat)
  case atStart => exact ⟨0, Nat.zero_le _, rfl, rfl⟩
  case round =>
    obtain ⟨k, hk, rfl, hall⟩ := hrel
    have HA := Lib.hid hall; clear hall
    by_cases hlt : k < zs.length
    · have hcell := HC.out k hlt
      have hs := take_all_snoc zs k hlt
      generalize hz : zs[k]?.getD 0 = z at *
      have HS := Lib.hid hs; clear hs
      have Hz := Lib.hid hz; clear hz
      by_cases hb : 4611686018427387904 < z
      · go_wp2
        go_ret
        have : zs.all small = false := by
          rw [List.all_eq_false]
          have h := Hz.out
          simp [hlt] at h
          refine ⟨z, by rw [← h]; simp, ?_⟩
          simp only [small, decide_eq_true_eq]; omega
        exact ⟨ret_bool this.symm, rfl⟩
      · go_wp2
        go_round
        case rel => exact ⟨k + 1, by omega, by go_num, by rw [HS.out, HA.out]; simp [small]; omega⟩
        case measure => simp [intOf]; omega
    · go_wp2
      go_ret
      have h := HA.out
      rw [List.take_of_length_le (by omega)] at h
      exact ⟨ret_bool h.symm, rfl⟩

theorem is_two (a b : Int) (w : World) :
    Calls Tryd.prog 147 #[.slice (some ⟨w.heap.size, 0, none⟩) 2 2] (w.alloc (.cells #[.int .u64 a, .int .u64 b] 27)) fun e w' => e = .returned (.bool (small a && small b)) ∧ w.alloc (.cells #[.int .u64 a, .int .u64 b] 27) = w' := by
  refine (is_any w.heap.size 0 2 2 [a, b] _ rfl (by simp) ?_).mono ?_
  · intro i hi
    match i, hi with
    | 0, _ => simp
    | 1, _ => simp
  · rintro e w' ⟨rfl, rfl⟩
    exact ⟨by simp, rfl⟩

theorem is_one (a : Int) (w : World) (h : Nat) (hh : h = w.heap.size) :
    Calls Tryd.prog 147 #[.slice (some ⟨h, 0, none⟩) 1 1] (w.alloc (.cells #[.int .u64 a] 27)) fun e w' => e = .returned (.bool (small a)) ∧ w.alloc (.cells #[.int .u64 a] 27) = w' := by
  subst hh
  refine (is_any w.heap.size 0 1 1 [a] _ rfl (by simp) ?_).mono ?_
  · intro i hi
    match i, hi with
    | 0, _ => simp
  · rintro e w' ⟨rfl, rfl⟩
    exact ⟨by simp, rfl⟩

theorem add_ok (a b : Int) (w : World) (ha : 0 ≤ a) (hb : 0 ≤ b) (h1 : a ≤ 4611686018427387904) (h2 : b ≤ 4611686018427387904) (h3 : a + b ≤ 4611686018427387904) :
    Calls Tryd.prog 128 #[.int .u64 a, .int .u64 b] w fun e w' => e = .returned (.tuple #[.int .u64 (a + b), .int .i64 0]) ∧ Below w.heap.size w w' := by
  have e1 : small a = true := by simp [small]; omega
  have e2 : small b = true := by simp [small]; omega
  have e3 : small (a + b) = true := by simp [small]; omega
  go_enter Tryd.func128, Tryd.ntmps128
  go_wp2_with fail
  refine (is_two a b _).mono ?_
  rintro e w1 ⟨rfl, rfl⟩
  go_wp2_with fail
  refine (is_one (a + b) _ _ (by simp)).mono ?_
  rintro e w1 ⟨rfl, rfl⟩
  go_wp2_with fail
  go_ret2
  exact ⟨rfl, ((Below.refl _ _).alloc (by simp) _).alloc (by simp) _⟩

theorem add_no (a b : Int) (w : World) (ha : 0 ≤ a) (hb : 0 ≤ b) (h : ¬ (a ≤ 4611686018427387904 ∧ b ≤ 4611686018427387904 ∧ a + b ≤ 4611686018427387904)) :
    Calls Tryd.prog 128 #[.int .u64 a, .int .u64 b] w fun e w' => e = .returned (.tuple #[.int .u64 0, .int .i64 6]) ∧ Below w.heap.size w w' := by
  by_cases hab : a ≤ 4611686018427387904 ∧ b ≤ 4611686018427387904
  · obtain ⟨h1, h2⟩ := hab
    have h3 : ¬ a + b ≤ 4611686018427387904 := fun x => h ⟨h1, h2, x⟩
    clear h
    have e1 : small a = true := by simp [small]; omega
    have e2 : small b = true := by simp [small]; omega
    have e3 : small (a + b) = false := by simp [small]; omega
    go_enter Tryd.func128, Tryd.ntmps128
    go_wp2_with fail
    refine (is_two a b _).mono ?_
    rintro e w1 ⟨rfl, rfl⟩
    go_wp2_with fail
    refine (is_one (a + b) _ _ (by simp)).mono ?_
    rintro e w1 ⟨rfl, rfl⟩
    go_wp2_with fail
    go_ret2
    exact ⟨rfl, ((Below.refl _ _).alloc (by simp) _).alloc (by simp) _⟩
  · have e1 : (small a && small b) = false := by
      simp only [small, ← Bool.decide_and, decide_eq_false_iff_not]; exact hab
    clear h hab
    go_enter Tryd.func128, Tryd.ntmps128
    go_wp2_with fail
    refine (is_two a b _).mono ?_
    rintro e w1 ⟨rfl, rfl⟩
    rw [e1]
    go_wp2_with fail
    go_ret2
    exact ⟨rfl, ((Below.refl _ _).alloc (by simp) _)⟩

def plusE (a b : Int) : Int × Int := if a ≤ 4611686018427387904 ∧ b ≤ 4611686018427387904 ∧ a + b ≤ 4611686018427387904 then (a + b, 0) else (0, 6)

theorem add_any (a b : Int) (w : World) (ha : 0 ≤ a) (hb : 0 ≤ b) :
    Calls Tryd.prog 128 #[.int .u64 a, .int .u64 b] w fun e w' => e = .returned (.tuple #[.int .u64 (plusE a b).1, .int .i64 (plusE a b).2]) ∧ Below w.heap.size w w' := by
  unfold plusE
  split
  · rename_i h; exact add_ok a b w ha hb h.1 h.2.1 h.2.2
  · rename_i h; exact add_no a b w ha hb h

theorem radd_any (a b : Int) (w : World) (ha : 0 ≤ a) (hb : 0 ≤ b) :
    Calls Tryd.prog 120 #[.int .u64 a, .int .u64 b] w fun e w' => e = .returned (.tuple #[.int .u64 (plusE a b).1, .int .i64 (plusE a b).2]) ∧ w = w' := by
  unfold plusE
  by_cases h1 : a ≤ 4611686018427387904
  · by_cases h2 : b ≤ 4611686018427387904
    · by_cases h3 : a + b ≤ 4611686018427387904
      · rw [if_pos ⟨h1, h2, h3⟩]
        go_enter Tryd.func120, Tryd.ntmps120
        go_wp2_with fail
        go_ret2
        exact ⟨rfl, rfl⟩
      · rw [if_neg (fun x => h3 x.2.2)]
        go_enter Tryd.func120, Tryd.ntmps120
        go_wp2_with fail
        go_ret2
        exact ⟨rfl, rfl⟩
    · rw [if_neg (fun x => h2 x.2.1)]
      go_enter Tryd.func120, Tryd.ntmps120
      go_wp2_with fail
      go_ret2
      exact ⟨rfl, rfl⟩
  · rw [if_neg (fun x => h1 x.1)]
    go_enter Tryd.func120, Tryd.ntmps120
    go_wp2_with fail
    go_ret2
    exact ⟨rfl, rfl⟩

/-- The sum of all, as both texts reckon it. -/
def allE (s : Int) : List Int → Int × Int
  | [] => (s, 0)
  | x :: r => if (plusE s x).2 = 0 then allE (plusE s x).1 r else (0, (plusE s x).2)

theorem plusE_range (a b : Int) (ha : 0 ≤ a) (hb : 0 ≤ b) : 0 ≤ (plusE a b).1 ∧ (plusE a b).1 ≤ 4611686018427387904 ∧ ((plusE a b).2 = 0 ∨ (plusE a b).2 = 6) := by
  unfold plusE; split <;> simp <;> omega

theorem allE_drop (s : Int) (zs : List Int) (k : Nat) (h : k < zs.length) : allE s (zs.drop k) = if (plusE s (zs[k]?.getD 0)).2 = 0 then allE (plusE s (zs[k]?.getD 0)).1 (zs.drop (k+1)) else (0, (plusE s (zs[k]?.getD 0)).2) := by
  rw [List.drop_eq_getElem_cons h, allE]; simp [h]

theorem allE_range (zs : List Int) : ∀ (s : Int) (_ : ∀ z ∈ zs, 0 ≤ z) (_ : 0 ≤ s) (_ : s ≤ 4611686018427387904), 0 ≤ (allE s zs).2 ∧ (allE s zs).2 ≤ 6 := by
  induction zs with
  | nil => intro s _ _ _; simp [allE]
  | cons z zs ih =>
    intro s hz h0 h1
    have hr := plusE_range s z h0 (hz z (by simp))
    rw [allE]
    split
    · exact ih _ (fun x hx => hz x (by simp [hx])) hr.1 hr.2.1
    · simp; omega

theorem ret_pair {k1 k2 : IntKind} {a b c d : Int} (h : a = c) (h' : b = d) : Ending.returned (.tuple #[.int k1 a, .int k2 b]) = .returned (.tuple #[.int k1 c, .int k2 d]) := by rw [h, h']

theorem all_any (A : Option Addr) (n cap : Nat) (zs : List Int) (w : World) (hs : Sl w w.heap.size 1 A n (zs.map (Value.int .u64))) (hn : n ≤ 9223372036854775807) (hz : ∀ z ∈ zs, 0 ≤ z) :
    Calls Tryd.prog 89 #[.slice A n cap] w fun e w' => e = .returned (.tuple #[.int .u64 (allE 0 zs).1, .int .i64 (allE 0 zs).2]) ∧ Below w.heap.size w w' := by
  have hl := hs.len
  simp only [List.length_map] at hl
  have HS := Lib.hid hs; clear hs
  have HZ := Lib.hid hz; clear hz
  have HL := Lib.hid hl; clear hl
  go_enter Tryd.func89, Tryd.ntmps89
  go_wp2
  go_loopw [4, 11] (fun s i wr => ∃ k : Nat, ∃ t : Int, k ≤ n ∧ i = .int .i64 k ∧ s = .int .u64 t ∧ 0 ≤ t ∧ t ≤ 4611686018427387904 ∧ allE 0 zs = allE t (zs.drop k) ∧ Below w.heap.size w wr) (fun _ i _ => n - (intOf i).toNat)
  case atStart => exact ⟨0, 0, Nat.zero_le _, rfl, rfl, by omega, by omega, rfl, Below.refl _ _⟩
  case round =>
    obtain ⟨k, t, hk, rfl, rfl, ht0, ht1, hall, hbw⟩ := hrel
    have HA := Lib.hid hall; clear hall
    have HB := Lib.hid hbw; clear hbw
    by_cases hlt : k < n
    · obtain ⟨b, off, u, rfl, hb, hu, hc⟩ := (HS.out.below HB.out).at_ hlt
      have hd := allE_drop t zs k (by have := HL.out; omega)
      obtain ⟨z, hz', rfl⟩ : ∃ z, zs[k]? = some z ∧ u = .int .u64 z := by
        rw [List.getElem?_map] at hu
        obtain ⟨z, h1, h2⟩ := Option.map_eq_some_iff.1 hu
        exact ⟨z, h1, h2.symm⟩
      have hz0 : 0 ≤ z := HZ.out z (List.mem_of_getElem? hz')
      rw [hz'] at hd
      simp only [Option.getD_some] at hd
      have HD := Lib.hid hd; clear hd
      clear hu hz'
      have hr := plusE_range t z ht0 hz0
      by_cases h0 : (plusE t z).2 = 0
      · have hadd := add_any t z wr ht0 hz0
        generalize plusE t z = p at *
        obtain ⟨p1, p2⟩ := p
        simp only at h0 hr hadd
        subst h0
        obtain ⟨hr0, hr1, -⟩ := hr
        have HADD := Lib.hid hadd; clear hadd
        go_wp2_with fail
        refine HADD.out.mono ?_
        rintro e w1 ⟨rfl, hb1⟩
        have HB1 := Lib.hid hb1; clear hb1
        go_wp2_with fail
        go_roundw
        case rel => exact ⟨k + 1, p1, by omega, by go_num, rfl, hr0, hr1, by rw [HA.out, HD.out]; simp, HB.out.trans (HB1.out.mono HB.out.size)⟩
        case measure => simp [intOf]; omega
      · have hadd := add_any t z wr ht0 hz0
        generalize plusE t z = p at *
        obtain ⟨p1, p2⟩ := p
        simp only at h0 hr hadd
        have h6 : p2 = 6 := by omega
        subst h6
        have HADD := Lib.hid hadd; clear hadd
        clear hr h0
        go_wp2_with fail
        refine HADD.out.mono ?_
        rintro e w1 ⟨rfl, hb1⟩
        have HB1 := Lib.hid hb1; clear hb1
        go_wp2_with fail
        go_ret2
        have hfin : allE 0 zs = (0, 6) := by rw [HA.out, HD.out, if_neg (by omega)]
        exact ⟨ret_pair (by rw [hfin]) (by rw [hfin]), HB.out.trans (HB1.out.mono HB.out.size)⟩
    · go_wp2_with fail
      go_ret2
      have hfin : allE 0 zs = (t, 0) := by rw [HA.out, List.drop_eq_nil_of_le (by have := HL.out; omega)]; rfl
      exact ⟨ret_pair (by rw [hfin]) (by rw [hfin]), HB.out⟩

theorem rall_any (A : Option Addr) (n cap : Nat) (zs : List Int) (w : World) (hs : Sl w w.heap.size 1 A n (zs.map (Value.int .u64))) (hn : n ≤ 9223372036854775807) (hz : ∀ z ∈ zs, 0 ≤ z) :
    Calls Tryd.prog 76 #[.slice A n cap] w fun e w' => e = .returned (.tuple #[.int .u64 (allE 0 zs).1, .int .i64 (allE 0 zs).2]) ∧ Below w.heap.size w w' := by
  have hl := hs.len
  simp only [List.length_map] at hl
  have HS := Lib.hid hs; clear hs
  have HZ := Lib.hid hz; clear hz
  have HL := Lib.hid hl; clear hl
  go_enter Tryd.func76, Tryd.ntmps76
  go_wp2
  go_loopw [4, 5] (fun s i wr => ∃ k : Nat, ∃ t : Int, k ≤ n ∧ i = .int .i64 k ∧ s = .int .u64 t ∧ 0 ≤ t ∧ t ≤ 4611686018427387904 ∧ allE 0 zs = allE t (zs.drop k) ∧ wr = w) (fun _ i _ => n - (intOf i).toNat)
  case atStart => exact ⟨0, 0, Nat.zero_le _, rfl, rfl, by omega, by omega, rfl, rfl⟩
  case round =>
    obtain ⟨k, t, hk, rfl, rfl, ht0, ht1, hall, rfl⟩ := hrel
    have HA := Lib.hid hall; clear hall
    by_cases hlt : k < n
    · obtain ⟨b, off, u, rfl, hb, hu, hc⟩ := HS.out.at_ hlt
      have hd := allE_drop t zs k (by have := HL.out; omega)
      obtain ⟨z, hz', rfl⟩ : ∃ z, zs[k]? = some z ∧ u = .int .u64 z := by
        rw [List.getElem?_map] at hu
        obtain ⟨z, h1, h2⟩ := Option.map_eq_some_iff.1 hu
        exact ⟨z, h1, h2.symm⟩
      have hz0 : 0 ≤ z := HZ.out z (List.mem_of_getElem? hz')
      rw [hz'] at hd
      simp only [Option.getD_some] at hd
      have HD := Lib.hid hd; clear hd
      clear hu hz'
      have hr := plusE_range t z ht0 hz0
      by_cases h0 : (plusE t z).2 = 0
      · have hadd := radd_any t z wr ht0 hz0
        generalize plusE t z = p at *
        obtain ⟨p1, p2⟩ := p
        simp only at h0 hr hadd
        subst h0
        obtain ⟨hr0, hr1, -⟩ := hr
        have HADD := Lib.hid hadd; clear hadd
        go_wp2_with fail
        refine HADD.out.mono ?_
        rintro e w1 ⟨rfl, rfl⟩
        go_wp2_with fail
        go_roundw
        case rel => exact ⟨k + 1, p1, by omega, by go_num, rfl, hr0, hr1, by rw [HA.out, HD.out]; simp, trivial⟩
        case measure => simp [intOf]; omega
      · have hadd := radd_any t z wr ht0 hz0
        generalize plusE t z = p at *
        obtain ⟨p1, p2⟩ := p
        simp only at h0 hr hadd
        have h6 : p2 = 6 := by omega
        subst h6
        have HADD := Lib.hid hadd; clear hadd
        clear hr h0
        go_wp2_with fail
        refine HADD.out.mono ?_
        rintro e w1 ⟨rfl, rfl⟩
        go_wp2_with fail
        go_ret2
        have hfin : allE 0 zs = (0, 6) := by rw [HA.out, HD.out, if_neg (by omega)]
        exact ⟨ret_pair (by rw [hfin]) (by rw [hfin]), Below.refl _ _⟩
    · go_wp2_with fail
      go_ret2
      have hfin : allE 0 zs = (t, 0) := by rw [HA.out, List.drop_eq_nil_of_le (by have := HL.out; omega)]; rfl
      exact ⟨ret_pair (by rw [hfin]) (by rw [hfin]), Below.refl _ _⟩

theorem info_us : (Tryd.prog.info? 27).map (fun i => (i.zero, i.size, i.bytes)) = some (some (.int .u64 0), 1, 8) := by kernel_rfl
theorem el_us : ElemT Tryd.prog 112 27 1 8 := elemT Tryd.underlying112 info_us rfl (by omega)
end Go.Proofs.YtphmefhnffoafaaDoor

/- Headers and entries, read of bytes (plain). No program in sight. -/
namespace Go.Proofs.YtphmefhnffoafaaDoor
set_option linter.unusedVariables false

def lookH (l : List UInt8) : Rd Hdr := match numR 63 l with
  | .error x => .error x
  | .ok (s, l1) => match numR 1099511627776 l1 with
    | .error x => .error x
    | .ok (h, l2) => match numR 1099511627776 l2 with
      | .error x => .error x
      | .ok (ep, l3) => match takeR 32 l3 with
        | .error x => .error x
        | .ok (p, l4) => match takeR 32 l4 with
          | .error x => .error x
          | .ok (r, l5) => .ok (⟨(s : Int), (h : Int), (ep : Int), p, r⟩, l5)
def readH (l : List UInt8) : Except Nat Hdr := match lookH l with
  | .error x => .error x
  | .ok (h, l5) => if l5 = [] ∧ h.height ≠ 0 then .ok h else .error 3
def lookE (l : List UInt8) : Rd Ent := match numR 3 l with
  | .error x => .error x
  | .ok (k, l1) => match numR 63 l1 with
    | .error x => .error x
    | .ok (s, l2) => match takeR 32 l2 with
      | .error x => .error x
      | .ok (t, l3) => match numR 4611686018427387904 l3 with
        | .error x => .error x
        | .ok (a, l4) => match numR 63 l4 with
          | .error x => .error x
          | .ok (y, l5) => match numR 1099511627776 l5 with
            | .error x => .error x
            | .ok (ep, l6) => .ok (⟨(k : Int), (s : Int), t, (a : Int), (y : Int), (ep : Int)⟩, l6)
def readE (l : List UInt8) : Except Nat Ent := match lookE l with
  | .error x => .error x
  | .ok (e, l5) => if l5 = [] ∧ e.kind ≠ 0 then .ok e else .error 3
def errOf {α : Type} : Except Nat α → Nat
  | .error x => x
  | .ok _ => 0
def hdrOf : Except Nat Hdr → Hdr
  | .error _ => noHdr
  | .ok h => h
def entOf : Except Nat Ent → Ent
  | .error _ => noEnt
  | .ok h => h
theorem lookH_ok {l t : List UInt8} {h : Hdr} (e : lookH l = .ok (h, t)) : h.ok ∧ (0 ≤ h.shard ∧ h.shard ≤ 63) ∧ (0 ≤ h.height ∧ h.height ≤ 1099511627776) ∧ (0 ≤ h.epoch ∧ h.epoch ≤ 1099511627776) ∧ t.length ≤ l.length := by
  unfold lookH at e
  cases h1 : numR 63 l with
  | error x => rw [h1] at e; simp at e
  | ok p =>
    obtain ⟨s, l1⟩ := p
    rw [h1] at e
    simp only at e
    cases h2 : numR 1099511627776 l1 with
    | error x => rw [h2] at e; simp at e
    | ok p =>
      obtain ⟨h, l2⟩ := p
      rw [h2] at e
      simp only at e
      cases h3 : numR 1099511627776 l2 with
      | error x => rw [h3] at e; simp at e
      | ok p =>
        obtain ⟨ep, l3⟩ := p
        rw [h3] at e
        simp only at e
        cases h4 : takeR 32 l3 with
        | error x => rw [h4] at e; simp at e
        | ok p =>
          obtain ⟨p, l4⟩ := p
          rw [h4] at e
          simp only at e
          cases h5 : takeR 32 l4 with
          | error x => rw [h5] at e; simp at e
          | ok p =>
            obtain ⟨r, l5⟩ := p
            rw [h5] at e
            simp only at e
            injection e with e; injection e with e1 e2
            subst e1; subst e2
            have q1 := numR_le h1; have q2 := numR_le h2; have q3 := numR_le h3; have q4 := takeR_le h4; have q5 := takeR_le h5
            refine ⟨⟨⟨?_, ?_⟩, ⟨?_, ?_⟩, ⟨?_, ?_⟩, q4.1, q5.1⟩, ⟨?_, ?_⟩, ⟨?_, ?_⟩, ⟨?_, ?_⟩, ?_⟩ <;> (try simp only) <;> omega
theorem readH_right {l : List UInt8} {h : Hdr} (e : readH l = .ok h) : h.ok ∧ rightH h = true := by
  unfold readH at e
  split at e
  · cases e
  · rename_i h1
    split at e
    · rename_i h2
      injection e with e
      subst e
      obtain ⟨hk, q1, q2, q3, _⟩ := lookH_ok h1
      exact ⟨hk, rightH_iff.2 ⟨q1, ⟨by omega, q2.2⟩, q3⟩⟩
    · cases e
theorem hdrOf_ok (l : List UInt8) : (hdrOf (readH l)).ok := by
  cases e : readH l with
  | error x => exact noHdr_ok
  | ok h => exact (readH_right e).1
theorem lookE_ok {l t : List UInt8} {h : Ent} (e : lookE l = .ok (h, t)) : h.ok ∧ (0 ≤ h.kind ∧ h.kind ≤ 3) ∧ (0 ≤ h.shard ∧ h.shard ≤ 63) ∧ h.amount ≤ 4611686018427387904 ∧ (0 ≤ h.why ∧ h.why ≤ 63) ∧ (0 ≤ h.epoch ∧ h.epoch ≤ 1099511627776) ∧ t.length ≤ l.length := by
  unfold lookE at e
  cases h1 : numR 3 l with
  | error x => rw [h1] at e; simp at e
  | ok p =>
    obtain ⟨k, l1⟩ := p
    rw [h1] at e
    simp only at e
    cases h2 : numR 63 l1 with
    | error x => rw [h2] at e; simp at e
    | ok p =>
      obtain ⟨s, l2⟩ := p
      rw [h2] at e
      simp only at e
      cases h3 : takeR 32 l2 with
      | error x => rw [h3] at e; simp at e
      | ok p =>
        obtain ⟨tx, l3⟩ := p
        rw [h3] at e
        simp only at e
        cases h4 : numR 4611686018427387904 l3 with
        | error x => rw [h4] at e; simp at e
        | ok p =>
          obtain ⟨a, l4⟩ := p
          rw [h4] at e
          simp only at e
          cases h5 : numR 63 l4 with
          | error x => rw [h5] at e; simp at e
          | ok p =>
            obtain ⟨y, l5⟩ := p
            rw [h5] at e
            simp only at e
            cases h6 : numR 1099511627776 l5 with
            | error x => rw [h6] at e; simp at e
            | ok p =>
              obtain ⟨ep, l6⟩ := p
              rw [h6] at e
              simp only at e
              injection e with e; injection e with e1 e2
              subst e1; subst e2
              have q1 := numR_le h1; have q2 := numR_le h2; have q3 := takeR_le h3; have q4 := numR_le h4; have q5 := numR_le h5; have q6 := numR_le h6
              refine ⟨⟨⟨?_, ?_⟩, ⟨?_, ?_⟩, q3.1, ⟨?_, ?_⟩, ⟨?_, ?_⟩, ⟨?_, ?_⟩⟩, ⟨?_, ?_⟩, ⟨?_, ?_⟩, ?_, ⟨?_, ?_⟩, ⟨?_, ?_⟩, ?_⟩ <;> (try simp only) <;> omega
theorem readE_right {l : List UInt8} {h : Ent} (e : readE l = .ok h) : h.ok ∧ rightE h = true := by
  unfold readE at e
  split at e
  · cases e
  · rename_i h1
    split at e
    · rename_i h2
      injection e with e
      subst e
      obtain ⟨hk, q1, q2, q3, q4, q5, _⟩ := lookE_ok h1
      exact ⟨hk, rightE_iff.2 ⟨⟨by omega, q1.2⟩, q2, q3, q4, q5⟩⟩
    · cases e
theorem entOf_ok (l : List UInt8) : (entOf (readE l)).ok := by
  cases e : readE l with
  | error x => exact noEnt_ok
  | ok h => exact (readE_right e).1
theorem lookH_put {h : Hdr} (hk : h.ok) (hr : rightH h = true) (t : List UInt8) : lookH (putHB h ++ t) = .ok (h, t) := by
  obtain ⟨⟨a1, a2⟩, ⟨b1, b2⟩, c1, c2⟩ := rightH_iff.1 hr
  obtain ⟨_, _, _, hp, hq⟩ := hk
  obtain ⟨s, h, ep, p, r⟩ := h
  simp only at a1 a2 b1 b2 c1 c2 hp hq
  unfold putHB lookH
  simp only [List.append_assoc]
  rw [numR_put (n := s.toNat) (by omega) (by omega)]
  simp only
  rw [numR_put (n := h.toNat) (by omega) (by omega)]
  simp only
  rw [numR_put (n := ep.toNat) (by omega) (by omega)]
  simp only
  rw [takeR_len hp]
  simp only
  rw [takeR_len hq]
  simp only [Int.toNat_of_nonneg a1, Int.toNat_of_nonneg c1, Int.toNat_of_nonneg (show 0 ≤ h by omega)]
theorem readH_put {h : Hdr} (hk : h.ok) (hr : rightH h = true) : readH (putHB h) = .ok h := by
  have e := lookH_put hk hr []
  rw [List.append_nil] at e
  unfold readH
  rw [e]
  simp only
  rw [if_pos ⟨by simp, by have := rightH_iff.1 hr; omega⟩]
theorem lookE_put {h : Ent} (hk : h.ok) (hr : rightE h = true) (t : List UInt8) : lookE (putEB h ++ t) = .ok (h, t) := by
  obtain ⟨⟨a1, a2⟩, ⟨b1, b2⟩, c2, ⟨d1, d2⟩, e1, e2⟩ := rightE_iff.1 hr
  obtain ⟨_, _, hp, ⟨c1, _⟩, _, _⟩ := hk
  obtain ⟨k, s, tx, a, y, ep⟩ := h
  simp only at a1 a2 b1 b2 c1 c2 d1 d2 e1 e2 hp
  unfold putEB lookE
  simp only [List.append_assoc]
  rw [numR_put (n := k.toNat) (by omega) (by omega)]
  simp only
  rw [numR_put (n := s.toNat) (by omega) (by omega)]
  simp only
  rw [takeR_len hp]
  simp only
  rw [numR_put (n := a.toNat) (by omega) (by omega)]
  simp only
  rw [numR_put (n := y.toNat) (by omega) (by omega)]
  simp only
  rw [numR_put (n := ep.toNat) (by omega) (by omega)]
  simp only [Int.toNat_of_nonneg b1, Int.toNat_of_nonneg c1, Int.toNat_of_nonneg d1, Int.toNat_of_nonneg e1, Int.toNat_of_nonneg (show 0 ≤ k by omega)]
theorem readE_put {h : Ent} (hk : h.ok) (hr : rightE h = true) : readE (putEB h) = .ok h := by
  have e := lookE_put hk hr []
  rw [List.append_nil] at e
  unfold readE
  rw [e]
  simp only
  rw [if_pos ⟨by simp, by have := rightE_iff.1 hr; omega⟩]
end Go.Proofs.YtphmefhnffoafaaDoor

/- Transactions: right ones, forms, digests; read of bytes (plain). -/
namespace Go.Proofs.YtphmefhnffoafaaDoor
open Go.RowKit
set_option linter.unusedVariables false

structure Inp where
  tx : List UInt8
  index : Int
  amount : Int
  secret : List UInt8
structure Outp where
  owner : List UInt8
  amount : Int
structure Txn where
  ins : List Inp
  outs : List Outp
  fee : Int
  expiry : Int
def Inp.ok (i : Inp) : Prop := i.tx.length = 32 ∧ I64 i.index ∧ U64 i.amount
def Outp.ok (o : Outp) : Prop := o.owner.length = 32 ∧ U64 o.amount
def Txn.ok (t : Txn) : Prop := (∀ i ∈ t.ins, i.ok) ∧ (∀ o ∈ t.outs, o.ok) ∧ U64 t.fee ∧ I64 t.expiry
def noTxn : Txn := ⟨[], [], 0, 0⟩
theorem noTxn_ok : noTxn.ok := by simp [noTxn, Txn.ok, I64, U64]
def Inp.pt (i : Inp) : List UInt8 × Int := (i.tx, i.index)
def longI (i : Inp) : Bool := decide (64 < i.secret.length) || !inB i.index 0 15
def shortT (t : Txn) : Bool := inB t.ins.length 1 16 && inB t.outs.length 1 16 && inB t.expiry 0 1099511627776
def longT (t : Txn) : Bool := !shortT t || t.ins.any longI
def twiceL : List (List UInt8 × Int) → Bool
  | [] => false
  | x :: l => l.contains x || twiceL l
def twiceT (t : Txn) : Bool := !decide ((t.ins.map Inp.pt).Nodup)
def zeroT (t : Txn) : Bool := (t.ins.map Inp.amount).contains 0 || (t.outs.map Outp.amount).contains 0
/-- A transaction's error. -/
def checkT (t : Txn) : Int :=
  if longT t = true then 4 else if twiceT t = true then 7 else if zeroT t = true then 8
  else if (allE 0 (t.ins.map Inp.amount)).2 ≠ 0 then (allE 0 (t.ins.map Inp.amount)).2
  else if (allE 0 (t.outs.map Outp.amount ++ [t.fee])).2 ≠ 0 then (allE 0 (t.outs.map Outp.amount ++ [t.fee])).2
  else if (allE 0 (t.ins.map Inp.amount)).1 ≠ (allE 0 (t.outs.map Outp.amount ++ [t.fee])).1 then 9 else 0
def putI (i : Inp) : List UInt8 := i.tx ++ numB i.index.toNat ++ numB i.amount.toNat ++ numB i.secret.length ++ i.secret
def putO (o : Outp) : List UInt8 := o.owner ++ numB o.amount.toNat
def putTB (t : Txn) : List UInt8 := numB t.ins.length ++ t.ins.flatMap putI ++ numB t.outs.length ++ t.outs.flatMap putO ++ numB t.fee.toNat ++ numB t.expiry.toNat
def tformB (t : Txn) : List UInt8 := if checkT t = 0 then putTB t else []
def tidB (t : Txn) : List UInt8 := if checkT t = 0 then sha (underB 8 [putTB t]) else zeroD
def ownerB (s : List UInt8) : List UInt8 := sha (underB 9 [s])

def lookI (l : List UInt8) : Rd Inp := match takeR 32 l with
  | .error x => .error x
  | .ok (t, l1) => match numR 15 l1 with
    | .error x => .error x
    | .ok (n, l2) => match numR 18446744073709551615 l2 with
      | .error x => .error x
      | .ok (a, l3) => match textR 64 l3 with
        | .error x => .error x
        | .ok (s, l4) => .ok (⟨t, (n : Int), (a : Int), s⟩, l4)
def lookO (l : List UInt8) : Rd Outp := match takeR 32 l with
  | .error x => .error x
  | .ok (t, l1) => match numR 18446744073709551615 l1 with
    | .error x => .error x
    | .ok (a, l2) => .ok (⟨t, (a : Int)⟩, l2)
def lookN {α : Type} (f : List UInt8 → Rd α) : Nat → List UInt8 → Rd (List α)
  | 0, l => .ok ([], l)
  | n + 1, l => match f l with
    | .error x => .error x
    | .ok (a, l1) => match lookN f n l1 with
      | .error x => .error x
      | .ok (qs, l2) => .ok (a :: qs, l2)
def lookT (l : List UInt8) : Rd Txn := match numR 16 l with
  | .error x => .error x
  | .ok (n, l1) => match lookN lookI n l1 with
    | .error x => .error x
    | .ok (ins, l2) => match numR 16 l2 with
      | .error x => .error x
      | .ok (m, l3) => match lookN lookO m l3 with
        | .error x => .error x
        | .ok (outs, l4) => match numR 18446744073709551615 l4 with
          | .error x => .error x
          | .ok (fee, l5) => match numR 1099511627776 l5 with
            | .error x => .error x
            | .ok (ep, l6) => .ok (⟨ins, outs, (fee : Int), (ep : Int)⟩, l6)
def readT (l : List UInt8) : Except Nat Txn := match lookT l with
  | .error x => .error x
  | .ok (t, l6) => if l6 ≠ [] then .error 3 else if checkT t ≠ 0 then .error (checkT t).toNat else .ok t
def txnOf : Except Nat Txn → Txn
  | .error _ => noTxn
  | .ok t => t

theorem lookI_le {l t : List UInt8} {i : Inp} (h : lookI l = .ok (i, t)) : i.ok ∧ i.secret.length ≤ 64 ∧ t.length ≤ l.length := by
  unfold lookI at h
  cases h1 : takeR 32 l with
  | error x => rw [h1] at h; simp at h
  | ok p =>
    obtain ⟨tx, l1⟩ := p
    rw [h1] at h
    simp only at h
    cases h2 : numR 15 l1 with
    | error x => rw [h2] at h; simp at h
    | ok p =>
      obtain ⟨n, l2⟩ := p
      rw [h2] at h
      simp only at h
      cases h3 : numR 18446744073709551615 l2 with
      | error x => rw [h3] at h; simp at h
      | ok p =>
        obtain ⟨a, l3⟩ := p
        rw [h3] at h
        simp only at h
        cases h4 : textR 64 l3 with
        | error x => rw [h4] at h; simp at h
        | ok p =>
          obtain ⟨sc, l4⟩ := p
          rw [h4] at h
          simp only at h
          injection h with h; injection h with e1 e2
          subst e1; subst e2
          have q1 := takeR_le h1; have q2 := numR_le h2; have q3 := numR_le h3; have q4 := textR_le h4
          refine ⟨⟨q1.1, ⟨?_, ?_⟩, ⟨?_, ?_⟩⟩, q4.1, ?_⟩ <;> (try simp only) <;> omega
theorem lookO_le {l t : List UInt8} {o : Outp} (h : lookO l = .ok (o, t)) : o.ok ∧ t.length ≤ l.length := by
  unfold lookO at h
  cases h1 : takeR 32 l with
  | error x => rw [h1] at h; simp at h
  | ok p =>
    obtain ⟨tx, l1⟩ := p
    rw [h1] at h
    simp only at h
    cases h2 : numR 18446744073709551615 l1 with
    | error x => rw [h2] at h; simp at h
    | ok p =>
      obtain ⟨a, l2⟩ := p
      rw [h2] at h
      simp only at h
      injection h with h; injection h with e1 e2
      subst e1; subst e2
      have q1 := takeR_le h1; have q2 := numR_le h2
      refine ⟨⟨q1.1, ⟨?_, ?_⟩⟩, ?_⟩ <;> (try simp only) <;> omega
theorem lookN_le {α : Type} {f : List UInt8 → Rd α} {ok : α → Prop} (hf : ∀ l a t, f l = .ok (a, t) → ok a ∧ t.length ≤ l.length) : ∀ (n : Nat) (l : List UInt8) (qs : List α) (t : List UInt8), lookN f n l = .ok (qs, t) → qs.length = n ∧ (∀ a ∈ qs, ok a) ∧ t.length ≤ l.length
  | 0, l, qs, t, h => by
    unfold lookN at h
    injection h with h; injection h with e1 e2
    subst e1; subst e2
    exact ⟨rfl, (fun a ha => by cases ha), Nat.le_refl _⟩
  | n + 1, l, qs, t, h => by
    unfold lookN at h
    split at h
    · cases h
    · rename_i a l1 h1
      split at h
      · cases h
      · rename_i bs l2 h2
        injection h with h; injection h with e1 e2
        subst e1; subst e2
        obtain ⟨k1, k2⟩ := hf _ _ _ h1
        obtain ⟨k3, k4, k5⟩ := lookN_le hf n _ _ _ h2
        exact ⟨by simp [k3], fun b hb => by rcases List.mem_cons.1 hb with rfl | hb; exact k1; exact k4 b hb, by omega⟩
/-- One more behind n. -/
theorem lookN_snoc {α : Type} {f : List UInt8 → Rd α} : ∀ (n : Nat) (l : List UInt8), lookN f (n + 1) l = match lookN f n l with
    | .error x => .error x
    | .ok (qs, l1) => match f l1 with
      | .error x => .error x
      | .ok (a, l2) => .ok (qs ++ [a], l2)
  | 0, l => by
    simp only [lookN]
    cases f l with
    | error x => rfl
    | ok p => obtain ⟨a, l1⟩ := p; rfl
  | n + 1, l => by
    rw [lookN]
    cases h : f l with
    | error x => simp only [lookN, h]
    | ok p =>
      obtain ⟨a, l1⟩ := p
      simp only [lookN_snoc n l1]
      conv => rhs; rw [lookN]
      simp only [h]
      cases h2 : lookN f n l1 with
      | error x => rfl
      | ok p =>
        obtain ⟨qs, l2⟩ := p
        simp only
        cases h3 : f l2 with
        | error x => rfl
        | ok p => obtain ⟨b, l3⟩ := p; rfl
/-- An error ahead stays. -/
theorem lookN_err {α : Type} {f : List UInt8 → Rd α} {l : List UInt8} {x : Nat} {k : Nat} (h : lookN f k l = .error x) : ∀ (d : Nat), lookN f (k + d) l = .error x
  | 0 => h
  | d + 1 => by rw [← Nat.add_assoc, lookN_snoc, lookN_err h d]
theorem lookT_ok {l t : List UInt8} {x : Txn} (h : lookT l = .ok (x, t)) : x.ok ∧ x.ins.length ≤ 16 ∧ x.outs.length ≤ 16 ∧ (∀ i ∈ x.ins, i.secret.length ≤ 64) ∧ t.length ≤ l.length := by
  unfold lookT at h
  cases h1 : numR 16 l with
  | error x => rw [h1] at h; simp at h
  | ok p =>
    obtain ⟨n, l1⟩ := p
    rw [h1] at h
    simp only at h
    cases h2 : lookN lookI n l1 with
    | error x => rw [h2] at h; simp at h
    | ok p =>
      obtain ⟨ins, l2⟩ := p
      rw [h2] at h
      simp only at h
      cases h3 : numR 16 l2 with
      | error x => rw [h3] at h; simp at h
      | ok p =>
        obtain ⟨m, l3⟩ := p
        rw [h3] at h
        simp only at h
        cases h4 : lookN lookO m l3 with
        | error x => rw [h4] at h; simp at h
        | ok p =>
          obtain ⟨outs, l4⟩ := p
          rw [h4] at h
          simp only at h
          cases h5 : numR 18446744073709551615 l4 with
          | error x => rw [h5] at h; simp at h
          | ok p =>
            obtain ⟨fee, l5⟩ := p
            rw [h5] at h
            simp only at h
            cases h6 : numR 1099511627776 l5 with
            | error x => rw [h6] at h; simp at h
            | ok p =>
              obtain ⟨ep, l6⟩ := p
              rw [h6] at h
              simp only at h
              injection h with h; injection h with e1 e2
              subst e1; subst e2
              have q1 := numR_le h1; have q3 := numR_le h3; have q5 := numR_le h5; have q6 := numR_le h6
              obtain ⟨a1, a2, a3⟩ := lookN_le (ok := fun i => i.ok ∧ i.secret.length ≤ 64) (fun l a t h => by have := lookI_le h; exact ⟨⟨this.1, this.2.1⟩, this.2.2⟩) _ _ _ _ h2
              obtain ⟨b1, b2, b3⟩ := lookN_le (ok := Outp.ok) (fun l a t h => lookO_le h) _ _ _ _ h4
              refine ⟨⟨fun i hi => (a2 i hi).1, b2, ⟨?_, ?_⟩, ⟨?_, ?_⟩⟩, ?_, ?_, fun i hi => (a2 i hi).2, ?_⟩ <;> (try simp only) <;> omega
theorem txnOf_ok (l : List UInt8) : (txnOf (readT l)).ok := by
  unfold readT
  cases e : lookT l with
  | error x => exact noTxn_ok
  | ok p =>
    obtain ⟨t, l6⟩ := p
    simp only
    split
    · exact noTxn_ok
    · split
      · exact noTxn_ok
      · exact (lookT_ok e).1
theorem lookI_put {i : Inp} (h : i.ok) (hs : i.secret.length ≤ 64) (hx : 0 ≤ i.index ∧ i.index ≤ 15) (t : List UInt8) : lookI (putI i ++ t) = .ok (i, t) := by
  obtain ⟨h1, h2, h3⟩ := h
  obtain ⟨tx, ix, a, s⟩ := i
  simp only at h1 h2 hs hx
  obtain ⟨h3a, h3b⟩ := h3
  simp only at h3a h3b
  unfold putI lookI
  simp only [List.append_assoc]
  rw [takeR_len h1]
  simp only
  rw [numR_put (n := ix.toNat) (by omega) (by omega)]
  simp only
  rw [numR_put (n := a.toNat) (by omega) (by omega)]
  simp only
  rw [textR_put hs (by omega)]
  simp only [Int.toNat_of_nonneg hx.1, Int.toNat_of_nonneg h3a]
theorem lookO_put {o : Outp} (h : o.ok) (t : List UInt8) : lookO (putO o ++ t) = .ok (o, t) := by
  obtain ⟨h1, h2, h3⟩ := h
  obtain ⟨tx, a⟩ := o
  simp only at h1 h2 h3
  unfold putO lookO
  simp only [List.append_assoc]
  rw [takeR_len h1]
  simp only
  rw [numR_put (n := a.toNat) (by omega) (by omega)]
  simp only [Int.toNat_of_nonneg h2]
theorem lookN_put {α : Type} {f : List UInt8 → Rd α} {p : α → List UInt8} : ∀ (qs : List α) (t : List UInt8), (∀ a ∈ qs, ∀ t, f (p a ++ t) = .ok (a, t)) → lookN f qs.length (qs.flatMap p ++ t) = .ok (qs, t)
  | [], t, _ => rfl
  | a :: qs, t, h => by
    rw [List.length_cons, lookN, List.flatMap_cons, List.append_assoc, h a (by simp)]
    simp only
    rw [lookN_put qs t (fun b hb => h b (by simp [hb]))]
theorem short_of {t : Txn} (h : checkT t = 0) : shortT t = true ∧ ∀ i ∈ t.ins, i.secret.length ≤ 64 ∧ 0 ≤ i.index ∧ i.index ≤ 15 := by
  unfold checkT at h
  split at h
  · cases h
  · rename_i hl
    unfold longT at hl
    simp only [Bool.or_eq_true, not_or, Bool.not_eq_true', Bool.not_eq_true, Bool.not_eq_false, List.any_eq_false] at hl
    refine ⟨by simpa using hl.1, fun i hi => ?_⟩
    have h9 := hl.2 i hi
    simp [longI, inB] at h9
    omega
theorem readT_put {t : Txn} (hk : t.ok) (h : checkT t = 0) : readT (putTB t) = .ok t := by
  obtain ⟨hs, hi⟩ := short_of h
  unfold shortT at hs
  simp only [Bool.and_eq_true, inB_iff] at hs
  obtain ⟨k1, k2, ⟨k3, k4⟩, k5⟩ := hk
  have e : lookT (putTB t ++ []) = .ok (t, []) := by
    unfold putTB lookT
    simp only [List.append_assoc]
    rw [numR_put (n := t.ins.length) (by omega) (by omega)]
    simp only
    rw [lookN_put t.ins _ (fun i hm t' => lookI_put (k1 i hm) (hi i hm).1 (hi i hm).2 t')]
    simp only
    rw [numR_put (n := t.outs.length) (by omega) (by omega)]
    simp only
    rw [lookN_put t.outs _ (fun o hm t' => lookO_put (k2 o hm) t')]
    simp only
    rw [numR_put (n := t.fee.toNat) (by omega) (by omega)]
    simp only
    rw [numR_put (n := t.expiry.toNat) (by omega) (by omega)]
    simp only [Int.toNat_of_nonneg k3, Int.toNat_of_nonneg (show 0 ≤ t.expiry by omega)]
  rw [List.append_nil] at e
  unfold readT
  rw [e]
  simp [h]
/-- Right transactions have one form. -/
theorem putT_inj {a b : Txn} (ha : a.ok) (hb : b.ok) (ca : checkT a = 0) (cb : checkT b = 0) (h : putTB a = putTB b) : a = b := by
  have h1 := readT_put ha ca
  rw [h, readT_put hb cb] at h1
  injection h1 with h1
  exact h1.symm
end Go.Proofs.YtphmefhnffoafaaDoor

/- Contracts of sums.All, sums.Split, their references and of the law's example. -/
import Derived.Test.YtliglgpkboieeaaSums
namespace Go.Proofs.Ytliglgpkboieeaa
open Go.RowKit

/-- The sum of all, as both texts reckon it. -/
def allE (s : Int) : List Int → Int × Int
  | [] => (s, 0)
  | x :: r => if (addE s x).2 = 0 then allE (addE s x).1 r else (0, (addE s x).2)

theorem addE_range (a b : Int) (ha : 0 ≤ a) (hb : 0 ≤ b) : 0 ≤ (addE a b).1 ∧ (addE a b).1 ≤ 4611686018427387904 ∧ ((addE a b).2 = 0 ∨ (addE a b).2 = 6) := by
  unfold addE; split <;> simp <;> omega

theorem allE_drop (s : Int) (zs : List Int) (k : Nat) (h : k < zs.length) : allE s (zs.drop k) = if (addE s (zs[k]?.getD 0)).2 = 0 then allE (addE s (zs[k]?.getD 0)).1 (zs.drop (k+1)) else (0, (addE s (zs[k]?.getD 0)).2) := by
  rw [List.drop_eq_getElem_cons h, allE]; simp [h]

theorem allE_range (zs : List Int) : ∀ (s : Int) (_ : ∀ z ∈ zs, 0 ≤ z) (_ : 0 ≤ s) (_ : s ≤ 4611686018427387904), 0 ≤ (allE s zs).2 ∧ (allE s zs).2 ≤ 6 := by
  induction zs with
  | nil => intro s _ _ _; simp [allE]
  | cons z zs ih =>
    intro s hz h0 h1
    have hr := addE_range s z h0 (hz z (by simp))
    rw [allE]
    split
    · exact ih _ (fun x hx => hz x (by simp [hx])) hr.1 hr.2.1
    · simp; omega

theorem ret_pair {k1 k2 : IntKind} {a b c d : Int} (h : a = c) (h' : b = d) : Ending.returned (.tuple #[.int k1 a, .int k2 b]) = .returned (.tuple #[.int k1 c, .int k2 d]) := by rw [h, h']

theorem all_any (A : Option Addr) (n cap : Nat) (zs : List Int) (w : World) (hs : Sl w w.heap.size 1 A n (zs.map (Value.int .u64))) (hn : n ≤ 9223372036854775807) (hz : ∀ z ∈ zs, 0 ≤ z) :
    Calls Try.prog 12 #[.slice A n cap] w fun e w' => e = .returned (.tuple #[.int .u64 (allE 0 zs).1, .int .i64 (allE 0 zs).2]) ∧ Below w.heap.size w w' := by
  have hl := hs.len
  simp only [List.length_map] at hl
  have HS := Lib.hid hs; clear hs
  have HZ := Lib.hid hz; clear hz
  have HL := Lib.hid hl; clear hl
  go_enter Try.func12, Try.ntmps12
  go_wp2
  go_loopw [4, 11] (fun s i wr => ∃ k : Nat, ∃ t : Int, k ≤ n ∧ i = .int .i64 k ∧ s = .int .u64 t ∧ 0 ≤ t ∧ t ≤ 4611686018427387904 ∧ allE 0 zs = allE t (zs.drop k) ∧ Below w.heap.size w wr) (fun _ i _ => n - (intOf i).toNat)
  case atStart => exact ⟨0, 0, Nat.zero_le _, rfl, rfl, by omega, by omega, rfl, Below.refl _ _⟩
  case round =>
    obtain ⟨k, t, hk, rfl, rfl, ht0, ht1, hall, hbw⟩ := hrel
    have HA := Lib.hid hall; clear hall
    have HB := Lib.hid hbw; clear hbw
    by_cases hlt : k < n
    · obtain ⟨b, off, u, rfl, hb, hu, hc⟩ := (HS.out.below HB.out).at_ hlt
      have hd := allE_drop t zs k (by have := HL.out; omega)
      obtain ⟨z, hz', rfl⟩ : ∃ z, zs[k]? = some z ∧ u = .int .u64 z := by
        rw [List.getElem?_map] at hu
        obtain ⟨z, h1, h2⟩ := Option.map_eq_some_iff.1 hu
        exact ⟨z, h1, h2.symm⟩
      have hz0 : 0 ≤ z := HZ.out z (List.mem_of_getElem? hz')
      rw [hz'] at hd
      simp only [Option.getD_some] at hd
      have HD := Lib.hid hd; clear hd
      clear hu hz'
      have hr := addE_range t z ht0 hz0
      by_cases h0 : (addE t z).2 = 0
      · have hadd := add_any t z wr ht0 hz0
        generalize addE t z = p at *
        obtain ⟨p1, p2⟩ := p
        simp only at h0 hr hadd
        subst h0
        obtain ⟨hr0, hr1, -⟩ := hr
        have HADD := Lib.hid hadd; clear hadd
        go_wp2_with fail
        refine HADD.out.mono ?_
        rintro e w1 ⟨rfl, hb1⟩
        have HB1 := Lib.hid hb1; clear hb1
        go_wp2_with fail
        go_roundw
        case rel => exact ⟨k + 1, p1, by omega, by go_num, rfl, hr0, hr1, by rw [HA.out, HD.out]; simp, HB.out.trans (HB1.out.mono HB.out.size)⟩
        case measure => simp [intOf]; omega
      · have hadd := add_any t z wr ht0 hz0
        generalize addE t z = p at *
        obtain ⟨p1, p2⟩ := p
        simp only at h0 hr hadd
        have h6 : p2 = 6 := by omega
        subst h6
        have HADD := Lib.hid hadd; clear hadd
        clear hr h0
        go_wp2_with fail
        refine HADD.out.mono ?_
        rintro e w1 ⟨rfl, hb1⟩
        have HB1 := Lib.hid hb1; clear hb1
        go_wp2_with fail
        go_ret2
        have hfin : allE 0 zs = (0, 6) := by rw [HA.out, HD.out, if_neg (by omega)]
        exact ⟨ret_pair (by rw [hfin]) (by rw [hfin]), HB.out.trans (HB1.out.mono HB.out.size)⟩
    · go_wp2_with fail
      go_ret2
      have hfin : allE 0 zs = (t, 0) := by rw [HA.out, List.drop_eq_nil_of_le (by have := HL.out; omega)]; rfl
      exact ⟨ret_pair (by rw [hfin]) (by rw [hfin]), HB.out⟩

theorem rall_any (A : Option Addr) (n cap : Nat) (zs : List Int) (w : World) (hs : Sl w w.heap.size 1 A n (zs.map (Value.int .u64))) (hn : n ≤ 9223372036854775807) (hz : ∀ z ∈ zs, 0 ≤ z) :
    Calls Try.prog 13 #[.slice A n cap] w fun e w' => e = .returned (.tuple #[.int .u64 (allE 0 zs).1, .int .i64 (allE 0 zs).2]) ∧ Below w.heap.size w w' := by
  have hl := hs.len
  simp only [List.length_map] at hl
  have HS := Lib.hid hs; clear hs
  have HZ := Lib.hid hz; clear hz
  have HL := Lib.hid hl; clear hl
  go_enter Try.func13, Try.ntmps13
  go_wp2
  go_loopw [4, 5] (fun s i wr => ∃ k : Nat, ∃ t : Int, k ≤ n ∧ i = .int .i64 k ∧ s = .int .u64 t ∧ 0 ≤ t ∧ t ≤ 4611686018427387904 ∧ allE 0 zs = allE t (zs.drop k) ∧ wr = w) (fun _ i _ => n - (intOf i).toNat)
  case atStart => exact ⟨0, 0, Nat.zero_le _, rfl, rfl, by omega, by omega, rfl, rfl⟩
  case round =>
    obtain ⟨k, t, hk, rfl, rfl, ht0, ht1, hall, rfl⟩ := hrel
    have HA := Lib.hid hall; clear hall
    by_cases hlt : k < n
    · obtain ⟨b, off, u, rfl, hb, hu, hc⟩ := HS.out.at_ hlt
      have hd := allE_drop t zs k (by have := HL.out; omega)
      obtain ⟨z, hz', rfl⟩ : ∃ z, zs[k]? = some z ∧ u = .int .u64 z := by
        rw [List.getElem?_map] at hu
        obtain ⟨z, h1, h2⟩ := Option.map_eq_some_iff.1 hu
        exact ⟨z, h1, h2.symm⟩
      have hz0 : 0 ≤ z := HZ.out z (List.mem_of_getElem? hz')
      rw [hz'] at hd
      simp only [Option.getD_some] at hd
      have HD := Lib.hid hd; clear hd
      clear hu hz'
      have hr := addE_range t z ht0 hz0
      by_cases h0 : (addE t z).2 = 0
      · have hadd := radd_any t z wr ht0 hz0
        generalize addE t z = p at *
        obtain ⟨p1, p2⟩ := p
        simp only at h0 hr hadd
        subst h0
        obtain ⟨hr0, hr1, -⟩ := hr
        have HADD := Lib.hid hadd; clear hadd
        go_wp2_with fail
        refine HADD.out.mono ?_
        rintro e w1 ⟨rfl, rfl⟩
        go_wp2_with fail
        go_roundw
        case rel => exact ⟨k + 1, p1, by omega, by go_num, rfl, hr0, hr1, by rw [HA.out, HD.out]; simp, trivial⟩
        case measure => simp [intOf]; omega
      · have hadd := radd_any t z wr ht0 hz0
        generalize addE t z = p at *
        obtain ⟨p1, p2⟩ := p
        simp only at h0 hr hadd
        have h6 : p2 = 6 := by omega
        subst h6
        have HADD := Lib.hid hadd; clear hadd
        clear hr h0
        go_wp2_with fail
        refine HADD.out.mono ?_
        rintro e w1 ⟨rfl, rfl⟩
        go_wp2_with fail
        go_ret2
        have hfin : allE 0 zs = (0, 6) := by rw [HA.out, HD.out, if_neg (by omega)]
        exact ⟨ret_pair (by rw [hfin]) (by rw [hfin]), Below.refl _ _⟩
    · go_wp2_with fail
      go_ret2
      have hfin : allE 0 zs = (t, 0) := by rw [HA.out, List.drop_eq_nil_of_le (by have := HL.out; omega)]; rfl
      exact ⟨ret_pair (by rw [hfin]) (by rw [hfin]), Below.refl _ _⟩

theorem info_u64 : (Try.prog.info? 22).map (fun i => (i.zero, i.size, i.bytes)) = some (some (.int .u64 0), 1, 8) := by kernel_rfl
theorem el_u64 : ElemT Try.prog 30 22 1 8 := elemT Try.underlying30 info_u64 rfl (by omega)

/-- One of the parts. -/
def partE (a : Int) (n i : Nat) : Int := (a + ((n : Int) - 1 - i)) / n
def partsE (a : Int) (n : Nat) : List Int := (List.range n).map (partE a n)

theorem split_no (a n : Int) (w : World) (ha : 0 ≤ a) (hr1 : -9223372036854775808 ≤ n) (hr2 : n ≤ 9223372036854775807) (h : ¬ (1 ≤ n ∧ n ≤ 256 ∧ a ≤ 4611686018427387904)) :
    Calls Try.prog 14 #[.int .u64 a, .int .i64 n] w fun e w' => e = .returned (.slice none 0 0) ∧ Below w.heap.size w w' := by
  by_cases h1 : 1 ≤ n
  · by_cases h2 : n ≤ 256
    · have h3 : small a = false := by simp [small]; omega
      go_enter Try.func14, Try.ntmps14
      go_wp2_with fail
      refine (is_one a w _ rfl).mono ?_
      rintro e w1 ⟨rfl, rfl⟩
      go_wp2_with fail
      go_ret
      exact ⟨rfl, ((Below.refl _ _).alloc (by simp) _)⟩
    · go_enter Try.func14, Try.ntmps14
      go_wp2_with fail
      go_ret
      exact ⟨rfl, Below.refl _ _⟩
  · go_enter Try.func14, Try.ntmps14
    go_wp2_with fail
    go_ret
    exact ⟨rfl, Below.refl _ _⟩

theorem split_yes (a : Int) (n : Nat) (w : World) (ha : 0 ≤ a) (h1 : 1 ≤ n) (h2 : n ≤ 256) (h3 : a ≤ 4611686018427387904) :
    Calls Try.prog 14 #[.int .u64 a, .int .i64 n] w fun e w' => ∃ g, e = .returned (.slice (some ⟨g, 0, none⟩) n n) ∧ w'.ownsRow w.heap.size 22 1 (.slice (some ⟨g, 0, none⟩) n n) n ((partsE a n).map (Value.int .u64)) ∧ Below w.heap.size w w' := by
  have e1 : small a = true := by simp [small]; omega
  go_enter Try.func14, Try.ntmps14
  go_wp2_with fail
  refine (is_one a w _ rfl).mono ?_
  rintro e w1 ⟨rfl, rfl⟩
  have hbw0 : Below w.heap.size w (w.alloc (.cells #[.int .u64 a] 22)) := (Below.refl _ _).alloc (by simp) _
  have HB0 := Lib.hid hbw0; clear hbw0
  have hown0 := HB0.out.size
  generalize hw1 : w.alloc (.cells #[.int .u64 a] 22) = w1 at *
  have HW := Lib.hid hw1; clear hw1
  go_wp2_with (at_make; refine wpl_make rfl rfl w.heap.size el_u64 rfl rfl ?_ ?_ ?_ ?_)
  · omega
  · omega
  · exact hown0
  · intro w2 xs0 hown hg
    go_wp2_with fail
    have hb2 : Below w.heap.size w w2 := HB0.out.grown hg hown0 (by intro k hk; cases hk)
    have HB2 := Lib.hid hb2; clear hb2
    have HO := Lib.hid hown; clear hown
    clear hg
    generalize hgd : w1.heap.size = g at *
    clear hgd
    go_wp2_with fail
    go_loopw [23] (fun i wr => ∃ k : Nat, ∃ xs : List Value, k ≤ n ∧ i = .int .i64 k ∧ Hid (wr.ownsRow w.heap.size 22 1 (.slice (some ⟨g, 0, none⟩) n n) n xs) ∧ Hid (∀ i, i < k → xs[i]? = some (.int .u64 (partE a n i))) ∧ Hid (Below w.heap.size w wr)) (fun i _ => n - (intOf i).toNat)
    case atStart => exact ⟨0, _, Nat.zero_le _, rfl, HO, fun i hi => absurd hi (by omega), HB2⟩
    case round =>
      obtain ⟨k, xs, hk, rfl, hown, hxs, hbw⟩ := hrel
      by_cases hlt : k < n
      · have hfz := hown.out.frozenAt k
        obtain ⟨u, hcl⟩ := own_cell hown.out (by omega : k < n * 1)
        have hst := hown.out.stored k (.int .u64 (partE a n k))
        have e2 : (a + ((n:Int) - 1 - (k:Int))) / (n:Int) = partE a n k := rfl
        have HST := Lib.hid hst; clear hst
        go_wp2_with fail
        go_roundw
        case rel => 
          refine ⟨k + 1, xs.set k (.int .u64 (partE a n k)), by omega, by go_num, HST.out.1, ?_, hbw.out.grown HST.out.2 ?_ ?_⟩
          · exact set_upto (f := fun i => .int .u64 (partE a n i)) (by have := hown.out.1; omega) hlt hxs.out
          · exact hbw.out.size
          · intro j hj; cases hj; exact hown0
        case measure => simp [intOf]; omega
      · go_wp2_with fail
        go_ret
        obtain rfl : k = n := by omega
        have e3 := eq_of_upto (f := fun i => .int .u64 (partE a k i)) (by have := hown.out.1; omega) hxs.out
        refine ⟨g, rfl, ?_, hbw.out⟩
        have h4 := hown.out
        rw [e3] at h4
        rw [partsE, List.map_map]; exact h4

theorem part_eq (a : Int) (n i : Nat) (hi : i < n) : partE a n i = a / n + (if (i : Int) < a % n then 1 else 0) := by
  unfold partE
  have hn : (0 : Int) < n := by omega
  have h1 := Int.mul_ediv_add_emod a n
  have h2 := Int.emod_nonneg a (b := (n : Int)) (by omega)
  have h3 := Int.emod_lt_of_pos a hn
  generalize a / (n : Int) = q at *
  generalize a % (n : Int) = r at *
  have h4 : a + ((n : Int) - 1 - i) = (r + (n - 1 - i)) + n * q := by rw [← h1]; omega
  rw [h4, Int.add_mul_ediv_left _ _ (by omega)]
  split
  · have : (r + ((n : Int) - 1 - i)) / n = 1 := by
      rw [Int.ediv_eq_iff_of_pos hn]; omega
    omega
  · have : (r + ((n : Int) - 1 - i)) / n = 0 := by
      rw [Int.ediv_eq_iff_of_pos hn]; omega
    omega

theorem rsplit_no (a n : Int) (w : World) (hr1 : -9223372036854775808 ≤ n) (hr2 : n ≤ 9223372036854775807) (h : ¬ (1 ≤ n ∧ n ≤ 256 ∧ a ≤ 4611686018427387904)) :
    Calls Try.prog 15 #[.int .u64 a, .int .i64 n] w fun e w' => e = .returned (.slice none 0 0) ∧ Below w.heap.size w w' := by
  by_cases h1 : 1 ≤ n
  · by_cases h2 : n ≤ 256
    · have h3 : ¬ a ≤ 4611686018427387904 := by omega
      go_enter Try.func15, Try.ntmps15
      go_wp2_with fail
      go_ret
      exact ⟨rfl, Below.refl _ _⟩
    · go_enter Try.func15, Try.ntmps15
      go_wp2_with fail
      go_ret
      exact ⟨rfl, Below.refl _ _⟩
  · go_enter Try.func15, Try.ntmps15
    go_wp2_with fail
    go_ret
    exact ⟨rfl, Below.refl _ _⟩

theorem rsplit_yes (a : Int) (n : Nat) (w : World) (ha : 0 ≤ a) (h1 : 1 ≤ n) (h2 : n ≤ 256) (h3 : a ≤ 4611686018427387904) :
    Calls Try.prog 15 #[.int .u64 a, .int .i64 n] w fun e w' => ∃ A c, e = .returned (.slice A n c) ∧ w'.ownsRow w.heap.size 22 1 (.slice A n c) n ((partsE a n).map (Value.int .u64)) ∧ Below w.heap.size w w' := by
  go_enter Try.func15, Try.ntmps15
  go_wp2_with fail
  go_loopw [5, 6] (fun v i wr => ∃ k : Nat, ∃ A c, k ≤ n ∧ i = .int .i64 k ∧ v = .slice A k c ∧ Hid (wr.ownsRow w.heap.size 22 1 (.slice A k c) k (((List.range k).map (partE a n)).map (Value.int .u64))) ∧ Hid (Below w.heap.size w wr)) (fun _ i _ => n - (intOf i).toNat)
  case atStart => exact ⟨0, none, 0, Nat.zero_le _, rfl, rfl, World.ownsRow_nil _ _ _ _, Below.refl _ _⟩
  case round =>
    obtain ⟨k, A, c, hk, rfl, rfl, hown, hbw⟩ := hrel
    by_cases hlt : k < n
    · have hp := part_eq a n k hlt
      have hb : 0 ≤ a / (n : Int) := Int.ediv_nonneg ha (by omega)
      have hb2 : a / (n : Int) ≤ 4611686018427387904 := Int.le_trans (Int.ediv_le_self _ ha) h3
      have HP := Lib.hid hp; clear hp
      have hrng : (List.range (k + 1)).map (partE a n) = (List.range k).map (partE a n) ++ [partE a n k] := by rw [List.range_succ, List.map_append]; rfl
      have HR := Lib.hid hrng; clear hrng
      by_cases hm : (k : Int) < a % n
      all_goals
        go_wp2_with (at_builtin; refine wpl_app1 rfl rfl el_u64 hown.out rfl (m := 1) rfl rfl ?_ ?_ ?_ ?_ ?_)
        · simp [Value.oneCell']
        · omega
        · omega
        · exact hbw.out.size
        · intro A' c' w' ho hg _
          have hb3 := below_grown hbw.out hg hbw.out.size (own_from hown.out)
          have HO := Lib.hid ho; clear ho
          have HB := Lib.hid hb3; clear hb3 hg
          go_wp2_with fail
          go_roundw
          case rel =>
            refine ⟨k + 1, A', c', by omega, by go_num, rfl, ?_, HB⟩
            have h5 := HO.out
            have h6 := HP.out
            first | rw [if_pos hm] at h6 | rw [if_neg (by omega), Int.add_zero] at h6
            rw [← h6] at h5
            rw [HR.out, List.map_append, List.map_map]
            exact h5
          case measure => simp [intOf]; omega
    · go_wp2_with fail
      go_ret
      obtain rfl : k = n := by omega
      exact ⟨A, c, rfl, hown.out, hbw.out⟩
end Go.Proofs.Ytliglgpkboieeaa

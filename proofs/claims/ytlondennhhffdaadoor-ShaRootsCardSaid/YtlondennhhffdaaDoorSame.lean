/- Contracts of seisinref01.Pick and sha.Same. -/
import Derived.Test.YtlondennhhffdaaDoorRefA
namespace Go.Proofs.YtlondennhhffdaaDoor
open Go.RowKit Go.Shelf
set_option linter.unusedVariables false

attribute [local go_sem ↓ high] add_w
attribute [local go_sem high] xor_w and_w or_w not_w shr_w shl_w wrap_b8

theorem tmod_emod (k n : Int) (hn : 0 < n) : -n < k.tmod n ∧ k.tmod n < n ∧ k % n = if k.tmod n < 0 then k.tmod n + n else k.tmod n := by
  have h1 : k.tmod n < n := Int.tmod_lt_of_pos k hn
  have h2 : -n < k.tmod n := by
    have := Int.tmod_lt_of_pos (-k) hn
    rw [Int.neg_tmod] at this
    omega
  have h3 := Int.mul_tdiv_add_tmod k n
  have h4 : k % n = (k.tmod n) % n := by
    conv => lhs; rw [← h3]
    rw [Int.add_comm, Int.add_mul_emod_self_left]
  refine ⟨h2, h1, ?_⟩
  rw [h4]
  split
  · have : k.tmod n % n = (k.tmod n + n) % n := by simp
    rw [this]
    exact Int.emod_eq_of_lt (by omega) (by omega)
  · exact Int.emod_eq_of_lt (by omega) (by omega)

theorem pick_any (k n : Int) (w : World) (hk : -9223372036854775808 ≤ k) (hk2 : k ≤ 9223372036854775807) (hn : 1 ≤ n) (hn2 : n ≤ 9223372036854775807) :
    Calls Tryd.prog 18 #[.int .i64 k, .int .i64 n] w fun e w' => e = .returned (.int .i64 (k % n)) ∧ w' = w := by
  go_enter Tryd.func18, Tryd.ntmps18
  obtain ⟨h1, h2, h3⟩ := tmod_emod k n (by omega)
  have H3 := Lib.hid h3; clear h3
  go_wp2
  · go_ret
    have h : k.tmod n < 0 := by assumption
    refine ⟨?_, rfl⟩
    rw [H3.out, if_pos h]
    rfl
  · go_ret
    have h : 0 ≤ k.tmod n := by assumption
    refine ⟨?_, rfl⟩
    rw [H3.out, if_neg (by omega)]
    rfl

/-- The bytes so far are the same. -/
def orUpto (a b : List UInt8) (k : Nat) : UInt8 := (List.range k).foldl (fun x i => x ||| ((a[i]?.getD 0) ^^^ (b[i]?.getD 0))) 0
theorem orUpto_succ (a b : List UInt8) (k : Nat) : orUpto a b (k + 1) = orUpto a b k ||| ((a[k]?.getD 0) ^^^ (b[k]?.getD 0)) := by
  unfold orUpto; rw [List.range_succ, List.foldl_append]; rfl
theorem or_zero {x y : UInt8} : x ||| y = 0 ↔ x = 0 ∧ y = 0 := by
  constructor
  · intro h
    have h1 : x.toBitVec ||| y.toBitVec = 0 := by have := congrArg UInt8.toBitVec h; simpa using this
    have h2 := BitVec.or_eq_zero_iff.1 h1
    exact ⟨UInt8.toBitVec_inj.1 h2.1, UInt8.toBitVec_inj.1 h2.2⟩
  · rintro ⟨rfl, rfl⟩; rfl
theorem xor_zero {x y : UInt8} : x ^^^ y = 0 ↔ x = y := by
  constructor
  · intro h
    have h1 : x.toBitVec ^^^ y.toBitVec = 0 := by have := congrArg UInt8.toBitVec h; simpa using this
    exact UInt8.toBitVec_inj.1 (BitVec.xor_eq_zero_iff.1 h1)
  · rintro rfl; simp
theorem orUpto_zero (a b : List UInt8) (k : Nat) : orUpto a b k = 0 ↔ ∀ i, i < k → a[i]?.getD 0 = b[i]?.getD 0 := by
  induction k with
  | zero => exact ⟨fun _ i hi => absurd hi (by omega), fun _ => rfl⟩
  | succ k ih =>
    rw [orUpto_succ, or_zero, ih, xor_zero]
    constructor
    · rintro ⟨h1, h2⟩ i hi
      by_cases h : i = k
      · subst h; exact h2
      · exact h1 i (by omega)
    · intro h; exact ⟨fun i hi => h i (by omega), h k (by omega)⟩
theorem orUpto_all {a b : List UInt8} (ha : a.length = 32) (hb : b.length = 32) : (orUpto a b 32 = 0) ↔ a = b := by
  rw [orUpto_zero]
  constructor
  · intro h
    apply List.ext_getElem (by omega)
    intro i h1 h2
    have := h i (by omega)
    rw [List.getElem?_eq_getElem h1, List.getElem?_eq_getElem h2] at this
    exact this
  · rintro rfl _ _; rfl
attribute [irreducible] orUpto

attribute [local go_sem high] xor_b or_b
set_option maxRecDepth 100000 in
set_option maxHeartbeats 1000000 in
theorem same_any (a b : List UInt8) (w : World) (ha : a.length = 32) (hb : b.length = 32) :
    Calls Tryd.prog 22 #[.agg (a.map B).toArray, .agg (b.map B).toArray] w fun e w' => e = .returned (.bool (decide (a = b))) ∧ Below w.heap.size w w' := by
  have HE := Lib.hid (orUpto_all ha hb)
  have HSU := Lib.hid (orUpto_succ a b)
  have hca : ∀ k, k < 32 → (a.map B)[k]? = some (.int .u8 (b8 (a[k]?.getD 0))) := fun k hk => by
    rw [List.getElem?_map, List.getElem?_eq_getElem (by omega)]; rfl
  have hcb : ∀ k, k < 32 → (b.map B)[k]? = some (.int .u8 (b8 (b[k]?.getD 0))) := fun k hk => by
    rw [List.getElem?_map, List.getElem?_eq_getElem (by omega)]; rfl
  obtain ⟨xs, hxs⟩ : ∃ xs, xs = a.map B := ⟨_, rfl⟩
  obtain ⟨ys, hys⟩ : ∃ ys, ys = b.map B := ⟨_, rfl⟩
  rw [← hxs] at hca ⊢
  rw [← hys] at hcb ⊢
  have HCA := Lib.hid hca; clear hca
  have HCB := Lib.hid hcb; clear hcb
  clear hxs hys ha hb
  go_enter Tryd.func22, Tryd.ntmps22
  go_wp2_with (first | (with_reducible refine wpl_box (o := ⟨some 2, _, _, _, _, _⟩) rfl rfl rfl ?_))
  intro w1 hb1 hbw1 hsz1
  have HB1 := Lib.hid hb1; clear hb1
  have HBW1 := Lib.hid hbw1; clear hbw1
  have HSZ1 := Lib.hid hsz1; clear hsz1
  generalize hgd : w.heap.size = g at *
  have HG := Lib.hid hgd; clear hgd
  go_wp2_with (first | (with_reducible refine wpl_box (o := ⟨some 3, _, _, _, _, _⟩) rfl rfl rfl ?_))
  intro w2 hb2 hbw2 hsz2
  have HB2 := Lib.hid (HB1.out.call hbw2)
  have HBW2 := Lib.hid (below_step HBW1.out (by have := HSZ1.out; omega) hbw2)
  rw [HSZ1.out] at hb2 hsz2 ⊢
  have HC2 := Lib.hid hb2
  clear hb2 hbw2 hsz2 HB1 HBW1 HSZ1
  go_wp2_with fail
  go_loopw [5, 7] (fun x i wr => ∃ k : Nat, k ≤ 32 ∧ i = .int .i64 k ∧ x = .int .u8 (b8 (orUpto a b k)) ∧ Hid (Blk wr g 26 xs) ∧ Hid (Blk wr (g + 1) 26 ys) ∧ Hid (Below g w wr)) (fun x i _ => 32 - (intOf i).toNat)
  case atStart => exact ⟨0, by omega, rfl, by unfold orUpto; rfl, HB2, HC2, HBW2⟩
  case round =>
    obtain ⟨k, hk, rfl, rfl, h1, h2, h3⟩ := hrel
    by_cases hk32 : k < 32
    · have c1 := h1.out.at_ (HCA.out k hk32)
      have c2 := h2.out.at_ (HCB.out k hk32)
      have gk : (k : Int) < 32 := by omega
      have hs := HSU.out k
      generalize a[k]?.getD 0 = x at *
      generalize b[k]?.getD 0 = y at *
      have HSK := Lib.hid hs; clear hs
      generalize orUpto a b k = z at *
      repeat' (first | (with_reducible refine wp_region_quiet_lit (id := 5) (by kernel_rfl) (by kernel_rfl) ?_) | go_values | go_skip | go_guarded | go_step | go_upon | go_back)
      repeat (quiet_step (fail))
      refine wpQuiet_nil ?_
      intro _ hw'
      obtain ⟨nq, hw''⟩ := hw'
      subst hw''
      clear c1 c2
      go_wp2_with fail
      go_roundw
      case rel => exact ⟨k + 1, by omega, by go_num, by rw [HSK.out], h1.out.drewN nq, h2.out.drewN nq, below_dn h3.out nq⟩
      case measure => simp [intOf]; omega
    · obtain rfl : k = 32 := by omega
      have he := HE.out
      generalize orUpto a b 32 = z at *
      have HZ := Lib.hid he; clear he
      have e1 : (b8 z == 0) = decide (a = b) := by
        rw [Bool.eq_iff_iff]
        simp only [beq_iff_eq, decide_eq_true_eq]
        rw [← HZ.out]
        constructor
        · intro h; exact b8_inj h
        · rintro rfl; rfl
      go_wp2_with fail
      go_ret
      exact ⟨rfl, by rw [HG.out]; exact h3.out⟩

end Go.Proofs.YtlondennhhffdaaDoor

/- Contracts of rate.Compare and its reference. -/
import Derived.Test.YtolbbhbfbpiljaaRows
import Derived.Test.YtolbbhbfbpiljaaBase
import Derived.Test.YtolbbhbfbpiljaaFloat
namespace Go.Proofs.Ytolbbhbfbpiljaa
open Go.RowKit
set_option linter.unusedVariables false
theorem isnan_i (x : Int) (w : World) : Calls Try.prog 114 #[.int .i64 x] w fun e w' => e = .returned (.bool false) ∧ w = w' := by
  go_enter Try.func114, Try.ntmps114
  go_wp2
  go_ret
  exact ⟨by simp, rfl⟩
theorem cmpi_any (x y : Int) (w : World) : Calls Try.prog 92 #[.int .i64 x, .int .i64 y] w fun e w' => e = .returned (.int .i64 (cmpI x y)) ∧ w = w' := by
  unfold cmpI
  by_cases h1 : x < y
  · rw [if_pos h1]
    go_enter Try.func92, Try.ntmps92
    go_wp2_with (go_at_call 114; refine (isnan_i _ _).mono ?_; rintro e w' ⟨rfl, rfl⟩)
    go_ret
    exact ⟨rfl, rfl⟩
  · rw [if_neg h1]
    by_cases h2 : y < x
    · rw [if_pos h2]
      go_enter Try.func92, Try.ntmps92
      go_wp2_with (go_at_call 114; refine (isnan_i _ _).mono ?_; rintro e w' ⟨rfl, rfl⟩)
      go_ret
      exact ⟨rfl, rfl⟩
    · rw [if_neg h2]
      go_enter Try.func92, Try.ntmps92
      go_wp2_with (go_at_call 114; refine (isnan_i _ _).mono ?_; rintro e w' ⟨rfl, rfl⟩)
      go_ret
      exact ⟨rfl, rfl⟩
/-- cmp.Or of two. -/
theorem or_two (x y : Int) (w : World) :
    Calls Try.prog 90 #[.slice (some ⟨w.heap.size, 0, none⟩) 2 2] (w.alloc (.cells #[.int .i64 x, .int .i64 y] 3)) fun e w' => e = .returned (.int .i64 (if x = 0 then y else x)) ∧ w.alloc (.cells #[.int .i64 x, .int .i64 y] 3) = w' := by
  obtain ⟨g, hg⟩ : ∃ g, w.heap.size = g := ⟨_, rfl⟩
  obtain ⟨V, hV⟩ : ∃ V, w.alloc (.cells #[.int .i64 x, .int .i64 y] 3) = V := ⟨_, rfl⟩
  have c0 : V.cell? ⟨g, 0, none⟩ = some (.int .i64 x) := by rw [← hV, ← hg]; simp
  have c1 : V.cell? ⟨g, 1, none⟩ = some (.int .i64 y) := by rw [← hV, ← hg]; simp
  rw [hg, hV]
  clear hg hV
  by_cases hx : x = 0
  · subst hx
    rw [if_pos rfl]
    by_cases hy : y = 0
    · subst hy
      go_enter Try.func90, Try.ntmps90
      go_wp2
      go_loop [8] (fun i => ∃ k : Nat, k ≤ 2 ∧ i = .int .i64 k) (fun i => 2 - (intOf i).toNat)
      case atStart => exact ⟨0, by omega, rfl⟩
      case round =>
        obtain ⟨k, hk, rfl⟩ := hrel
        match k, hk with
        | 0, _ =>
          go_wp2
          go_round
          case rel => exact ⟨1, by omega, by go_num⟩
          case measure => simp [intOf]
        | 1, _ =>
          go_wp2
          go_round
          case rel => exact ⟨2, by omega, by go_num⟩
          case measure => simp [intOf]
        | 2, _ =>
          go_wp2
          go_ret
          exact ⟨rfl, rfl⟩
    · have hb : (y != 0) = true := by simpa using hy
      go_enter Try.func90, Try.ntmps90
      go_wp2
      go_loop [8] (fun i => ∃ k : Nat, k ≤ 1 ∧ i = .int .i64 k) (fun i => 2 - (intOf i).toNat)
      case atStart => exact ⟨0, by omega, rfl⟩
      case round =>
        obtain ⟨k, hk, rfl⟩ := hrel
        match k, hk with
        | 0, _ =>
          go_wp2
          go_round
          case rel => exact ⟨1, by omega, by go_num⟩
          case measure => simp [intOf]
        | 1, _ =>
          go_wp2
          go_ret
          exact ⟨rfl, rfl⟩
  · rw [if_neg hx]
    have hb : (x != 0) = true := by simpa using hx
    clear hx
    go_enter Try.func90, Try.ntmps90
    go_wp2
    go_loop [8] (fun i => i = .int .i64 0) (fun i => 2 - (intOf i).toNat)
    case atStart => rfl
    case round =>
      subst hrel
      go_wp2
      go_ret
      exact ⟨rfl, rfl⟩

theorem u64_in (n : Int) (h : 0 ≤ n ∧ n ≤ 18446744073709551615) : IntKind.u64.wrap n = n := by
  simp only [IntKind.wrap, IntKind.signed, IntKind.bits, Bool.false_and, Bool.false_eq_true, if_false]
  omega
theorem bv64 (n : Nat) : (BitVec.ofInt 64 (n : Int)).toNat = n % 2^64 := by
  rw [BitVec.toNat_ofInt]; omega
theorem intBits_or (k : IntKind) (x y : Int) : Op.intBits .or k x y = pure (.int k (k.wrap ((BitVec.ofInt k.bits x ||| BitVec.ofInt k.bits y).toNat : Nat))) := rfl
theorem intBits_andNot (k : IntKind) (x y : Int) : Op.intBits .andNot k x y = pure (.int k (k.wrap ((BitVec.ofInt k.bits x &&& ~~~(BitVec.ofInt k.bits y)).toNat : Nat))) := rfl
theorem top_lit : (9223372036854775808 : Int) = ((2^63 : Nat) : Int) := by decide
theorem or_top (x : Nat) (h : x < 2^63) : Op.intBits .or .u64 (x : Int) 9223372036854775808 = pure (.int .u64 ((x : Int) + 9223372036854775808)) := by
  have e : ((BitVec.ofInt 64 (x : Int)) ||| (BitVec.ofInt 64 ((2^63 : Nat) : Int))).toNat = x + 2^63 := by
    rw [BitVec.toNat_or, bv64, bv64, Nat.mod_eq_of_lt (by omega), Nat.mod_eq_of_lt (by omega), Nat.or_comm]
    have := Nat.two_pow_add_eq_or_of_lt h 1
    rw [Nat.mul_one] at this
    rw [← this, Nat.add_comm]
  rw [intBits_or, top_lit, show IntKind.u64.bits = 64 from rfl, e, u64_in _ (by omega)]
  rw [Int.natCast_add]
theorem abs_bits (x : Nat) (h : x < 2^64) : Op.intBits .andNot .u64 (x : Int) 9223372036854775808 = pure (.int .u64 ((x % 2^63 : Nat) : Int)) := by
  have e : ((BitVec.ofInt 64 (x : Int)) &&& ~~~(BitVec.ofInt 64 ((2^63 : Nat) : Int))).toNat = x % 2^63 := by
    have h1 : ~~~(BitVec.ofInt 64 ((2^63 : Nat) : Int)) = BitVec.ofNat 64 (2^63 - 1) := by decide
    rw [h1, BitVec.toNat_and, bv64, BitVec.toNat_ofNat, Nat.mod_eq_of_lt h, Nat.mod_eq_of_lt (a := 2^63 - 1) (by omega), Nat.and_two_pow_sub_one_eq_mod]
  rw [intBits_andNot, top_lit, show IntKind.u64.bits = 64 from rfl, e, u64_in _ (by omega)]
end Go.Proofs.Ytolbbhbfbpiljaa

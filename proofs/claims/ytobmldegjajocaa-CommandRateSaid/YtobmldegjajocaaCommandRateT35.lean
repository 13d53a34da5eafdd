/- Floats as numbers: how two words of 64 bits compare, and the order by key; no program in sight. -/
import Derived.Laws.FloatArith
import Derived.Test.YtobmldegjajocaaRows
import Derived.Test.YtobmldegjajocaaCommandRateT1
import Derived.OpenShut
set_option linter.unusedSimpArgs false
/- Floats as numbers: how two words of 64 bits compare, and the order by key; no program in sight. -/
namespace Go.Proofs.Ytobmldegjajocaa
open Ieee
set_option linter.unusedVariables false
/-- The magnitude of a rung, in units of the least place. -/
def V (r : Nat) : Nat := if r < 2^52 then r else (2^52 + r % 2^52) * 2 ^ (r / 2^52 - 1)
theorem V_step (r : Nat) : V r < V (r + 1) := by
  unfold V
  by_cases h : r + 1 < 2^52
  · rw [if_pos h, if_pos (by omega)]; omega
  · by_cases h2 : r < 2^52
    · obtain rfl : r = 2^52 - 1 := by omega
      decide
    · rw [if_neg h, if_neg h2]
      by_cases h3 : (r + 1) % 2^52 = 0
      · have e1 : (r + 1) / 2^52 = r / 2^52 + 1 := by omega
        have e2 : r % 2^52 = 2^52 - 1 := by omega
        rw [h3, e1, e2, show r / 2^52 + 1 - 1 = (r / 2^52 - 1) + 1 by omega, Nat.pow_succ (m := r / 2^52 - 1)]
        have hp : 0 < 2 ^ (r / 2^52 - 1) := Nat.pow_pos (by omega)
        generalize 2 ^ (r / 2^52 - 1) = p at *
        clear e1 e2 h3 h h2
        omega
      · have e1 : (r + 1) / 2^52 = r / 2^52 := by omega
        have e2 : (r + 1) % 2^52 = r % 2^52 + 1 := by omega
        rw [e1, e2]
        exact Nat.mul_lt_mul_of_pos_right (by omega) (Nat.pow_pos (by omega))
theorem V_lt {r s : Nat} (h : r < s) : V r < V s := by
  induction s with
  | zero => omega
  | succ s ih =>
    rcases Nat.lt_or_ge r s with h1 | h1
    · exact Nat.lt_trans (ih h1) (V_step s)
    · obtain rfl : r = s := by omega
      exact V_step r
theorem V_le {r s : Nat} (h : r ≤ s) : V r ≤ V s := by
  rcases Nat.lt_or_ge r s with h1 | h1
  · exact Nat.le_of_lt (V_lt h1)
  · obtain rfl : r = s := by omega
    exact Nat.le_refl _
/-- A word's rung. -/
def rung (x : Nat) : Nat := x % 2^63
def inf : Nat := 2047 * 2^52
def nanB (x : Nat) : Bool := decide (inf < rung x)
def negB (x : Nat) : Bool := decide (2^63 ≤ x)
/-- A word's value, signed, in units of the least place; infinities stand beyond all numbers. -/
def sv (x : Nat) : Int := if negB x then -(V (rung x) : Int) else (V (rung x) : Int)
theorem signW : double.signWeight = 2^63 := rfl
theorem binadeW : double.binade = 2^52 := rfl
theorem infW : double.infRung = inf := rfl
theorem neg_of {x : Nat} (h : x < 2^64) : (x / 2^63 % 2 == 1) = negB x := by
  unfold negB
  by_cases hx : 2^63 ≤ x
  · have : x / 2^63 = 1 := by omega
    rw [this]; simp [hx]
  · have : x / 2^63 = 0 := by omega
    rw [this]; simp [hx]
/-- What a word reads as. -/
inductive RdF (x : Nat) : Datum → Prop where
  | num (m : Nat) (k : Nat) (hr : rung x < inf) (hv : m * 2 ^ k = V (rung x)) : RdF x (.number (negB x) m (double.leastPlace + (k : Nat)))
  | inf (hr : rung x = inf) : RdF x (.infinity (negB x))
  | nan (hr : inf < rung x) (t : Nat) : RdF x (.nan (negB x) t)
theorem rd (x : Nat) (h : x < 2^64) : RdF x (double.read x) := by
  unfold Format.read
  rw [signW, binadeW, infW, neg_of h]
  show RdF x (if rung x < 2^52 then _ else _)
  by_cases h1 : rung x < 2^52
  · rw [if_pos h1]
    have := RdF.num (x := x) (rung x) 0 (by unfold inf; omega) (by unfold V; rw [if_pos h1]; omega)
    rwa [show ((0 : Nat) : Int) = 0 from rfl, Int.add_zero] at this
  · rw [if_neg h1]
    show RdF x (if rung x < inf then _ else _)
    by_cases h2 : rung x < inf
    · rw [if_pos h2]
      exact RdF.num (x := x) (2^52 + rung x % 2^52) (rung x / 2^52 - 1) h2 (by unfold V; rw [if_neg h1])
    · rw [if_neg h2]
      show RdF x (if rung x = inf then _ else _)
      by_cases h3 : rung x = inf
      · rw [if_pos h3]; exact RdF.inf h3
      · rw [if_neg h3]; exact RdF.nan (by omega) _
theorem signed_scale (s : Bool) (m i b : Nat) (h : b ≤ i) : signed s m (i - b) * 2 ^ b = signed s (m <<< i) 0 := by
  unfold signed
  have : m <<< (i - b) * 2 ^ b = m <<< i := by
    rw [Nat.shiftLeft_eq, Nat.shiftLeft_eq, Nat.mul_assoc, ← Nat.pow_add, show i - b + b = i by omega]
  cases s
  · simp only [Bool.false_eq_true, if_false, Nat.shiftLeft_zero]; rw [← this]; simp
  · simp only [if_true, Nat.shiftLeft_zero]; rw [← this]; simp [Int.neg_mul]
theorem cmp_scale (a b : Int) (k : Nat) : compare (a * 2 ^ k) (b * 2 ^ k) = compare a b := by
  have hp : (0 : Int) < 2 ^ k := Int.pow_pos (by omega)
  simp only [compare, compareOfLessAndEq]
  have h1 : a * 2 ^ k < b * 2 ^ k ↔ a < b := ⟨fun h => Int.lt_of_mul_lt_mul_right h (Int.le_of_lt hp), fun h => Int.mul_lt_mul_of_pos_right h hp⟩
  have h2 : a * 2 ^ k = b * 2 ^ k ↔ a = b := ⟨fun h => Int.eq_of_mul_eq_mul_right (by omega) h, fun h => by rw [h]⟩
  simp [h1, h2]
theorem sv_signed (x m k : Nat) (hv : m * 2 ^ k = V (rung x)) : signed (negB x) (m <<< k) 0 = sv x := by
  unfold signed sv
  rw [Nat.shiftLeft_zero, Nat.shiftLeft_eq, hv]
theorem sv_inf {x : Nat} (h : rung x = inf) : sv x = if negB x then -(V inf : Int) else (V inf : Int) := by unfold sv; rw [h]
theorem sv_fin {x : Nat} (h : rung x < inf) : -(V inf : Int) < sv x ∧ sv x < V inf := by
  have := V_lt h
  unfold sv
  generalize V inf = c at *
  split <;> omega
theorem cmp_lt {a b : Int} (h : a < b) : compare a b = .lt := by simp [compare, compareOfLessAndEq, h]
theorem cmp_gt {a b : Int} (h : b < a) : compare a b = .gt := by
  have h1 : ¬ a < b := by omega
  have h2 : ¬ a = b := by omega
  simp [compare, compareOfLessAndEq, h1, h2]
theorem cmp_eq {a b : Int} (h : a = b) : compare a b = .eq := by simp [compare, compareOfLessAndEq, h]
/-- How two words compare: by their values, where neither is a NaN. -/
theorem order_eq {x y : Nat} (hx : x < 2^64) (hy : y < 2^64) :
    double.order x y = if nanB x || nanB y then none else some (compare (sv x) (sv y)) := by
  have h1 := rd x hx
  have h2 := rd y hy
  unfold Format.order
  generalize double.read x = dx at *
  generalize double.read y = dy at *
  have hpos : (0 : Int) < V inf := by
    have : V 0 < V inf := V_lt (by unfold inf; omega)
    omega
  cases h1 with
  | nan hr t =>
    have : nanB x = true := by simp [nanB, hr]
    rw [this]; rfl
  | inf hr =>
    have e1 : nanB x = false := by simp [nanB, hr]
    have e2 := sv_inf hr
    cases h2 with
    | nan hr2 t =>
      have : nanB y = true := by simp [nanB, hr2]
      rw [this, e1]; rfl
    | inf hr2 =>
      have e3 : nanB y = false := by simp [nanB, hr2]
      have e4 := sv_inf hr2
      rw [e1, e3, e2, e4]
      generalize V inf = c at *
      show some (compare (negB y).toNat (negB x).toNat) = some _
      cases negB x <;> cases negB y
      · simp
      · simp only [Bool.false_eq_true, if_false, if_true]; rw [cmp_gt (by omega)]; rfl
      · simp only [Bool.false_eq_true, if_false, if_true]; rw [cmp_lt (by omega)]; rfl
      · simp
    | num m k hr2 hv =>
      have e3 : nanB y = false := by simp [nanB]; omega
      have e4 := sv_fin hr2
      rw [e1, e3, e2]
      generalize sv y = s at *
      generalize V inf = c at *
      show some (if negB x then Ordering.lt else .gt) = some _
      cases negB x
      · simp only [Bool.false_eq_true, if_false]; rw [cmp_gt (by omega)]
      · simp only [if_true]; rw [cmp_lt (by omega)]
  | num m k hr hv =>
    have e1 : nanB x = false := by simp [nanB]; omega
    have e2 := sv_fin hr
    cases h2 with
    | nan hr2 t =>
      have : nanB y = true := by simp [nanB, hr2]
      rw [this, e1]; rfl
    | inf hr2 =>
      have e3 : nanB y = false := by simp [nanB, hr2]
      have e4 := sv_inf hr2
      rw [e1, e3, e4]
      generalize sv x = s at *
      generalize V inf = c at *
      show some (if negB y then Ordering.gt else .lt) = some _
      cases negB y
      · simp only [Bool.false_eq_true, if_false]; rw [cmp_lt (by omega)]
      · simp only [if_true]; rw [cmp_gt (by omega)]
    | num n j hr2 hv2 =>
      have e3 : nanB y = false := by simp [nanB]; omega
      rw [e1, e3]
      show some (compare (signed (negB x) m (double.leastPlace + (k : Int) - min (double.leastPlace + (k : Int)) (double.leastPlace + (j : Int))).toNat) (signed (negB y) n (double.leastPlace + (j : Int) - min (double.leastPlace + (k : Int)) (double.leastPlace + (j : Int))).toNat)) = some _
      congr 1
      have a1 : (double.leastPlace + (k : Int) - min (double.leastPlace + (k : Int)) (double.leastPlace + (j : Int))).toNat = k - min k j := by omega
      have a2 : (double.leastPlace + (j : Int) - min (double.leastPlace + (k : Int)) (double.leastPlace + (j : Int))).toNat = j - min k j := by omega
      rw [a1, a2, ← cmp_scale _ _ (min k j), signed_scale _ _ _ _ (by omega), signed_scale _ _ _ _ (by omega), sv_signed _ _ _ hv, sv_signed _ _ _ hv2]
/-! ### What Go's tests on floats say -/
def ltF (x y : Nat) : Bool := !(nanB x || nanB y) && decide (sv x < sv y)
def eqF (x y : Nat) : Bool := !(nanB x || nanB y) && decide (sv x = sv y)
section
variable (x y : Nat) (hx : x < 2^64) (hy : y < 2^64)
include hx hy
theorem order_f64 : FloatKind.f64.format.order x y = if nanB x || nanB y then none else some (compare (sv x) (sv y)) := order_eq hx hy
theorem ord_lt : (FloatKind.f64.format.order x y == some .lt) = ltF x y := by
  rw [order_f64 x y hx hy]; unfold ltF
  cases nanB x || nanB y
  · simp only [Bool.false_eq_true, if_false]
    rcases Int.lt_trichotomy (sv x) (sv y) with h | h | h
    · rw [cmp_lt h]; simp [h]
    · rw [cmp_eq h]; simp [h]
    · rw [cmp_gt h]; simp; omega
  · simp
theorem ord_gt : (FloatKind.f64.format.order x y == some .gt) = ltF y x := by
  rw [order_f64 x y hx hy]; unfold ltF
  rw [Bool.or_comm]
  cases nanB y || nanB x
  · simp only [Bool.false_eq_true, if_false]
    rcases Int.lt_trichotomy (sv x) (sv y) with h | h | h
    · rw [cmp_lt h]; simp; omega
    · rw [cmp_eq h]; simp [h]
    · rw [cmp_gt h]; simp [h]
  · simp
theorem ord_eq : (FloatKind.f64.format.order x y == some .eq) = eqF x y := by
  rw [order_f64 x y hx hy]; unfold eqF
  cases nanB x || nanB y
  · simp only [Bool.false_eq_true, if_false]
    rcases Int.lt_trichotomy (sv x) (sv y) with h | h | h
    · rw [cmp_lt h]; simp; omega
    · rw [cmp_eq h]; simp [h]
    · rw [cmp_gt h]; simp; omega
  · simp
theorem ord_ne : (FloatKind.f64.format.order x y != some .eq) = !(eqF x y) := by rw [bne, ord_eq x y hx hy]
end
theorem eqF_self (x : Nat) : eqF x x = !(nanB x) := by simp [eqF]
/-! ### Keys -/
def keyF (x : Nat) : Nat := if nanB x then 0 else if 2^63 ≤ x then 1 + (2^64 - 1 - x) else 1 + (x + 2^63)
def cmpN (x y : Nat) : Int := if x < y then -1 else if y < x then 1 else 0
def cmpK (x y : Nat) : Int := cmpN (keyF x) (keyF y)
def sgnF (x : Nat) : Int := if eqF x 0 then (if negB x then -1 else 1) else 0
def cmpF (x y : Nat) : Int := if nanB x then (if nanB y then 0 else -1) else if nanB y then 1 else if ltF x y then -1 else if ltF y x then 1 else 0
theorem nan_zero : nanB 0 = false := by decide
theorem sv_zero : sv 0 = 0 := by decide
theorem V_zero : V 0 = 0 := by decide
theorem V_pos {r : Nat} (h : 0 < r) : 0 < V r := by have := V_lt h; rw [V_zero] at this; exact this
theorem rung_small {x : Nat} (h : x < 2^63) : rung x = x := by unfold rung; omega
theorem neg_small {x : Nat} (h : x < 2^63) : negB x = false := by unfold negB; rw [decide_eq_false_iff_not]; omega
theorem inf_val : inf = 9218868437227405312 := by decide
theorem nan_small {x : Nat} (h : x ≤ 9218868437227405312) : nanB x = false := by unfold nanB; rw [rung_small (by omega), inf_val, decide_eq_false_iff_not]; omega
theorem plain_small {x : Nat} (h : x < 9218868437227405312) : nanB x = false ∧ eqF x 0 = decide (x = 0) ∧ negB x = false := by
  refine ⟨nan_small (by omega), ?_, neg_small (by omega)⟩
  rw [eqF, nan_small (by omega), nan_zero, sv_zero, sv, neg_small (by omega), rung_small (by omega)]
  rw [Bool.eq_iff_iff]
  simp only [Bool.false_eq_true, if_false, Bool.or_self, Bool.not_false, Bool.true_and, decide_eq_true_eq]
  constructor
  · intro h2
    rcases Nat.eq_zero_or_pos x with h3 | h3
    · exact h3
    · have := V_pos h3; omega
  · intro h2; rw [h2, V_zero]; rfl
attribute [irreducible] V rung inf nanB negB sv ltF eqF keyF sgnF cmpF cmpK
end Go.Proofs.Ytobmldegjajocaa
/- Contracts of rate.Compare and its reference. -/
namespace Go.Proofs.Ytobmldegjajocaa
open Go.RowKit
set_option linter.unusedVariables false
theorem ext_bits (x : Nat) (w : World) : (callFunc 52 #[.float .f64 x]).run Try.prog w = .ok (.value (.int .u64 x)) w := by
  rw [run_callFunc_extern Try.func52 (by kernel_rfl) (by kernel_rfl) (by kernel_rfl) (e := Extern.MathFloatBits.float64bits) (by kernel_rfl)]; rfl
theorem ext_from (x : Nat) (w : World) : (callFunc 108 #[.int .u64 x]).run Try.prog w = .ok (.value (.float .f64 x)) w := by
  rw [run_callFunc_extern Try.func108 (by kernel_rfl) (by kernel_rfl) (by kernel_rfl) (e := Extern.MathFloatBits.float64frombits) (by kernel_rfl)]; rfl
theorem intBits_or (k : IntKind) (x y : Int) : Op.intBits .or k x y = pure (.int k (k.wrap ((BitVec.ofInt k.bits x ||| BitVec.ofInt k.bits y).toNat : Nat))) := rfl
end Go.Proofs.Ytobmldegjajocaa
/- The walks of RateOrders and RateThree. -/
namespace Go.Proofs.Ytobmldegjajocaa
open Go.RowKit
set_option linter.unusedVariables false
theorem mnan (w : World) : Calls Try.prog 91 #[] w fun e w' => e = .returned (.float .f64 9221120237041090561) ∧ w = w' := by
  have h : ∀ w, (callFunc 108 #[.int .u64 9221120237041090561]).run Try.prog w = .ok (.value (.float .f64 9221120237041090561)) w := fun w => by simpa using ext_from 9221120237041090561 w
  go_enter Try.func91, Try.ntmps91
  go_wp2
  go_ret
  exact ⟨rfl, rfl⟩
theorem minf_pos (w : World) : Calls Try.prog 92 #[.int .i64 1] w fun e w' => e = .returned (.float .f64 9218868437227405312) ∧ w = w' := by
  have h : ∀ w, (callFunc 108 #[.int .u64 9218868437227405312]).run Try.prog w = .ok (.value (.float .f64 9218868437227405312)) w := fun w => by simpa using ext_from 9218868437227405312 w
  go_enter Try.func92, Try.ntmps92
  go_wp2
  go_ret
  exact ⟨rfl, rfl⟩
/-- The bits of 'float64(fee) / float64(size)', where it is valid. -/
def divI (fee size : Int) : Option Nat := floatBits .quo .f64 (floatOfInt .f64 fee) (floatOfInt .f64 size)
theorem of_nan (fee size : Int) (w : World) (h : size < 0 ∨ size = 0 ∧ fee = 0) : Calls Try.prog 49 #[.int .u64 fee, .int .i64 size] w fun e w' => e = .returned (.float .f64 9221120237041090561) ∧ w = w' := by
  rcases h with h | ⟨rfl, rfl⟩
  · go_enter Try.func49, Try.ntmps49
    go_wp2_with fail
    refine (mnan _).mono ?_
    rintro e w' ⟨rfl, rfl⟩
    go_wp2_with fail
    go_ret
    exact ⟨rfl, rfl⟩
  · go_enter Try.func49, Try.ntmps49
    go_wp2_with fail
    refine (mnan _).mono ?_
    rintro e w' ⟨rfl, rfl⟩
    go_wp2_with fail
    go_ret
    exact ⟨rfl, rfl⟩
theorem of_inf (fee : Int) (w : World) (h : 0 < fee) : Calls Try.prog 49 #[.int .u64 fee, .int .i64 0] w fun e w' => e = .returned (.float .f64 9218868437227405312) ∧ w = w' := by
  have hb : (fee == 0) = false := beq_eq_false_iff_ne.2 (by omega)
  go_enter Try.func49, Try.ntmps49
  go_wp2_with fail
  refine (minf_pos _).mono ?_
  rintro e w' ⟨rfl, rfl⟩
  go_wp2_with fail
  go_ret
  exact ⟨rfl, rfl⟩
theorem of_num (fee size : Int) (r : Nat) (w : World) (h : 0 < size) (hr : divI fee size = some r) : Calls Try.prog 49 #[.int .u64 fee, .int .i64 size] w fun e w' => e = .returned (.float .f64 r) ∧ w = w' := by
  have hb : (size == 0) = false := beq_eq_false_iff_ne.2 (by omega)
  have hq := fun w t => run_float_arith (P := Try.prog) w .quo t .f64 _ _ r hr
  clear hr
  go_enter Try.func49, Try.ntmps49
  go_wp2_with fail
  go_ret
  exact ⟨rfl, rfl⟩
end Go.Proofs.Ytobmldegjajocaa
/- Rounding grows with the number: nearest words of integers and of quotients; no program in sight. -/
namespace Go.Proofs.Ytobmldegjajocaa
open Ieee
set_option linter.unusedVariables false
/-- k units of 2^s are nearest to N / D, ties to even. -/
structure Near (k g N D : Nat) : Prop where
  lo : 2 * k * (g * D) ≤ 2 * N + g * D
  loe : 2 * k * (g * D) = 2 * N + g * D → k % 2 = 0
  hi : 2 * N ≤ 2 * k * (g * D) + g * D
  hie : 2 * N = 2 * k * (g * D) + g * D → k % 2 = 0
theorem cut_near (neg : Bool) (n drop : Nat) : Near (Toward.even.cut neg n drop) (2 ^ drop) n 1 := by
  unfold Toward.cut
  simp only [Nat.shiftLeft_eq, Nat.one_mul]
  rcases Nat.le_total drop (n.log2 + 2) with h | h
  · rw [Nat.min_eq_left h]
    have hg : 0 < 2 ^ drop := Nat.pow_pos (by omega)
    generalize 2 ^ drop = g at *
    have hd := Nat.div_add_mod n g
    have hm := Nat.mod_lt n hg
    generalize n / g = q at *
    generalize n % g = r at *
    rw [Nat.mul_comm g q] at hd
    have e1 : 2 * (q + 1) * (g * 1) = 2 * (q * g) + 2 * g := by rw [Nat.mul_one, Nat.mul_assoc, Nat.add_mul]; omega
    have e0 : 2 * (q + 0) * (g * 1) = 2 * (q * g) := by rw [Nat.mul_one, Nat.add_zero, Nat.mul_assoc]
    generalize q * g = t at *
    by_cases h1 : g < 2 * r
    · have : (decide (g < 2 * r) || (g == 2 * r && q % 2 == 1)) = true := by simp [h1]
      rw [this]
      exact ⟨by simp only [Bool.toNat_true]; omega, by simp only [Bool.toNat_true]; omega, by simp only [Bool.toNat_true]; omega, by simp only [Bool.toNat_true]; omega⟩
    · by_cases h2 : g = 2 * r ∧ q % 2 = 1
      · have : (decide (g < 2 * r) || (g == 2 * r && q % 2 == 1)) = true := by simp [h2]
        rw [this]
        exact ⟨by simp only [Bool.toNat_true]; omega, by simp only [Bool.toNat_true]; omega, by simp only [Bool.toNat_true]; omega, by simp only [Bool.toNat_true]; omega⟩
      · have : (decide (g < 2 * r) || (g == 2 * r && q % 2 == 1)) = false := by
          simp [h1]; intro h; have := fun x => h2 ⟨h, x⟩; omega
        rw [this]
        refine ⟨by simp only [Bool.toNat_false]; omega, by simp only [Bool.toNat_false]; omega, by simp only [Bool.toNat_false]; omega, ?_⟩
        simp only [Bool.toNat_false]
        intro h
        have h3 : g = 2 * r := by omega
        have := fun x => h2 ⟨h3, x⟩
        omega
  · rw [Nat.min_eq_right h]
    have h1 : n < 2 ^ (n.log2 + 1) := Nat.lt_log2_self
    have h2 : 2 ^ (n.log2 + 2) = 2 * 2 ^ (n.log2 + 1) := by rw [Nat.pow_succ]; omega
    have h3 : 2 ^ (n.log2 + 2) ≤ 2 ^ drop := Nat.pow_le_pow_right (by omega) h
    generalize 2 ^ (n.log2 + 2) = g at *
    generalize 2 ^ (n.log2 + 1) = g2 at *
    generalize 2 ^ drop = g3 at *
    have e1 : n / g = 0 := Nat.div_eq_of_lt (by omega)
    have e2 : n % g = n := Nat.mod_eq_of_lt (by omega)
    rw [e1, e2]
    have : (decide (g < 2 * n) || (g == 2 * n && 0 % 2 == 1)) = false := by simp; omega
    rw [this]
    exact ⟨by simp only [Bool.toNat_false]; omega, by simp only [Bool.toNat_false]; omega, by simp only [Bool.toNat_false]; omega, by simp only [Bool.toNat_false]; omega⟩
theorem mul_le {a b c : Nat} (h : a ≤ b) : a * c ≤ b * c := Nat.mul_le_mul_right c h
theorem mul_inj {a b c : Nat} (hc : 0 < c) (h : a * c = b * c) : a = b := Nat.eq_of_mul_eq_mul_right hc h
/-- In a finer unit. -/
theorem Near.unit {k g N D t : Nat} (h : Near k g N D) (ht : 0 < t) : Near k (g * t) (N * t) D := by
  have e : g * t * D = g * D * t := by rw [Nat.mul_assoc, Nat.mul_comm t D, ← Nat.mul_assoc]
  have a1 : 2 * k * (g * t * D) = (2 * k * (g * D)) * t := by rw [e, ← Nat.mul_assoc]
  have a2 : 2 * (N * t) + g * t * D = (2 * N + g * D) * t := by rw [e, Nat.add_mul, ← Nat.mul_assoc]
  have a3 : 2 * (N * t) = (2 * N) * t := by rw [← Nat.mul_assoc]
  have a4 : 2 * k * (g * t * D) + g * t * D = (2 * k * (g * D) + g * D) * t := by rw [a1, e, ← Nat.add_mul]
  refine ⟨?_, ?_, ?_, ?_⟩
  · rw [a1, a2]; exact mul_le h.lo
  · rw [a1, a2]; exact fun x => h.loe (mul_inj ht x)
  · rw [a3, a4]; exact mul_le h.hi
  · rw [a3, a4]; exact fun x => h.hie (mul_inj ht x)
/-- The same fraction, in other words. -/
theorem Near.frac {k g N D t : Nat} (h : Near k g N D) (ht : 0 < t) : Near k g (N * t) (D * t) := by
  have e : g * (D * t) = g * D * t := by rw [← Nat.mul_assoc]
  have a1 : 2 * k * (g * (D * t)) = (2 * k * (g * D)) * t := by rw [e, ← Nat.mul_assoc]
  have a2 : 2 * (N * t) + g * (D * t) = (2 * N + g * D) * t := by rw [e, Nat.add_mul, ← Nat.mul_assoc]
  have a3 : 2 * (N * t) = (2 * N) * t := by rw [← Nat.mul_assoc]
  have a4 : 2 * k * (g * (D * t)) + g * (D * t) = (2 * k * (g * D) + g * D) * t := by rw [a1, e, ← Nat.add_mul]
  refine ⟨?_, ?_, ?_, ?_⟩
  · rw [a1, a2]; exact mul_le h.lo
  · rw [a1, a2]; exact fun x => h.loe (mul_inj ht x)
  · rw [a3, a4]; exact mul_le h.hi
  · rw [a3, a4]; exact fun x => h.hie (mul_inj ht x)
/-- A greater number has no lesser nearest one. -/
theorem Near.mono {k g N D k' N' D' : Nat} (h : Near k g N D) (h' : Near k' g N' D') (hD : 0 < D) (hD' : 0 < D') (hg : 0 < g) (hle : N * D' ≤ N' * D) : k ≤ k' := by
  rcases Nat.lt_or_ge k' k with hlt | hge
  · exfalso
    have f1 := (h.frac hD')
    have f2 := (h'.frac hD)
    have eD : D' * D = D * D' := Nat.mul_comm _ _
    rw [eD] at f2
    have hE : 0 < g * (D * D') := Nat.mul_pos hg (Nat.mul_pos hD hD')
    obtain ⟨l1, l2, l3, l4⟩ := f1
    obtain ⟨m1, m2, m3, m4⟩ := f2
    generalize N * D' = a at *
    generalize N' * D = b at *
    generalize g * (D * D') = u at *
    have c1 : 2 * (k' + 1) * u ≤ 2 * k * u := Nat.mul_le_mul_right _ (by omega)
    have c2 : 2 * (k' + 1) * u = 2 * k' * u + 2 * u := by rw [Nat.mul_add, Nat.add_mul]
    have c3 : 2 * k * u = 2 * (k' + 1) * u := by omega
    have c4 : 2 * k = 2 * (k' + 1) := mul_inj hE c3
    have d1 := l2 (by omega)
    have d2 := m4 (by omega)
    omega
  · exact hge
/-- What rounding a number N / D (in units of 2^-c of the least place) comes to: rung L * 2^52 + k. -/
structure Rnd (c L k N D : Nat) : Prop where
  near : Near k (2 ^ (L + c)) N D
  low : 0 < L → 2 ^ 52 * 2 ^ (L + c) * D ≤ N
  top : N < 2 ^ 53 * 2 ^ (L + c) * D
theorem Rnd.frac {c L k N D t : Nat} (h : Rnd c L k N D) (ht : 0 < t) : Rnd c L k (N * t) (D * t) :=
  ⟨h.near.frac ht, fun hl => by rw [← Nat.mul_assoc]; exact mul_le (h.low hl), by rw [← Nat.mul_assoc]; exact Nat.mul_lt_mul_of_pos_right h.top ht⟩
theorem Rnd.k_lo {c L k N D : Nat} (h : Rnd c L k N D) (hD : 0 < D) (hL : 0 < L) : 2 ^ 52 ≤ k := by
  have h1 := h.low hL
  have h2 := h.near.hi
  have hu : 0 < 2 ^ (L + c) * D := Nat.mul_pos (Nat.pow_pos (by omega)) hD
  rw [Nat.mul_assoc] at h1
  generalize 2 ^ (L + c) * D = u at *
  rcases Nat.lt_or_ge k (2 ^ 52) with hlt | hge
  · exfalso
    have : 2 * (k + 1) * u ≤ 2 * 2 ^ 52 * u := Nat.mul_le_mul_right _ (by omega)
    rw [Nat.mul_add, Nat.add_mul, Nat.mul_assoc 2 (2 ^ 52)] at this
    omega
  · exact hge
theorem Rnd.k_hi {c L k N D : Nat} (h : Rnd c L k N D) (hD : 0 < D) : k ≤ 2 ^ 53 := by
  have h1 := h.top
  have h2 := h.near.lo
  have hu : 0 < 2 ^ (L + c) * D := Nat.mul_pos (Nat.pow_pos (by omega)) hD
  rw [Nat.mul_assoc] at h1
  generalize 2 ^ (L + c) * D = u at *
  rcases Nat.lt_or_ge (2 ^ 53) k with hlt | hge
  · exfalso
    have : 2 * (2 ^ 53 + 1) * u ≤ 2 * k * u := Nat.mul_le_mul_right _ (by omega)
    rw [Nat.mul_add, Nat.add_mul, Nat.mul_assoc 2 (2 ^ 53)] at this
    omega
  · exact hge
theorem Rnd.mono {c L k N D L' k' N' D' : Nat} (h : Rnd c L k N D) (h' : Rnd c L' k' N' D') (hD : 0 < D) (hD' : 0 < D') (hle : N * D' ≤ N' * D) : L * 2 ^ 52 + k ≤ L' * 2 ^ 52 + k' := by
  have k1 := h.k_hi hD
  rcases Nat.lt_trichotomy L L' with hl | rfl | hl
  · have k2 := h'.k_lo hD' (by omega)
    have : (L + 1) * 2 ^ 52 ≤ L' * 2 ^ 52 := Nat.mul_le_mul_right _ hl
    rw [Nat.add_mul] at this
    omega
  · have := h.near.mono h'.near hD hD' (Nat.pow_pos (by omega)) hle
    omega
  · exfalso
    have h1 := h.low (by omega)
    have h2 := h'.top
    have e : 2 ^ (L + c) = 2 ^ (L - L' - 1) * 2 * 2 ^ (L' + c) := by
      rw [← Nat.pow_succ, ← Nat.pow_add]; congr 1; omega
    have hp : 0 < 2 ^ (L - L' - 1) := Nat.pow_pos (by omega)
    have h3 := Nat.mul_le_mul_right D' h1
    have h4 := Nat.mul_lt_mul_of_pos_right h2 hD
    have h5 : 2 ^ 53 * 2 ^ (L' + c) * D' * D ≤ 2 ^ 52 * 2 ^ (L + c) * D * D' := by
      rw [e]
      have : 2 ^ 52 * (2 ^ (L - L' - 1) * 2 * 2 ^ (L' + c)) * D * D' = (2 ^ 53 * 2 ^ (L' + c) * D' * D) * 2 ^ (L - L' - 1) := by
        generalize 2 ^ (L - L' - 1) = p
        generalize 2 ^ (L' + c) = q
        rw [show (2 : Nat) ^ 53 = 2 ^ 52 * 2 by rfl]
        generalize (2 : Nat) ^ 52 = z
        ac_rfl
      rw [this]
      exact Nat.le_mul_of_pos_right _ hp
    omega
/-- The rung that 'nearest' finds, ahead of its cap. -/
def rungOf (mag : Nat) (place : Int) : Nat × Nat :=
  let last := max (place + mag.log2 - 52) (-1074)
  ((last + 1074).toNat, Toward.even.cut false (mag <<< (place - last).toNat) (last - place).toNat)
theorem least_eq : double.leastPlace = -1074 := by decide
theorem frac_eq : double.fractionBits = 52 := rfl
theorem nearest_eq (mag : Nat) (place : Int) (h : 0 < mag) : double.nearest false mag place = min ((rungOf mag place).1 * 2 ^ 52 + (rungOf mag place).2) double.infRung := by
  have h0 : ¬ mag = 0 := by omega
  unfold Format.nearest rungOf Format.word
  rw [if_neg h0, least_eq, frac_eq, binadeW]
  simp only [Bool.false_eq_true, if_false, Int.sub_neg]
  rfl
theorem rnd_of (mag : Nat) (place : Int) (c s : Nat) (h : 0 < mag) (hs : place + 1074 + c = (s : Nat)) :
    Rnd c (rungOf mag place).1 (rungOf mag place).2 (mag * 2 ^ s) 1 ∧
    ((place + 2 ≤ place + mag.log2 - 52) → ∃ d, 2 ≤ d ∧ 2 ^ ((rungOf mag place).1 + c) = 2 ^ d * 2 ^ s) := by
  have hlo : 2 ^ mag.log2 ≤ mag := Nat.log2_self_le (by omega)
  have hhi : mag < 2 ^ (mag.log2 + 1) := Nat.lt_log2_self
  unfold rungOf
  generalize hl : mag.log2 = l at *
  obtain ⟨last, hlast⟩ : ∃ last, last = max (place + (l : Int) - 52) (-1074) := ⟨_, rfl⟩
  simp only
  rw [← hlast]
  have hL : ((last + 1074).toNat : Int) = last + 1074 := by omega
  generalize (last + 1074).toNat = L at *
  have hN : 0 < 2 ^ s := Nat.pow_pos (by omega)
  refine ⟨⟨?_, ?_, ?_⟩, ?_⟩
  · have hcut := cut_near false (mag <<< (place - last).toNat) (last - place).toNat
    rcases Int.le_total last place with hle | hle
    · have e0 : (last - place).toNat = 0 := by omega
      obtain ⟨p, hp⟩ : ∃ p, (place - last).toNat = p := ⟨_, rfl⟩
      rw [e0, hp] at hcut ⊢
      have := hcut.unit (t := 2 ^ (L + c)) (Nat.pow_pos (by omega))
      rw [Nat.pow_zero, Nat.one_mul, Nat.shiftLeft_eq, Nat.mul_assoc, ← Nat.pow_add, show p + (L + c) = s by omega] at this
      rw [Nat.shiftLeft_eq]
      exact this
    · have e0 : (place - last).toNat = 0 := by omega
      obtain ⟨p, hp⟩ : ∃ p, (last - place).toNat = p := ⟨_, rfl⟩
      rw [e0, hp] at hcut ⊢
      have := hcut.unit (t := 2 ^ s) hN
      rw [Nat.shiftLeft_eq, Nat.pow_zero, Nat.mul_one, ← Nat.pow_add, show p + s = L + c by omega] at this
      rw [Nat.shiftLeft_eq, Nat.pow_zero, Nat.mul_one]
      exact this
  · intro hpos
    rw [Nat.mul_one, ← Nat.pow_add, show 52 + (L + c) = l + s by omega, Nat.pow_add]
    exact Nat.mul_le_mul_right _ hlo
  · rw [Nat.mul_one, ← Nat.pow_add]
    have h1 : mag * 2 ^ s < 2 ^ (l + 1) * 2 ^ s := Nat.mul_lt_mul_of_pos_right hhi hN
    rw [← Nat.pow_add] at h1
    exact Nat.lt_of_lt_of_le h1 (Nat.pow_le_pow_right (by omega) (by omega))
  · intro h2
    exact ⟨L + c - s, by omega, by rw [← Nat.pow_add]; congr 1; omega⟩
theorem near_sticky {k g q s n r dv : Nat} (h : Near k (4 * g) (2 * q + s) 1) (hdv : dv = q * n + r) (hr : r < n) (hs : s = if r = 0 then 0 else 1) : Near k (4 * g) (2 * dv) n := by
  obtain ⟨l1, l2, l3, l4⟩ := h
  have eK : 2 * k * (4 * g * 1) = 8 * (k * g) := by rw [Nat.mul_one, Nat.mul_mul_mul_comm]
  have eKn : 2 * k * (4 * g * n) = 8 * (k * g * n) := by
    rw [← Nat.mul_assoc (2 * k), Nat.mul_mul_mul_comm, Nat.mul_assoc (2 * 4)]
  have eg : 4 * g * n = 4 * (g * n) := Nat.mul_assoc _ _ _
  rw [eK, Nat.mul_one] at l1 l2 l3 l4
  generalize hK : k * g = K at *
  have s1 : s ≤ 1 := by rw [hs]; split <;> omega
  have b1 : 2 * K ≤ q + g := by omega
  have b2 := Nat.mul_le_mul_right n b1
  rw [Nat.mul_assoc, Nat.add_mul] at b2
  have b3 : q + s ≤ 2 * K + g := by omega
  have b4 := Nat.mul_le_mul_right n b3
  rw [Nat.add_mul, Nat.add_mul, Nat.mul_assoc 2] at b4
  refine ⟨?_, ?_, ?_, ?_⟩
  · rw [eKn, eg]; omega
  · rw [eKn, eg]
    intro he
    have r0 : r = 0 := by omega
    subst r0
    rw [if_pos rfl] at hs
    have : 2 * K = q + g := by
      rcases Nat.lt_or_ge (2 * K) (q + g) with h1 | h1
      · exfalso
        have := Nat.mul_le_mul_right n h1
        rw [Nat.succ_mul, Nat.mul_assoc, Nat.add_mul] at this
        omega
      · omega
    exact l2 (by omega)
  · rw [eKn, eg]
    by_cases hr0 : r = 0
    · rw [if_pos hr0] at hs; subst hs; omega
    · rw [if_neg hr0] at hs; subst hs; rw [Nat.one_mul] at b4; omega
  · rw [eKn, eg]
    intro he
    have r0 : r = 0 := by
      by_cases hr0 : r = 0
      · exact hr0
      · rw [if_neg hr0] at hs; subst hs; rw [Nat.one_mul] at b4; omega
    subst r0
    rw [if_pos rfl] at hs
    have : q = 2 * K + g := by
      rcases Nat.lt_or_ge q (2 * K + g) with h1 | h1
      · exfalso
        have := Nat.mul_le_mul_right n h1
        rw [Nat.succ_mul, Nat.add_mul, Nat.mul_assoc] at this
        omega
      · omega
    exact l4 (by omega)
theorem Near.cancel {k g N D t : Nat} (h : Near k (g * t) (N * t) D) (ht : 0 < t) : Near k g N D := by
  have e : g * t * D = g * D * t := by rw [Nat.mul_assoc, Nat.mul_comm t D, ← Nat.mul_assoc]
  have a1 : 2 * k * (g * t * D) = (2 * k * (g * D)) * t := by rw [e, ← Nat.mul_assoc]
  have a2 : 2 * (N * t) + g * t * D = (2 * N + g * D) * t := by rw [e, Nat.add_mul, ← Nat.mul_assoc]
  have a3 : 2 * (N * t) = (2 * N) * t := by rw [← Nat.mul_assoc]
  have a4 : 2 * k * (g * t * D) + g * t * D = (2 * k * (g * D) + g * D) * t := by rw [a1, e, ← Nat.add_mul]
  obtain ⟨l1, l2, l3, l4⟩ := h
  rw [a1, a2] at l1
  rw [a1, a2] at l2
  rw [a3, a4] at l3
  rw [a3, a4] at l4
  exact ⟨Nat.le_of_mul_le_mul_right l1 ht, fun x => l2 (by rw [x]), Nat.le_of_mul_le_mul_right l3 ht, fun x => l4 (by rw [x])⟩
theorem rnd_sticky {c L k q s n r dv S d : Nat} (h : Rnd c L k ((2 * q + s) * S) 1) (hS : 0 < S) (hd : 2 ≤ d) (hU : 2 ^ (L + c) = 2 ^ d * S) (hdv : dv = q * n + r) (hr : r < n) (hs : s = if r = 0 then 0 else 1) : Rnd c L k (2 * dv * S) n := by
  obtain ⟨h1, h2, h3⟩ := h
  have e4 : 2 ^ d = 4 * 2 ^ (d - 2) := by rw [show d = (d - 2) + 2 by omega, Nat.pow_add]; simp; omega
  rw [e4] at hU
  generalize 2 ^ (d - 2) = g at *
  rw [hU] at h1 h2 h3
  have s1 : s ≤ 1 := by rw [hs]; split <;> omega
  refine ⟨?_, ?_, ?_⟩
  · rw [hU]
    exact (near_sticky (h1.cancel hS) hdv hr hs).unit hS
  · intro hL
    rw [hU]
    have h4 := h2 hL
    rw [Nat.mul_one, ← Nat.mul_assoc] at h4
    have h5 := Nat.le_of_mul_le_mul_right h4 hS
    have h6 : 2 ^ 52 * 2 * g ≤ q := by omega
    have h7 := Nat.mul_le_mul_right (n * S) h6
    have e1 : 2 ^ 52 * (4 * g * S) * n = 2 * (2 ^ 52 * 2 * g * (n * S)) := by
      generalize (2 : Nat) ^ 52 = z
      rw [show (4 : Nat) = 2 * 2 by rfl]
      ac_rfl
    have e2 : 2 * dv * S = 2 * (q * (n * S)) + 2 * (r * S) := by rw [hdv, Nat.mul_assoc, Nat.add_mul, Nat.mul_add, Nat.mul_assoc q]
    omega
  · rw [hU]
    rw [Nat.mul_one, ← Nat.mul_assoc] at h3
    have h5 := Nat.lt_of_mul_lt_mul_right h3
    have h6 : q + 1 ≤ 2 ^ 53 * 2 * g := by omega
    have h7 := Nat.mul_le_mul_right (n * S) h6
    have e1 : 2 ^ 53 * (4 * g * S) * n = 2 * (2 ^ 53 * 2 * g * (n * S)) := by
      generalize (2 : Nat) ^ 53 = z
      rw [show (4 : Nat) = 2 * 2 by rfl]
      ac_rfl
    have e2 : 2 * dv * S = 2 * (q * (n * S)) + 2 * (r * S) := by rw [hdv, Nat.mul_assoc, Nat.add_mul, Nat.mul_add, Nat.mul_assoc q]
    have h8 : r * S < n * S := Nat.mul_lt_mul_of_pos_right hr hS
    rw [Nat.add_mul, Nat.one_mul] at h7
    omega
/-- A positive quotient of two finite words. -/
theorem div_pos_ (a b : Nat) (ha : 0 < a) (ha2 : a < 9218868437227405312) (hb : 0 < b) (hb2 : b < 9218868437227405312) :
    ∃ c0 L k, double.div a b = some (min (L * 2 ^ 52 + k) 9218868437227405312) ∧ ∀ c, c0 ≤ c → Rnd c L k (V a * 2 ^ (1074 + c)) (V b) := by
  have r1 := rd a (by omega)
  have r2 := rd b (by omega)
  rw [Format.div]
  have va : 0 < V a := V_pos ha
  have vb : 0 < V b := V_pos hb
  have i1 := inf_val
  generalize double.read a = da at *
  generalize double.read b = db at *
  cases r1 with
  | nan hr t => rw [rung_small (by omega)] at hr; omega
  | inf hr => rw [rung_small (by omega)] at hr; omega
  | num m i hr hv =>
    cases r2 with
    | nan hr t => rw [rung_small (by omega)] at hr; omega
    | inf hr => rw [rung_small (by omega)] at hr; omega
    | num n j hr2 hv2 =>
      rw [rung_small (by omega)] at hv hv2
      rw [neg_small (by omega), neg_small (by omega)]
      have hm : 0 < m := by
        rcases Nat.eq_zero_or_pos m with h | h
        · rw [h, Nat.zero_mul] at hv; omega
        · exact h
      have hn : 0 < n := by
        rcases Nat.eq_zero_or_pos n with h | h
        · rw [h, Nat.zero_mul] at hv2; omega
        · exact h
      have hn0 : ¬ n = 0 := by omega
      simp only [Datum.quotient, if_neg hn0, Option.map_some, Format.write, frac_eq, Bool.xor_self]
      obtain ⟨more, hmore⟩ : ∃ more, more = 52 + 2 + n.log2 - m.log2 := ⟨_, rfl⟩
      rw [← hmore]
      obtain ⟨dv, hdv⟩ : ∃ dv, dv = m <<< more := ⟨_, rfl⟩
      rw [← hdv]
      have hdv1 : dv = m * 2 ^ more := by rw [hdv, Nat.shiftLeft_eq]
      have hdm := Nat.div_add_mod dv n
      have hml := Nat.mod_lt dv hn
      have hq : 2 ^ 53 ≤ dv / n := by
        rw [Nat.le_div_iff_mul_le hn]
        have l1 : 2 ^ m.log2 ≤ m := Nat.log2_self_le (by omega)
        have l2 : n < 2 ^ (n.log2 + 1) := Nat.lt_log2_self
        have l3 := Nat.mul_le_mul_right (2 ^ more) l1
        rw [← Nat.pow_add] at l3
        have l4 : 2 ^ (53 + (n.log2 + 1)) ≤ 2 ^ (m.log2 + more) := Nat.pow_le_pow_right (by omega) (by omega)
        rw [Nat.pow_add] at l4
        have l5 := Nat.mul_le_mul_left (2 ^ 53) (Nat.le_of_lt l2)
        omega
      obtain ⟨s, hs⟩ : ∃ s, s = (dv % n != 0).toNat := ⟨_, rfl⟩
      have hs2 : s = if dv % n = 0 then 0 else 1 := by
        rw [hs]
        by_cases h : dv % n = 0
        · rw [if_pos h, h]; rfl
        · rw [if_neg h, show (dv % n != 0) = true from bne_iff_ne.2 h]; rfl
      rw [← hs]
      obtain ⟨q, hqq⟩ : ∃ q, q = dv / n := ⟨_, rfl⟩
      obtain ⟨r, hrr⟩ : ∃ r, r = dv % n := ⟨_, rfl⟩
      rw [← hqq] at hq hdm ⊢
      rw [← hrr] at hdm hml hs2
      rw [Nat.mul_comm] at hdm
      have hmag : 0 < 2 * q + s := by omega
      have hlog : 54 ≤ (2 * q + s).log2 := (Nat.le_log2 (by omega)).2 (by omega)
      obtain ⟨pl, hpl⟩ : ∃ pl : Int, pl = double.leastPlace + (i : Int) - (double.leastPlace + (j : Int)) - (more : Nat) - 1 := ⟨_, rfl⟩
      rw [← hpl, nearest_eq _ _ hmag]
      rw [least_eq] at hpl
      refine ⟨j + more + 1, _, _, by rw [infW, inf_val], ?_⟩
      intro c hc
      obtain ⟨S, hS⟩ : ∃ S : Nat, pl + 1074 + c = (S : Nat) := ⟨(pl + 1074 + c).toNat, by omega⟩
      obtain ⟨g1, g2⟩ := rnd_of (2 * q + s) pl c S hmag hS
      obtain ⟨d, hd, hU⟩ := g2 (by omega)
      have g3 := rnd_sticky g1 (Nat.pow_pos (by omega)) hd hU hdm.symm hml hs2
      have g4 := g3.frac (t := 2 ^ j) (Nat.pow_pos (by omega))
      rw [hv2] at g4
      have e : 2 * dv * 2 ^ S * 2 ^ j = V a * 2 ^ (1074 + c) := by
        rw [hdv1, ← hv, Nat.mul_assoc m (2 ^ i), ← Nat.pow_add]
        have e2 : 2 * (m * 2 ^ more) * 2 ^ S * 2 ^ j = m * (2 ^ 1 * 2 ^ more * 2 ^ S * 2 ^ j) := by
          rw [Nat.pow_one]; ac_rfl
        rw [e2, ← Nat.pow_add, ← Nat.pow_add, ← Nat.pow_add]
        congr 2
        omega
      rw [e] at g4
      exact g4
/-- A quotient whose dividend is nought. -/
theorem div_zero_ (b : Nat) (hb : 0 < b) (hb2 : b < 9218868437227405312) : double.div 0 b = some 0 := by
  have r2 := rd b (by omega)
  rw [Format.div]
  have vb : 0 < V b := V_pos hb
  have i1 := inf_val
  have h0 : double.read 0 = .number false 0 double.leastPlace := by decide
  rw [h0]
  generalize double.read b = db at *
  cases r2 with
  | nan hr t => rw [rung_small (by omega)] at hr; omega
  | inf hr => rw [rung_small (by omega)] at hr; omega
  | num n j hr2 hv2 =>
    rw [rung_small (by omega)] at hv2
    rw [neg_small (by omega)]
    have hn : 0 < n := by
      rcases Nat.eq_zero_or_pos n with h | h
      · rw [h, Nat.zero_mul] at hv2; omega
      · exact h
    have hn0 : ¬ n = 0 := by omega
    simp [Datum.quotient, if_neg hn0, Format.write, Format.nearest, Format.word]
/-- The word of an integer. -/
def rI (n : Nat) : Nat := floatOfInt .f64 (n : Int)
theorem rI_zero : rI 0 = 0 := by decide
theorem rI_eq (n : Nat) : rI n = double.nearest false n 0 := by
  unfold rI floatOfInt
  show double.write (.number (decide ((n : Int) < 0)) (n : Int).natAbs 0) = _
  rw [show decide ((n : Int) < 0) = false by rw [decide_eq_false_iff_not]; omega, Int.natAbs_natCast]
  rfl
theorem rI_pos (n : Nat) (h : 0 < n) : ∃ L k, rI n = min (L * 2 ^ 52 + k) 9218868437227405312 ∧ ∀ c, Rnd c L k (n * 2 ^ (1074 + c)) 1 := by
  have e := rI_eq n
  rw [e, nearest_eq _ _ h]
  refine ⟨_, _, by rw [infW, inf_val], fun c => (rnd_of n 0 c (1074 + c) h (by omega)).1⟩
theorem rI_mono {m n : Nat} (h : m ≤ n) : rI m ≤ rI n := by
  rcases Nat.eq_zero_or_pos m with h0 | h0
  · rw [h0, rI_zero]; omega
  · obtain ⟨L, k, e1, r1⟩ := rI_pos m h0
    obtain ⟨L', k', e2, r2⟩ := rI_pos n (by omega)
    have := (r1 0).mono (r2 0) (by omega) (by omega) (by rw [Nat.mul_one, Nat.mul_one]; exact Nat.mul_le_mul_right _ h)
    omega
theorem near_top : double.nearest false 18446744073709551616 0 = 4895412794951729152 := by decide +kernel
theorem near_top1 : double.nearest false 18446744073709551615 0 = 4895412794951729152 := by decide +kernel
theorem near_one : double.nearest false 1 0 = 4607182418800017408 := by decide +kernel
theorem div_top : double.div 4895412794951729152 4607182418800017408 = some 4895412794951729152 := by decide +kernel
theorem rI_top : rI 18446744073709551616 = 4895412794951729152 := (rI_eq _).trans near_top
theorem rI_one : rI 1 = 4607182418800017408 := (rI_eq _).trans near_one
theorem rI_bd {n : Nat} (h0 : 0 < n) (h : n ≤ 18446744073709551616) : 4607182418800017408 ≤ rI n ∧ rI n ≤ 4895412794951729152 := by
  have h1 := rI_mono h
  have h2 := rI_mono (show 1 ≤ n from h0)
  rw [rI_top] at h1
  rw [rI_one] at h2
  exact ⟨h2, h1⟩
/-- The word of 'float64(fee) / float64(size)'. -/
def dW (fee size : Nat) : Nat := ((double.div (rI fee) (rI size))).getD 0
theorem dW_some (fee size : Nat) (h1 : fee < 2 ^ 64) (h2 : 0 < size) (h3 : size < 2 ^ 64) : double.div (rI fee) (rI size) = some (dW fee size) := by
  have b2 := rI_bd h2 (by omega)
  unfold dW
  rcases Nat.eq_zero_or_pos fee with h0 | h0
  · rw [h0, rI_zero, div_zero_ _ (by omega) (by omega), Option.getD_some]
  · have b1 := rI_bd h0 (by omega)
    obtain ⟨c0, L, k, e, _⟩ := div_pos_ (rI fee) (rI size) (by omega) (by omega) (by omega) (by omega)
    rw [e, Option.getD_some]
theorem dW_zero (size : Nat) (h2 : 0 < size) (h3 : size < 2 ^ 64) : dW 0 size = 0 := by
  have b2 := rI_bd h2 (by omega)
  unfold dW
  rw [rI_zero, div_zero_ _ (by omega) (by omega), Option.getD_some]
theorem min_le_min {a b c : Nat} (h : a ≤ b) : min a c ≤ min b c := by omega
theorem dW_mono (f g s t : Nat) (hf : f ≤ g) (hg : g < 2 ^ 64) (h2 : 0 < t) (hst : t ≤ s) (h3 : s < 2 ^ 64) : dW f s ≤ dW g t := by
  rcases Nat.eq_zero_or_pos f with h0 | h0
  · rw [h0, dW_zero s (by omega) h3]; omega
  · have b1 := rI_bd h0 (by omega)
    have b2 := rI_bd (show 0 < g by omega) (by omega)
    have b3 := rI_bd (show 0 < s by omega) (by omega)
    have b4 := rI_bd h2 (by omega)
    obtain ⟨c0, L, k, e, r⟩ := div_pos_ (rI f) (rI s) (by omega) (by omega) (by omega) (by omega)
    obtain ⟨c1, L', k', e', r'⟩ := div_pos_ (rI g) (rI t) (by omega) (by omega) (by omega) (by omega)
    unfold dW
    rw [e, e', Option.getD_some, Option.getD_some]
    have vs := V_pos (show 0 < rI s by omega)
    have vt := V_pos (show 0 < rI t by omega)
    have hm := (r (c0 + c1) (by omega)).mono (r' (c0 + c1) (by omega)) vs vt (by
      have a1 : V (rI f) ≤ V (rI g) := V_le (rI_mono hf)
      have a2 : V (rI t) ≤ V (rI s) := V_le (rI_mono hst)
      have a3 := Nat.mul_le_mul a1 a2
      have a4 := Nat.mul_le_mul_right (2 ^ (1074 + (c0 + c1))) a3
      rw [Nat.mul_right_comm, Nat.mul_right_comm (V (rI g))] at a4
      exact a4)
    exact min_le_min hm
theorem dW_top : dW 18446744073709551615 1 = 4895412794951729152 := by
  rw [dW, rI_one, show rI 18446744073709551615 = 4895412794951729152 from (rI_eq _).trans near_top1, div_top, Option.getD_some]
theorem dW_lt (f s : Nat) (h1 : f < 2 ^ 64) (h2 : 0 < s) (h3 : s < 2 ^ 64) : dW f s < 9218868437227405312 := by
  have h := dW_mono f 18446744073709551615 s 1 (by omega) (by omega) (by omega) h2 h3
  rw [dW_top] at h
  omega
end Go.Proofs.Ytobmldegjajocaa
/- The walk of RateGrows. -/
namespace Go.Proofs.Ytobmldegjajocaa
open Go.RowKit
set_option linter.unusedVariables false
theorem of_dW (fee size : Int) (w : World) (h : 0 ≤ fee) (h1 : fee ≤ 18446744073709551615) (h2 : 0 < size) (h3 : size ≤ 9223372036854775807) :
    Calls Try.prog 49 #[.int .u64 fee, .int .i64 size] w fun e w' => e = .returned (.float .f64 (dW fee.toNat size.toNat)) ∧ w = w' := by
  refine of_num fee size _ w h2 ?_
  have := dW_some fee.toNat size.toNat (by omega) (by omega) (by omega)
  unfold rI at this
  rw [Int.toNat_of_nonneg h, Int.toNat_of_nonneg (by omega)] at this
  exact this
end Go.Proofs.Ytobmldegjajocaa
/- The walk of RateOf. -/
namespace Go.Proofs.Ytobmldegjajocaa
open Go.RowKit
set_option linter.unusedVariables false
/-- Beyond the greatest finite word. -/
theorem nan_big (x : Nat) (h : 9218868437227405312 < x % 2^63) : nanB x = true := by unfold nanB; rw [inf_val]; unfold rung; rw [decide_eq_true_eq]; exact h
def sameF (x y : Nat) : Bool := (x == y) || (nanB x && nanB y)
theorem rsame_any (x y : Nat) (w : World) (hx : x < 2^64) (hy : y < 2^64) : Calls Try.prog 18 #[.float .f64 x, .float .f64 y] w fun e w' => e = .returned (.bool (sameF x y)) ∧ w = w' := by
  have h1 := ord_ne x x hx hx
  have h2 := ord_ne y y hy hy
  rw [eqF_self, Bool.not_not] at h1 h2
  have e1 := ext_bits x
  have e2 := ext_bits y
  rw [sameF]
  by_cases hxy : x = y
  · subst hxy
    rw [show (x == x) = true by simp, Bool.true_or]
    clear h1 h2 e2
    go_enter Try.func18, Try.ntmps18
    go_wp2
    go_ret
    exact ⟨rfl, rfl⟩
  · have hb : (x == y) = false := beq_eq_false_iff_ne.2 hxy
    have hb2 : ((x : Int) == (y : Int)) = false := beq_eq_false_iff_ne.2 (by omega)
    rw [hb, Bool.false_or]
    generalize nanB x = b1 at *
    generalize nanB y = b2 at *
    clear hxy hb
    cases b1
    · clear h2
      go_enter Try.func18, Try.ntmps18
      go_wp2
      go_ret
      exact ⟨rfl, rfl⟩
    · cases b2
      all_goals
        go_enter Try.func18, Try.ntmps18
        go_wp2
        go_ret
        exact ⟨rfl, rfl⟩
/-- The reference's rate: a NaN, or the quotient's word. -/
theorem rof_num (fee size : Int) (w : World) (h : 0 ≤ fee) (h1 : fee ≤ 18446744073709551615) (h2 : 0 < size) (h3 : size ≤ 9223372036854775807) :
    Calls Try.prog 51 #[.int .u64 fee, .int .i64 size] w fun e w' => e = .returned (.float .f64 (dW fee.toNat size.toNat)) ∧ w = w' := by
  have hr : divI fee size = some (dW fee.toNat size.toNat) := by
    have := dW_some fee.toNat size.toNat (by omega) (by omega) (by omega)
    unfold rI at this
    rw [Int.toNat_of_nonneg h, Int.toNat_of_nonneg (by omega)] at this
    exact this
  have hb : (size == 0) = false := beq_eq_false_iff_ne.2 (by omega)
  have hq := fun w t => run_float_arith (P := Try.prog) w .quo t .f64 _ _ _ hr
  generalize dW fee.toNat size.toNat = r at *
  clear hr h h1
  by_cases hf : fee = 0
  · subst hf
    go_enter Try.func51, Try.ntmps51
    go_wp2_with fail
    go_ret
    exact ⟨rfl, rfl⟩
  · have hb2 : (fee == 0) = false := beq_eq_false_iff_ne.2 hf
    go_enter Try.func51, Try.ntmps51
    go_wp2_with fail
    go_ret
    exact ⟨rfl, rfl⟩
theorem div_inf (fee : Nat) (h : 0 < fee) (h1 : fee < 2 ^ 64) : Ieee.double.div (rI fee) (rI 0) = some 9218868437227405312 := by
  have b := rI_bd h (by omega)
  rw [rI_zero]
  generalize rI fee = a at *
  have r1 := rd a (by omega)
  have va := V_pos (show 0 < a by omega)
  have i1 := inf_val
  rw [Ieee.Format.div]
  have h0 : Ieee.double.read 0 = .number false 0 Ieee.double.leastPlace := by decide
  rw [h0]
  generalize Ieee.double.read a = da at *
  cases r1 with
  | nan hr t => rw [rung_small (by omega)] at hr; omega
  | inf hr => rw [rung_small (by omega)] at hr; omega
  | num m i hr hv =>
    rw [rung_small (by omega)] at hv
    rw [neg_small (by omega)]
    have hm : ¬ m = 0 := by
      intro h; rw [h, Nat.zero_mul] at hv; omega
    simp only [Ieee.Datum.quotient, if_neg hm, if_true, Option.map_some, Ieee.Format.write, Bool.xor_self]
    rfl
theorem rof_inf (fee : Int) (w : World) (h : 0 < fee) (h1 : fee ≤ 18446744073709551615) :
    Calls Try.prog 51 #[.int .u64 fee, .int .i64 0] w fun e w' => e = .returned (.float .f64 9218868437227405312) ∧ w = w' := by
  have hr : divI fee 0 = some 9218868437227405312 := by
    have := div_inf fee.toNat (by omega) (by omega)
    unfold rI at this
    rw [Int.toNat_of_nonneg (by omega)] at this
    exact this
  have hb : (fee == 0) = false := beq_eq_false_iff_ne.2 (by omega)
  have hq := fun w t => run_float_arith (P := Try.prog) w .quo t .f64 _ _ _ hr
  clear hr
  go_enter Try.func51, Try.ntmps51
  go_wp2_with fail
  go_ret
  exact ⟨rfl, rfl⟩
theorem run_zz {P : Program} (w : World) (t : TypeId) : ∃ x, (binOp .quo t (.float .f64 0) (.float .f64 0)).run P w = .ok (.float .f64 x) w.drew ∧ nanB x = true ∧ x < 2^64 := by
  have h : FloatKind.f64.format.div 0 0 = none := by decide
  have hf : (Question.nanBits FloatKind.f64 0 0).forced = false := rfl
  refine ⟨(Question.nanBits .f64 0 0).cut (w.tape w.drawn (.nanBits .f64 0 0)), ?_, ?_⟩
  · simp [binOp, Op.floatArith, h, hf]
  · show nanB (w.tape w.drawn (.nanBits .f64 0 0) % 2 * 2 ^ 63 + 0x7ff0000000000000 + 1 + w.tape w.drawn (.nanBits .f64 0 0) / 2 % (2 ^ 52 - 1)) = true ∧ w.tape w.drawn (.nanBits .f64 0 0) % 2 * 2 ^ 63 + 0x7ff0000000000000 + 1 + w.tape w.drawn (.nanBits .f64 0 0) / 2 % (2 ^ 52 - 1) < 2 ^ 64
    generalize w.tape w.drawn (.nanBits .f64 0 0) = q
    have ha : q % 2 < 2 := Nat.mod_lt _ (by omega)
    have hb : q / 2 % (2 ^ 52 - 1) < 2 ^ 52 - 1 := Nat.mod_lt _ (by omega)
    generalize q % 2 = a at *
    generalize q / 2 % (2 ^ 52 - 1) = b at *
    have ha2 : a = 0 ∨ a = 1 := by omega
    rcases ha2 with rfl | rfl
    · exact ⟨nan_big _ (by omega), by omega⟩
    · exact ⟨nan_big _ (by omega), by omega⟩
theorem rof_nan (fee size : Int) (w : World) (h : size < 0 ∨ size = 0 ∧ fee = 0) :
    Calls Try.prog 51 #[.int .u64 fee, .int .i64 size] w fun e w' => ∃ x, e = .returned (.float .f64 x) ∧ (nanB x = true ∧ x < 2^64) ∧ Drawn w w' := by
  obtain ⟨x, hx, h1, h2⟩ := run_zz (P := Try.prog) w 49
  have H1 := Lib.hid (And.intro h1 h2)
  clear h1 h2
  rcases h with h | ⟨rfl, rfl⟩
  all_goals
    go_enter Try.func51, Try.ntmps51
    go_wp2_with fail
    go_ret
    exact ⟨x, rfl, H1.out, Drawn.one _⟩
end Go.Proofs.Ytobmldegjajocaa

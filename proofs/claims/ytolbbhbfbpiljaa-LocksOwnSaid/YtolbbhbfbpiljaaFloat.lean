/- Floats as numbers: how two words of 64 bits compare, and the order by key; no program in sight. -/
import Derived.Laws.FloatArith
namespace Go.Proofs.Ytolbbhbfbpiljaa
open Ieee
set_option linter.unusedVariables false

/-- The magnitude of a rung, in units of the least place. -/
def V (r : Nat) : Nat := if r < 2^52 then r else (2^52 + r % 2^52) * 2 ^ (r / 2^52 - 1)

theorem V_step (r : Nat) : V r < V (r + 1) := by
  unfold V
  by_cases h : r + 1 < 2^52
  · rw [if_pos h, if_pos (by omega)]; omega
  · by_cases h2 : r < 2^52
    · obtain rfl : r = 2^52 - 1 := by omega
      decide
    · rw [if_neg h, if_neg h2]
      by_cases h3 : (r + 1) % 2^52 = 0
      · have e1 : (r + 1) / 2^52 = r / 2^52 + 1 := by omega
        have e2 : r % 2^52 = 2^52 - 1 := by omega
        rw [h3, e1, e2, show r / 2^52 + 1 - 1 = (r / 2^52 - 1) + 1 by omega, Nat.pow_succ (m := r / 2^52 - 1)]
        have hp : 0 < 2 ^ (r / 2^52 - 1) := Nat.pow_pos (by omega)
        generalize 2 ^ (r / 2^52 - 1) = p at *
        clear e1 e2 h3 h h2
        omega
      · have e1 : (r + 1) / 2^52 = r / 2^52 := by omega
        have e2 : (r + 1) % 2^52 = r % 2^52 + 1 := by omega
        rw [e1, e2]
        exact Nat.mul_lt_mul_of_pos_right (by omega) (Nat.pow_pos (by omega))

theorem V_lt {r s : Nat} (h : r < s) : V r < V s := by
  induction s with
  | zero => omega
  | succ s ih =>
    rcases Nat.lt_or_ge r s with h1 | h1
    · exact Nat.lt_trans (ih h1) (V_step s)
    · obtain rfl : r = s := by omega
      exact V_step r
theorem V_le {r s : Nat} (h : r ≤ s) : V r ≤ V s := by
  rcases Nat.lt_or_ge r s with h1 | h1
  · exact Nat.le_of_lt (V_lt h1)
  · obtain rfl : r = s := by omega
    exact Nat.le_refl _
theorem V_inj {r s : Nat} (h : V r = V s) : r = s := by
  rcases Nat.lt_trichotomy r s with h1 | h1 | h1
  · have := V_lt h1; omega
  · exact h1
  · have := V_lt h1; omega

/-- A word's rung. -/
def rung (x : Nat) : Nat := x % 2^63
def inf : Nat := 2047 * 2^52
def nanB (x : Nat) : Bool := decide (inf < rung x)
def negB (x : Nat) : Bool := decide (2^63 ≤ x)
/-- A word's value, signed, in units of the least place; infinities stand beyond all numbers. -/
def sv (x : Nat) : Int := if negB x then -(V (rung x) : Int) else (V (rung x) : Int)

theorem signW : double.signWeight = 2^63 := rfl
theorem binadeW : double.binade = 2^52 := rfl
theorem infW : double.infRung = inf := rfl

theorem neg_of {x : Nat} (h : x < 2^64) : (x / 2^63 % 2 == 1) = negB x := by
  unfold negB
  by_cases hx : 2^63 ≤ x
  · have : x / 2^63 = 1 := by omega
    rw [this]; simp [hx]
  · have : x / 2^63 = 0 := by omega
    rw [this]; simp [hx]

/-- What a word reads as. -/
inductive Rd (x : Nat) : Datum → Prop where
  | num (m : Nat) (k : Nat) (hr : rung x < inf) (hv : m * 2 ^ k = V (rung x)) : Rd x (.number (negB x) m (double.leastPlace + (k : Nat)))
  | inf (hr : rung x = inf) : Rd x (.infinity (negB x))
  | nan (hr : inf < rung x) (t : Nat) : Rd x (.nan (negB x) t)

theorem rd (x : Nat) (h : x < 2^64) : Rd x (double.read x) := by
  unfold Format.read
  rw [signW, binadeW, infW, neg_of h]
  show Rd x (if rung x < 2^52 then _ else _)
  by_cases h1 : rung x < 2^52
  · rw [if_pos h1]
    have := Rd.num (x := x) (rung x) 0 (by unfold inf; omega) (by unfold V; rw [if_pos h1]; omega)
    rwa [show ((0 : Nat) : Int) = 0 from rfl, Int.add_zero] at this
  · rw [if_neg h1]
    show Rd x (if rung x < inf then _ else _)
    by_cases h2 : rung x < inf
    · rw [if_pos h2]
      exact Rd.num (x := x) (2^52 + rung x % 2^52) (rung x / 2^52 - 1) h2 (by unfold V; rw [if_neg h1])
    · rw [if_neg h2]
      show Rd x (if rung x = inf then _ else _)
      by_cases h3 : rung x = inf
      · rw [if_pos h3]; exact Rd.inf h3
      · rw [if_neg h3]; exact Rd.nan (by omega) _

theorem signed_scale (s : Bool) (m i b : Nat) (h : b ≤ i) : signed s m (i - b) * 2 ^ b = signed s (m <<< i) 0 := by
  unfold signed
  have : m <<< (i - b) * 2 ^ b = m <<< i := by
    rw [Nat.shiftLeft_eq, Nat.shiftLeft_eq, Nat.mul_assoc, ← Nat.pow_add, show i - b + b = i by omega]
  cases s
  · simp only [Bool.false_eq_true, if_false, Nat.shiftLeft_zero]; rw [← this]; simp
  · simp only [if_true, Nat.shiftLeft_zero]; rw [← this]; simp [Int.neg_mul]

theorem cmp_scale (a b : Int) (k : Nat) : compare (a * 2 ^ k) (b * 2 ^ k) = compare a b := by
  have hp : (0 : Int) < 2 ^ k := Int.pow_pos (by omega)
  simp only [compare, compareOfLessAndEq]
  have h1 : a * 2 ^ k < b * 2 ^ k ↔ a < b := ⟨fun h => Int.lt_of_mul_lt_mul_right h (Int.le_of_lt hp), fun h => Int.mul_lt_mul_of_pos_right h hp⟩
  have h2 : a * 2 ^ k = b * 2 ^ k ↔ a = b := ⟨fun h => Int.eq_of_mul_eq_mul_right (by omega) h, fun h => by rw [h]⟩
  simp [h1, h2]

theorem sv_signed (x m k : Nat) (hv : m * 2 ^ k = V (rung x)) : signed (negB x) (m <<< k) 0 = sv x := by
  unfold signed sv
  rw [Nat.shiftLeft_zero, Nat.shiftLeft_eq, hv]

theorem sv_inf {x : Nat} (h : rung x = inf) : sv x = if negB x then -(V inf : Int) else (V inf : Int) := by unfold sv; rw [h]
theorem sv_fin {x : Nat} (h : rung x < inf) : -(V inf : Int) < sv x ∧ sv x < V inf := by
  have := V_lt h
  unfold sv
  generalize V inf = c at *
  split <;> omega

theorem cmp_lt {a b : Int} (h : a < b) : compare a b = .lt := by simp [compare, compareOfLessAndEq, h]
theorem cmp_gt {a b : Int} (h : b < a) : compare a b = .gt := by
  have h1 : ¬ a < b := by omega
  have h2 : ¬ a = b := by omega
  simp [compare, compareOfLessAndEq, h1, h2]
theorem cmp_eq {a b : Int} (h : a = b) : compare a b = .eq := by simp [compare, compareOfLessAndEq, h]

/-- How two words compare: by their values, where neither is a NaN. -/
theorem order_eq {x y : Nat} (hx : x < 2^64) (hy : y < 2^64) :
    double.order x y = if nanB x || nanB y then none else some (compare (sv x) (sv y)) := by
  have h1 := rd x hx
  have h2 := rd y hy
  unfold Format.order
  generalize double.read x = dx at *
  generalize double.read y = dy at *
  have hpos : (0 : Int) < V inf := by
    have : V 0 < V inf := V_lt (by unfold inf; omega)
    omega
  cases h1 with
  | nan hr t =>
    have : nanB x = true := by simp [nanB, hr]
    rw [this]; rfl
  | inf hr =>
    have e1 : nanB x = false := by simp [nanB, hr]
    have e2 := sv_inf hr
    cases h2 with
    | nan hr2 t =>
      have : nanB y = true := by simp [nanB, hr2]
      rw [this, e1]; rfl
    | inf hr2 =>
      have e3 : nanB y = false := by simp [nanB, hr2]
      have e4 := sv_inf hr2
      rw [e1, e3, e2, e4]
      generalize V inf = c at *
      show some (compare (negB y).toNat (negB x).toNat) = some _
      cases negB x <;> cases negB y
      · simp
      · simp only [Bool.false_eq_true, if_false, if_true]; rw [cmp_gt (by omega)]; rfl
      · simp only [Bool.false_eq_true, if_false, if_true]; rw [cmp_lt (by omega)]; rfl
      · simp
    | num m k hr2 hv =>
      have e3 : nanB y = false := by simp [nanB]; omega
      have e4 := sv_fin hr2
      rw [e1, e3, e2]
      generalize sv y = s at *
      generalize V inf = c at *
      show some (if negB x then Ordering.lt else .gt) = some _
      cases negB x
      · simp only [Bool.false_eq_true, if_false]; rw [cmp_gt (by omega)]
      · simp only [if_true]; rw [cmp_lt (by omega)]
  | num m k hr hv =>
    have e1 : nanB x = false := by simp [nanB]; omega
    have e2 := sv_fin hr
    cases h2 with
    | nan hr2 t =>
      have : nanB y = true := by simp [nanB, hr2]
      rw [this, e1]; rfl
    | inf hr2 =>
      have e3 : nanB y = false := by simp [nanB, hr2]
      have e4 := sv_inf hr2
      rw [e1, e3, e4]
      generalize sv x = s at *
      generalize V inf = c at *
      show some (if negB y then Ordering.gt else .lt) = some _
      cases negB y
      · simp only [Bool.false_eq_true, if_false]; rw [cmp_lt (by omega)]
      · simp only [if_true]; rw [cmp_gt (by omega)]
    | num n j hr2 hv2 =>
      have e3 : nanB y = false := by simp [nanB]; omega
      rw [e1, e3]
      show some (compare (signed (negB x) m (double.leastPlace + (k : Int) - min (double.leastPlace + (k : Int)) (double.leastPlace + (j : Int))).toNat) (signed (negB y) n (double.leastPlace + (j : Int) - min (double.leastPlace + (k : Int)) (double.leastPlace + (j : Int))).toNat)) = some _
      congr 1
      have a1 : (double.leastPlace + (k : Int) - min (double.leastPlace + (k : Int)) (double.leastPlace + (j : Int))).toNat = k - min k j := by omega
      have a2 : (double.leastPlace + (j : Int) - min (double.leastPlace + (k : Int)) (double.leastPlace + (j : Int))).toNat = j - min k j := by omega
      rw [a1, a2, ← cmp_scale _ _ (min k j), signed_scale _ _ _ _ (by omega), signed_scale _ _ _ _ (by omega), sv_signed _ _ _ hv, sv_signed _ _ _ hv2]

theorem V_iff {r s : Nat} : V r < V s ↔ r < s := by
  refine ⟨fun h => ?_, V_lt⟩
  rcases Nat.lt_or_ge r s with h1 | h1
  · exact h1
  · have := V_le h1; omega

/-! ### What Go's tests on floats say -/
def ltF (x y : Nat) : Bool := !(nanB x || nanB y) && decide (sv x < sv y)
def eqF (x y : Nat) : Bool := !(nanB x || nanB y) && decide (sv x = sv y)

section
variable (x y : Nat) (hx : x < 2^64) (hy : y < 2^64)
include hx hy
theorem order_f64 : FloatKind.f64.format.order x y = if nanB x || nanB y then none else some (compare (sv x) (sv y)) := order_eq hx hy
theorem ord_lt : (FloatKind.f64.format.order x y == some .lt) = ltF x y := by
  rw [order_f64 x y hx hy]; unfold ltF
  cases nanB x || nanB y
  · simp only [Bool.false_eq_true, if_false]
    rcases Int.lt_trichotomy (sv x) (sv y) with h | h | h
    · rw [cmp_lt h]; simp [h]
    · rw [cmp_eq h]; simp [h]
    · rw [cmp_gt h]; simp; omega
  · simp
theorem ord_gt : (FloatKind.f64.format.order x y == some .gt) = ltF y x := by
  rw [order_f64 x y hx hy]; unfold ltF
  rw [Bool.or_comm]
  cases nanB y || nanB x
  · simp only [Bool.false_eq_true, if_false]
    rcases Int.lt_trichotomy (sv x) (sv y) with h | h | h
    · rw [cmp_lt h]; simp; omega
    · rw [cmp_eq h]; simp [h]
    · rw [cmp_gt h]; simp [h]
  · simp
theorem ord_eq : (FloatKind.f64.format.order x y == some .eq) = eqF x y := by
  rw [order_f64 x y hx hy]; unfold eqF
  cases nanB x || nanB y
  · simp only [Bool.false_eq_true, if_false]
    rcases Int.lt_trichotomy (sv x) (sv y) with h | h | h
    · rw [cmp_lt h]; simp; omega
    · rw [cmp_eq h]; simp [h]
    · rw [cmp_gt h]; simp; omega
  · simp
theorem ord_ne : (FloatKind.f64.format.order x y != some .eq) = !(eqF x y) := by rw [bne, ord_eq x y hx hy]
end
theorem eqF_self (x : Nat) : eqF x x = !(nanB x) := by simp [eqF]

/-! ### Keys -/
def keyF (x : Nat) : Nat := if nanB x then 0 else if 2^63 ≤ x then 1 + (2^64 - 1 - x) else 1 + (x + 2^63)
def cmpN (x y : Nat) : Int := if x < y then -1 else if y < x then 1 else 0
def cmpI (x y : Int) : Int := if x < y then -1 else if y < x then 1 else 0
def cmpK (x y : Nat) : Int := cmpN (keyF x) (keyF y)
def sgnF (x : Nat) : Int := if eqF x 0 then (if negB x then -1 else 1) else 0
def cmpF (x y : Nat) : Int := if nanB x then (if nanB y then 0 else -1) else if nanB y then 1 else if ltF x y then -1 else if ltF y x then 1 else 0
def rcmp (x y : Nat) : Int := if cmpF x y = 0 then cmpI (sgnF x) (sgnF y) else cmpF x y

theorem keyF_nan {x : Nat} (h : nanB x = true) : keyF x = 0 := by unfold keyF; rw [if_pos h]
theorem keyF_num {x : Nat} (hx : x < 2^64) (h : nanB x = false) : keyF x = if negB x then 2^63 - rung x else 2^63 + 1 + rung x := by
  unfold keyF negB rung
  rw [h]
  simp only [Bool.false_eq_true, if_false, decide_eq_true_eq]
  split <;> omega
theorem rung_le {x : Nat} (h : nanB x = false) : rung x ≤ inf := by
  unfold nanB at h
  have := of_decide_eq_false h
  omega
theorem inf_lt : inf < 2^63 := by decide

theorem nan_zero : nanB 0 = false := by decide
theorem sv_zero : sv 0 = 0 := by decide
theorem V_zero : V 0 = 0 := by decide
theorem V_pos {r : Nat} (h : 0 < r) : 0 < V r := by have := V_lt h; rw [V_zero] at this; exact this

theorem sgnF_num {x : Nat} (h : nanB x = false) : sgnF x = if rung x = 0 then (if negB x then -1 else 1) else 0 := by
  unfold sgnF eqF
  rw [h, nan_zero, sv_zero]
  by_cases hr : rung x = 0
  · have : sv x = 0 := by unfold sv; rw [hr, V_zero]; split <;> rfl
    simp [this, hr]
  · have hp := V_pos (Nat.pos_of_ne_zero hr)
    have : ¬ sv x = 0 := by
      unfold sv
      generalize V (rung x) = c at *
      split <;> omega
    simp [this, hr]
theorem sgnF_nan {x : Nat} (h : nanB x = true) : sgnF x = 0 := by
  unfold sgnF eqF; rw [h]; simp

theorem rcmp_eq (x y : Nat) (hx : x < 2^64) (hy : y < 2^64) : rcmp x y = cmpK x y := by
  unfold rcmp cmpK cmpF
  cases h1 : nanB x
  · have k1 := keyF_num hx h1
    have r1 := rung_le h1
    have i1 := inf_lt
    cases h2 : nanB y
    · have k2 := keyF_num hy h2
      have r2 := rung_le h2
      have s1 := sgnF_num h1
      have s2 := sgnF_num h2
      rw [k1, k2, s1, s2]
      simp only [Bool.false_eq_true, if_false, ltF, h1, h2, Bool.or_self, Bool.not_false, Bool.true_and, decide_eq_true_eq]
      unfold sv
      have v1 : 0 < rung x → 0 < V (rung x) := V_pos
      have v2 : 0 < rung y → 0 < V (rung y) := V_pos
      have z1 : rung x = 0 → V (rung x) = 0 := fun h => by rw [h, V_zero]
      have z2 : rung y = 0 → V (rung y) = 0 := fun h => by rw [h, V_zero]
      have m1 := @V_iff (rung x) (rung y)
      have m2 := @V_iff (rung y) (rung x)
      generalize V (rung x) = c at *
      generalize V (rung y) = d at *
      generalize rung x = r at *
      generalize rung y = s at *
      generalize inf = i at *
      clear h1 h2 k1 k2 s1 s2 hx hy
      unfold cmpI cmpN
      cases negB x <;> cases negB y <;> simp only [Bool.false_eq_true, if_false, if_true] <;> (repeat' split) <;> omega
    · rw [keyF_nan h2, k1]
      simp only [Bool.false_eq_true, if_false, if_true]
      unfold cmpN
      rw [if_neg (by omega), if_neg (by omega)]
      split <;> (repeat' split) <;> omega
  · rw [keyF_nan h1]
    cases h2 : nanB y
    · have k2 := keyF_num hy h2
      have r2 := rung_le h2
      have i1 := inf_lt
      rw [k2]
      simp only [Bool.false_eq_true, if_false, if_true]
      unfold cmpN
      rw [if_neg (by omega)]
      split <;> (repeat' split) <;> omega
    · rw [keyF_nan h2, sgnF_nan h1, sgnF_nan h2]
      simp [cmpN, cmpI]

theorem cmpN_neg (a b : Nat) : cmpN a b = -(cmpN b a) := by unfold cmpN; (repeat' split) <;> omega
theorem cmpN_self (a : Nat) : cmpN a a = 0 := by unfold cmpN; (repeat' split) <;> omega
theorem cmpN_range (a b : Nat) : -1 ≤ cmpN a b ∧ cmpN a b ≤ 1 := by unfold cmpN; (repeat' split) <;> omega
theorem cmpN_three (a b c : Nat) (h1 : cmpN a b ≤ 0) (h2 : cmpN b c ≤ 0) : cmpN a c ≤ 0 := by
  unfold cmpN at *; (repeat' split) <;> (repeat' split at h1) <;> (repeat' split at h2) <;> omega
theorem cmpN_same (a b c : Nat) (h1 : cmpN a b = 0) : cmpN a c = cmpN b c := by
  unfold cmpN at *; (repeat' split) <;> (repeat' split at h1) <;> omega
theorem small_le {x : Nat} (h : nanB x = false) (h2 : x < 2^63) : x ≤ 9218868437227405312 := by
  have h1 := rung_le h
  unfold rung inf at h1
  omega
theorem rung_small {x : Nat} (h : x < 2^63) : rung x = x := by unfold rung; omega
theorem neg_small {x : Nat} (h : x < 2^63) : negB x = false := by unfold negB; rw [decide_eq_false_iff_not]; omega
theorem inf_val : inf = 9218868437227405312 := by decide
theorem nan_small {x : Nat} (h : x ≤ 9218868437227405312) : nanB x = false := by unfold nanB; rw [rung_small (by omega), inf_val, decide_eq_false_iff_not]; omega
theorem key_small {x : Nat} (h : x ≤ 9218868437227405312) : keyF x = 1 + (x + 2^63) := by
  rw [keyF, nan_small h, if_neg (by simp), if_neg (by omega)]
theorem plain_small {x : Nat} (h : x < 9218868437227405312) : nanB x = false ∧ eqF x 0 = decide (x = 0) ∧ negB x = false := by
  refine ⟨nan_small (by omega), ?_, neg_small (by omega)⟩
  rw [eqF, nan_small (by omega), nan_zero, sv_zero, sv, neg_small (by omega), rung_small (by omega)]
  rw [Bool.eq_iff_iff]
  simp only [Bool.false_eq_true, if_false, Bool.or_self, Bool.not_false, Bool.true_and, decide_eq_true_eq]
  constructor
  · intro h2
    rcases Nat.eq_zero_or_pos x with h3 | h3
    · exact h3
    · have := V_pos h3; omega
  · intro h2; rw [h2, V_zero]; rfl
attribute [irreducible] V rung inf nanB negB sv ltF eqF keyF sgnF cmpF cmpK
end Go.Proofs.Ytolbbhbfbpiljaa

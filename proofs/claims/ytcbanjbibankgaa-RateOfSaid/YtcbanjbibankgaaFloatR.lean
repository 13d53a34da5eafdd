/- Rounding grows with the number: nearest words of integers and of quotients; no program in sight. -/
import Derived.Test.YtcbanjbibankgaaFloat
namespace Go.Proofs.Ytcbanjbibankgaa
open Ieee
set_option linter.unusedVariables false

/-- k units of 2^s are nearest to N / D, ties to even. -/
structure Near (k g N D : Nat) : Prop where
  lo : 2 * k * (g * D) ≤ 2 * N + g * D
  loe : 2 * k * (g * D) = 2 * N + g * D → k % 2 = 0
  hi : 2 * N ≤ 2 * k * (g * D) + g * D
  hie : 2 * N = 2 * k * (g * D) + g * D → k % 2 = 0

theorem cut_near (neg : Bool) (n drop : Nat) : Near (Toward.even.cut neg n drop) (2 ^ drop) n 1 := by
  unfold Toward.cut
  simp only [Nat.shiftLeft_eq, Nat.one_mul]
  rcases Nat.le_total drop (n.log2 + 2) with h | h
  · rw [Nat.min_eq_left h]
    have hg : 0 < 2 ^ drop := Nat.pow_pos (by omega)
    generalize 2 ^ drop = g at *
    have hd := Nat.div_add_mod n g
    have hm := Nat.mod_lt n hg
    generalize n / g = q at *
    generalize n % g = r at *
    rw [Nat.mul_comm g q] at hd
    have e1 : 2 * (q + 1) * (g * 1) = 2 * (q * g) + 2 * g := by rw [Nat.mul_one, Nat.mul_assoc, Nat.add_mul]; omega
    have e0 : 2 * (q + 0) * (g * 1) = 2 * (q * g) := by rw [Nat.mul_one, Nat.add_zero, Nat.mul_assoc]
    generalize q * g = t at *
    by_cases h1 : g < 2 * r
    · have : (decide (g < 2 * r) || (g == 2 * r && q % 2 == 1)) = true := by simp [h1]
      rw [this]
      exact ⟨by simp only [Bool.toNat_true]; omega, by simp only [Bool.toNat_true]; omega, by simp only [Bool.toNat_true]; omega, by simp only [Bool.toNat_true]; omega⟩
    · by_cases h2 : g = 2 * r ∧ q % 2 = 1
      · have : (decide (g < 2 * r) || (g == 2 * r && q % 2 == 1)) = true := by simp [h2]
        rw [this]
        exact ⟨by simp only [Bool.toNat_true]; omega, by simp only [Bool.toNat_true]; omega, by simp only [Bool.toNat_true]; omega, by simp only [Bool.toNat_true]; omega⟩
      · have : (decide (g < 2 * r) || (g == 2 * r && q % 2 == 1)) = false := by
          simp [h1]; intro h; have := fun x => h2 ⟨h, x⟩; omega
        rw [this]
        refine ⟨by simp only [Bool.toNat_false]; omega, by simp only [Bool.toNat_false]; omega, by simp only [Bool.toNat_false]; omega, ?_⟩
        simp only [Bool.toNat_false]
        intro h
        have h3 : g = 2 * r := by omega
        have := fun x => h2 ⟨h3, x⟩
        omega
  · rw [Nat.min_eq_right h]
    have h1 : n < 2 ^ (n.log2 + 1) := Nat.lt_log2_self
    have h2 : 2 ^ (n.log2 + 2) = 2 * 2 ^ (n.log2 + 1) := by rw [Nat.pow_succ]; omega
    have h3 : 2 ^ (n.log2 + 2) ≤ 2 ^ drop := Nat.pow_le_pow_right (by omega) h
    generalize 2 ^ (n.log2 + 2) = g at *
    generalize 2 ^ (n.log2 + 1) = g2 at *
    generalize 2 ^ drop = g3 at *
    have e1 : n / g = 0 := Nat.div_eq_of_lt (by omega)
    have e2 : n % g = n := Nat.mod_eq_of_lt (by omega)
    rw [e1, e2]
    have : (decide (g < 2 * n) || (g == 2 * n && 0 % 2 == 1)) = false := by simp; omega
    rw [this]
    exact ⟨by simp only [Bool.toNat_false]; omega, by simp only [Bool.toNat_false]; omega, by simp only [Bool.toNat_false]; omega, by simp only [Bool.toNat_false]; omega⟩

theorem mul_le {a b c : Nat} (h : a ≤ b) : a * c ≤ b * c := Nat.mul_le_mul_right c h
theorem mul_inj {a b c : Nat} (hc : 0 < c) (h : a * c = b * c) : a = b := Nat.eq_of_mul_eq_mul_right hc h

/-- In a finer unit. -/
theorem Near.unit {k g N D t : Nat} (h : Near k g N D) (ht : 0 < t) : Near k (g * t) (N * t) D := by
  have e : g * t * D = g * D * t := by rw [Nat.mul_assoc, Nat.mul_comm t D, ← Nat.mul_assoc]
  have a1 : 2 * k * (g * t * D) = (2 * k * (g * D)) * t := by rw [e, ← Nat.mul_assoc]
  have a2 : 2 * (N * t) + g * t * D = (2 * N + g * D) * t := by rw [e, Nat.add_mul, ← Nat.mul_assoc]
  have a3 : 2 * (N * t) = (2 * N) * t := by rw [← Nat.mul_assoc]
  have a4 : 2 * k * (g * t * D) + g * t * D = (2 * k * (g * D) + g * D) * t := by rw [a1, e, ← Nat.add_mul]
  refine ⟨?_, ?_, ?_, ?_⟩
  · rw [a1, a2]; exact mul_le h.lo
  · rw [a1, a2]; exact fun x => h.loe (mul_inj ht x)
  · rw [a3, a4]; exact mul_le h.hi
  · rw [a3, a4]; exact fun x => h.hie (mul_inj ht x)
/-- The same fraction, in other words. -/
theorem Near.frac {k g N D t : Nat} (h : Near k g N D) (ht : 0 < t) : Near k g (N * t) (D * t) := by
  have e : g * (D * t) = g * D * t := by rw [← Nat.mul_assoc]
  have a1 : 2 * k * (g * (D * t)) = (2 * k * (g * D)) * t := by rw [e, ← Nat.mul_assoc]
  have a2 : 2 * (N * t) + g * (D * t) = (2 * N + g * D) * t := by rw [e, Nat.add_mul, ← Nat.mul_assoc]
  have a3 : 2 * (N * t) = (2 * N) * t := by rw [← Nat.mul_assoc]
  have a4 : 2 * k * (g * (D * t)) + g * (D * t) = (2 * k * (g * D) + g * D) * t := by rw [a1, e, ← Nat.add_mul]
  refine ⟨?_, ?_, ?_, ?_⟩
  · rw [a1, a2]; exact mul_le h.lo
  · rw [a1, a2]; exact fun x => h.loe (mul_inj ht x)
  · rw [a3, a4]; exact mul_le h.hi
  · rw [a3, a4]; exact fun x => h.hie (mul_inj ht x)

/-- A greater number has no lesser nearest one. -/
theorem Near.mono {k g N D k' N' D' : Nat} (h : Near k g N D) (h' : Near k' g N' D') (hD : 0 < D) (hD' : 0 < D') (hg : 0 < g) (hle : N * D' ≤ N' * D) : k ≤ k' := by
  rcases Nat.lt_or_ge k' k with hlt | hge
  · exfalso
    have f1 := (h.frac hD')
    have f2 := (h'.frac hD)
    have eD : D' * D = D * D' := Nat.mul_comm _ _
    rw [eD] at f2
    have hE : 0 < g * (D * D') := Nat.mul_pos hg (Nat.mul_pos hD hD')
    obtain ⟨l1, l2, l3, l4⟩ := f1
    obtain ⟨m1, m2, m3, m4⟩ := f2
    generalize N * D' = a at *
    generalize N' * D = b at *
    generalize g * (D * D') = u at *
    have c1 : 2 * (k' + 1) * u ≤ 2 * k * u := Nat.mul_le_mul_right _ (by omega)
    have c2 : 2 * (k' + 1) * u = 2 * k' * u + 2 * u := by rw [Nat.mul_add, Nat.add_mul]
    have c3 : 2 * k * u = 2 * (k' + 1) * u := by omega
    have c4 : 2 * k = 2 * (k' + 1) := mul_inj hE c3
    have d1 := l2 (by omega)
    have d2 := m4 (by omega)
    omega
  · exact hge

/-- What rounding a number N / D (in units of 2^-c of the least place) comes to: rung L * 2^52 + k. -/
structure Rnd (c L k N D : Nat) : Prop where
  near : Near k (2 ^ (L + c)) N D
  low : 0 < L → 2 ^ 52 * 2 ^ (L + c) * D ≤ N
  top : N < 2 ^ 53 * 2 ^ (L + c) * D
theorem Rnd.frac {c L k N D t : Nat} (h : Rnd c L k N D) (ht : 0 < t) : Rnd c L k (N * t) (D * t) :=
  ⟨h.near.frac ht, fun hl => by rw [← Nat.mul_assoc]; exact mul_le (h.low hl), by rw [← Nat.mul_assoc]; exact Nat.mul_lt_mul_of_pos_right h.top ht⟩
theorem Rnd.k_lo {c L k N D : Nat} (h : Rnd c L k N D) (hD : 0 < D) (hL : 0 < L) : 2 ^ 52 ≤ k := by
  have h1 := h.low hL
  have h2 := h.near.hi
  have hu : 0 < 2 ^ (L + c) * D := Nat.mul_pos (Nat.pow_pos (by omega)) hD
  rw [Nat.mul_assoc] at h1
  generalize 2 ^ (L + c) * D = u at *
  rcases Nat.lt_or_ge k (2 ^ 52) with hlt | hge
  · exfalso
    have : 2 * (k + 1) * u ≤ 2 * 2 ^ 52 * u := Nat.mul_le_mul_right _ (by omega)
    rw [Nat.mul_add, Nat.add_mul, Nat.mul_assoc 2 (2 ^ 52)] at this
    omega
  · exact hge
theorem Rnd.k_hi {c L k N D : Nat} (h : Rnd c L k N D) (hD : 0 < D) : k ≤ 2 ^ 53 := by
  have h1 := h.top
  have h2 := h.near.lo
  have hu : 0 < 2 ^ (L + c) * D := Nat.mul_pos (Nat.pow_pos (by omega)) hD
  rw [Nat.mul_assoc] at h1
  generalize 2 ^ (L + c) * D = u at *
  rcases Nat.lt_or_ge (2 ^ 53) k with hlt | hge
  · exfalso
    have : 2 * (2 ^ 53 + 1) * u ≤ 2 * k * u := Nat.mul_le_mul_right _ (by omega)
    rw [Nat.mul_add, Nat.add_mul, Nat.mul_assoc 2 (2 ^ 53)] at this
    omega
  · exact hge
theorem Rnd.mono {c L k N D L' k' N' D' : Nat} (h : Rnd c L k N D) (h' : Rnd c L' k' N' D') (hD : 0 < D) (hD' : 0 < D') (hle : N * D' ≤ N' * D) : L * 2 ^ 52 + k ≤ L' * 2 ^ 52 + k' := by
  have k1 := h.k_hi hD
  rcases Nat.lt_trichotomy L L' with hl | rfl | hl
  · have k2 := h'.k_lo hD' (by omega)
    have : (L + 1) * 2 ^ 52 ≤ L' * 2 ^ 52 := Nat.mul_le_mul_right _ hl
    rw [Nat.add_mul] at this
    omega
  · have := h.near.mono h'.near hD hD' (Nat.pow_pos (by omega)) hle
    omega
  · exfalso
    have h1 := h.low (by omega)
    have h2 := h'.top
    have e : 2 ^ (L + c) = 2 ^ (L - L' - 1) * 2 * 2 ^ (L' + c) := by
      rw [← Nat.pow_succ, ← Nat.pow_add]; congr 1; omega
    have hp : 0 < 2 ^ (L - L' - 1) := Nat.pow_pos (by omega)
    have h3 := Nat.mul_le_mul_right D' h1
    have h4 := Nat.mul_lt_mul_of_pos_right h2 hD
    have h5 : 2 ^ 53 * 2 ^ (L' + c) * D' * D ≤ 2 ^ 52 * 2 ^ (L + c) * D * D' := by
      rw [e]
      have : 2 ^ 52 * (2 ^ (L - L' - 1) * 2 * 2 ^ (L' + c)) * D * D' = (2 ^ 53 * 2 ^ (L' + c) * D' * D) * 2 ^ (L - L' - 1) := by
        generalize 2 ^ (L - L' - 1) = p
        generalize 2 ^ (L' + c) = q
        rw [show (2 : Nat) ^ 53 = 2 ^ 52 * 2 by rfl]
        generalize (2 : Nat) ^ 52 = z
        ac_rfl
      rw [this]
      exact Nat.le_mul_of_pos_right _ hp
    omega

/-- The rung that 'nearest' finds, ahead of its cap. -/
def rungOf (mag : Nat) (place : Int) : Nat × Nat :=
  let last := max (place + mag.log2 - 52) (-1074)
  ((last + 1074).toNat, Toward.even.cut false (mag <<< (place - last).toNat) (last - place).toNat)
theorem least_eq : double.leastPlace = -1074 := by decide
theorem cut_neg (neg : Bool) (n d : Nat) : Toward.even.cut neg n d = Toward.even.cut false n d := rfl
theorem frac_eq : double.fractionBits = 52 := rfl
theorem nearest_eq (mag : Nat) (place : Int) (h : 0 < mag) : double.nearest false mag place = min ((rungOf mag place).1 * 2 ^ 52 + (rungOf mag place).2) double.infRung := by
  have h0 : ¬ mag = 0 := by omega
  unfold Format.nearest rungOf Format.word
  rw [if_neg h0, least_eq, frac_eq, binadeW]
  simp only [Bool.false_eq_true, if_false, Int.sub_neg]
  rfl

theorem rnd_of (mag : Nat) (place : Int) (c s : Nat) (h : 0 < mag) (hs : place + 1074 + c = (s : Nat)) :
    Rnd c (rungOf mag place).1 (rungOf mag place).2 (mag * 2 ^ s) 1 ∧
    ((place + 2 ≤ place + mag.log2 - 52) → ∃ d, 2 ≤ d ∧ 2 ^ ((rungOf mag place).1 + c) = 2 ^ d * 2 ^ s) := by
  have hlo : 2 ^ mag.log2 ≤ mag := Nat.log2_self_le (by omega)
  have hhi : mag < 2 ^ (mag.log2 + 1) := Nat.lt_log2_self
  unfold rungOf
  generalize hl : mag.log2 = l at *
  obtain ⟨last, hlast⟩ : ∃ last, last = max (place + (l : Int) - 52) (-1074) := ⟨_, rfl⟩
  simp only
  rw [← hlast]
  have hL : ((last + 1074).toNat : Int) = last + 1074 := by omega
  generalize (last + 1074).toNat = L at *
  have hN : 0 < 2 ^ s := Nat.pow_pos (by omega)
  refine ⟨⟨?_, ?_, ?_⟩, ?_⟩
  · have hcut := cut_near false (mag <<< (place - last).toNat) (last - place).toNat
    rcases Int.le_total last place with hle | hle
    · have e0 : (last - place).toNat = 0 := by omega
      obtain ⟨p, hp⟩ : ∃ p, (place - last).toNat = p := ⟨_, rfl⟩
      rw [e0, hp] at hcut ⊢
      have := hcut.unit (t := 2 ^ (L + c)) (Nat.pow_pos (by omega))
      rw [Nat.pow_zero, Nat.one_mul, Nat.shiftLeft_eq, Nat.mul_assoc, ← Nat.pow_add, show p + (L + c) = s by omega] at this
      rw [Nat.shiftLeft_eq]
      exact this
    · have e0 : (place - last).toNat = 0 := by omega
      obtain ⟨p, hp⟩ : ∃ p, (last - place).toNat = p := ⟨_, rfl⟩
      rw [e0, hp] at hcut ⊢
      have := hcut.unit (t := 2 ^ s) hN
      rw [Nat.shiftLeft_eq, Nat.pow_zero, Nat.mul_one, ← Nat.pow_add, show p + s = L + c by omega] at this
      rw [Nat.shiftLeft_eq, Nat.pow_zero, Nat.mul_one]
      exact this
  · intro hpos
    rw [Nat.mul_one, ← Nat.pow_add, show 52 + (L + c) = l + s by omega, Nat.pow_add]
    exact Nat.mul_le_mul_right _ hlo
  · rw [Nat.mul_one, ← Nat.pow_add]
    have h1 : mag * 2 ^ s < 2 ^ (l + 1) * 2 ^ s := Nat.mul_lt_mul_of_pos_right hhi hN
    rw [← Nat.pow_add] at h1
    exact Nat.lt_of_lt_of_le h1 (Nat.pow_le_pow_right (by omega) (by omega))
  · intro h2
    exact ⟨L + c - s, by omega, by rw [← Nat.pow_add]; congr 1; omega⟩

theorem near_sticky {k g q s n r dv : Nat} (h : Near k (4 * g) (2 * q + s) 1) (hdv : dv = q * n + r) (hr : r < n) (hs : s = if r = 0 then 0 else 1) : Near k (4 * g) (2 * dv) n := by
  obtain ⟨l1, l2, l3, l4⟩ := h
  have eK : 2 * k * (4 * g * 1) = 8 * (k * g) := by rw [Nat.mul_one, Nat.mul_mul_mul_comm]
  have eKn : 2 * k * (4 * g * n) = 8 * (k * g * n) := by
    rw [← Nat.mul_assoc (2 * k), Nat.mul_mul_mul_comm, Nat.mul_assoc (2 * 4)]
  have eg : 4 * g * n = 4 * (g * n) := Nat.mul_assoc _ _ _
  rw [eK, Nat.mul_one] at l1 l2 l3 l4
  generalize hK : k * g = K at *
  have s1 : s ≤ 1 := by rw [hs]; split <;> omega
  have b1 : 2 * K ≤ q + g := by omega
  have b2 := Nat.mul_le_mul_right n b1
  rw [Nat.mul_assoc, Nat.add_mul] at b2
  have b3 : q + s ≤ 2 * K + g := by omega
  have b4 := Nat.mul_le_mul_right n b3
  rw [Nat.add_mul, Nat.add_mul, Nat.mul_assoc 2] at b4
  refine ⟨?_, ?_, ?_, ?_⟩
  · rw [eKn, eg]; omega
  · rw [eKn, eg]
    intro he
    have r0 : r = 0 := by omega
    subst r0
    rw [if_pos rfl] at hs
    have : 2 * K = q + g := by
      rcases Nat.lt_or_ge (2 * K) (q + g) with h1 | h1
      · exfalso
        have := Nat.mul_le_mul_right n h1
        rw [Nat.succ_mul, Nat.mul_assoc, Nat.add_mul] at this
        omega
      · omega
    exact l2 (by omega)
  · rw [eKn, eg]
    by_cases hr0 : r = 0
    · rw [if_pos hr0] at hs; subst hs; omega
    · rw [if_neg hr0] at hs; subst hs; rw [Nat.one_mul] at b4; omega
  · rw [eKn, eg]
    intro he
    have r0 : r = 0 := by
      by_cases hr0 : r = 0
      · exact hr0
      · rw [if_neg hr0] at hs; subst hs; rw [Nat.one_mul] at b4; omega
    subst r0
    rw [if_pos rfl] at hs
    have : q = 2 * K + g := by
      rcases Nat.lt_or_ge q (2 * K + g) with h1 | h1
      · exfalso
        have := Nat.mul_le_mul_right n h1
        rw [Nat.succ_mul, Nat.add_mul, Nat.mul_assoc] at this
        omega
      · omega
    exact l4 (by omega)

theorem Near.cancel {k g N D t : Nat} (h : Near k (g * t) (N * t) D) (ht : 0 < t) : Near k g N D := by
  have e : g * t * D = g * D * t := by rw [Nat.mul_assoc, Nat.mul_comm t D, ← Nat.mul_assoc]
  have a1 : 2 * k * (g * t * D) = (2 * k * (g * D)) * t := by rw [e, ← Nat.mul_assoc]
  have a2 : 2 * (N * t) + g * t * D = (2 * N + g * D) * t := by rw [e, Nat.add_mul, ← Nat.mul_assoc]
  have a3 : 2 * (N * t) = (2 * N) * t := by rw [← Nat.mul_assoc]
  have a4 : 2 * k * (g * t * D) + g * t * D = (2 * k * (g * D) + g * D) * t := by rw [a1, e, ← Nat.add_mul]
  obtain ⟨l1, l2, l3, l4⟩ := h
  rw [a1, a2] at l1
  rw [a1, a2] at l2
  rw [a3, a4] at l3
  rw [a3, a4] at l4
  exact ⟨Nat.le_of_mul_le_mul_right l1 ht, fun x => l2 (by rw [x]), Nat.le_of_mul_le_mul_right l3 ht, fun x => l4 (by rw [x])⟩

theorem rnd_sticky {c L k q s n r dv S d : Nat} (h : Rnd c L k ((2 * q + s) * S) 1) (hS : 0 < S) (hd : 2 ≤ d) (hU : 2 ^ (L + c) = 2 ^ d * S) (hdv : dv = q * n + r) (hr : r < n) (hs : s = if r = 0 then 0 else 1) : Rnd c L k (2 * dv * S) n := by
  obtain ⟨h1, h2, h3⟩ := h
  have e4 : 2 ^ d = 4 * 2 ^ (d - 2) := by rw [show d = (d - 2) + 2 by omega, Nat.pow_add]; simp; omega
  rw [e4] at hU
  generalize 2 ^ (d - 2) = g at *
  rw [hU] at h1 h2 h3
  have s1 : s ≤ 1 := by rw [hs]; split <;> omega
  refine ⟨?_, ?_, ?_⟩
  · rw [hU]
    exact (near_sticky (h1.cancel hS) hdv hr hs).unit hS
  · intro hL
    rw [hU]
    have h4 := h2 hL
    rw [Nat.mul_one, ← Nat.mul_assoc] at h4
    have h5 := Nat.le_of_mul_le_mul_right h4 hS
    have h6 : 2 ^ 52 * 2 * g ≤ q := by omega
    have h7 := Nat.mul_le_mul_right (n * S) h6
    have e1 : 2 ^ 52 * (4 * g * S) * n = 2 * (2 ^ 52 * 2 * g * (n * S)) := by
      generalize (2 : Nat) ^ 52 = z
      rw [show (4 : Nat) = 2 * 2 by rfl]
      ac_rfl
    have e2 : 2 * dv * S = 2 * (q * (n * S)) + 2 * (r * S) := by rw [hdv, Nat.mul_assoc, Nat.add_mul, Nat.mul_add, Nat.mul_assoc q]
    omega
  · rw [hU]
    rw [Nat.mul_one, ← Nat.mul_assoc] at h3
    have h5 := Nat.lt_of_mul_lt_mul_right h3
    have h6 : q + 1 ≤ 2 ^ 53 * 2 * g := by omega
    have h7 := Nat.mul_le_mul_right (n * S) h6
    have e1 : 2 ^ 53 * (4 * g * S) * n = 2 * (2 ^ 53 * 2 * g * (n * S)) := by
      generalize (2 : Nat) ^ 53 = z
      rw [show (4 : Nat) = 2 * 2 by rfl]
      ac_rfl
    have e2 : 2 * dv * S = 2 * (q * (n * S)) + 2 * (r * S) := by rw [hdv, Nat.mul_assoc, Nat.add_mul, Nat.mul_add, Nat.mul_assoc q]
    have h8 : r * S < n * S := Nat.mul_lt_mul_of_pos_right hr hS
    rw [Nat.add_mul, Nat.one_mul] at h7
    omega

/-- A positive quotient of two finite words. -/
theorem div_pos_ (a b : Nat) (ha : 0 < a) (ha2 : a < 9218868437227405312) (hb : 0 < b) (hb2 : b < 9218868437227405312) :
    ∃ c0 L k, double.div a b = some (min (L * 2 ^ 52 + k) 9218868437227405312) ∧ ∀ c, c0 ≤ c → Rnd c L k (V a * 2 ^ (1074 + c)) (V b) := by
  have r1 := rd a (by omega)
  have r2 := rd b (by omega)
  rw [Format.div]
  have va : 0 < V a := V_pos ha
  have vb : 0 < V b := V_pos hb
  have i1 := inf_val
  generalize double.read a = da at *
  generalize double.read b = db at *
  cases r1 with
  | nan hr t => rw [rung_small (by omega)] at hr; omega
  | inf hr => rw [rung_small (by omega)] at hr; omega
  | num m i hr hv =>
    cases r2 with
    | nan hr t => rw [rung_small (by omega)] at hr; omega
    | inf hr => rw [rung_small (by omega)] at hr; omega
    | num n j hr2 hv2 =>
      rw [rung_small (by omega)] at hv hv2
      rw [neg_small (by omega), neg_small (by omega)]
      have hm : 0 < m := by
        rcases Nat.eq_zero_or_pos m with h | h
        · rw [h, Nat.zero_mul] at hv; omega
        · exact h
      have hn : 0 < n := by
        rcases Nat.eq_zero_or_pos n with h | h
        · rw [h, Nat.zero_mul] at hv2; omega
        · exact h
      have hn0 : ¬ n = 0 := by omega
      simp only [Datum.quotient, if_neg hn0, Option.map_some, Format.write, frac_eq, Bool.xor_self]
      obtain ⟨more, hmore⟩ : ∃ more, more = 52 + 2 + n.log2 - m.log2 := ⟨_, rfl⟩
      rw [← hmore]
      obtain ⟨dv, hdv⟩ : ∃ dv, dv = m <<< more := ⟨_, rfl⟩
      rw [← hdv]
      have hdv1 : dv = m * 2 ^ more := by rw [hdv, Nat.shiftLeft_eq]
      have hdm := Nat.div_add_mod dv n
      have hml := Nat.mod_lt dv hn
      have hq : 2 ^ 53 ≤ dv / n := by
        rw [Nat.le_div_iff_mul_le hn]
        have l1 : 2 ^ m.log2 ≤ m := Nat.log2_self_le (by omega)
        have l2 : n < 2 ^ (n.log2 + 1) := Nat.lt_log2_self
        have l3 := Nat.mul_le_mul_right (2 ^ more) l1
        rw [← Nat.pow_add] at l3
        have l4 : 2 ^ (53 + (n.log2 + 1)) ≤ 2 ^ (m.log2 + more) := Nat.pow_le_pow_right (by omega) (by omega)
        rw [Nat.pow_add] at l4
        have l5 := Nat.mul_le_mul_left (2 ^ 53) (Nat.le_of_lt l2)
        omega
      obtain ⟨s, hs⟩ : ∃ s, s = (dv % n != 0).toNat := ⟨_, rfl⟩
      have hs2 : s = if dv % n = 0 then 0 else 1 := by
        rw [hs]
        by_cases h : dv % n = 0
        · rw [if_pos h, h]; rfl
        · rw [if_neg h, show (dv % n != 0) = true from bne_iff_ne.2 h]; rfl
      rw [← hs]
      obtain ⟨q, hqq⟩ : ∃ q, q = dv / n := ⟨_, rfl⟩
      obtain ⟨r, hrr⟩ : ∃ r, r = dv % n := ⟨_, rfl⟩
      rw [← hqq] at hq hdm ⊢
      rw [← hrr] at hdm hml hs2
      rw [Nat.mul_comm] at hdm
      have hmag : 0 < 2 * q + s := by omega
      have hlog : 54 ≤ (2 * q + s).log2 := (Nat.le_log2 (by omega)).2 (by omega)
      obtain ⟨pl, hpl⟩ : ∃ pl : Int, pl = double.leastPlace + (i : Int) - (double.leastPlace + (j : Int)) - (more : Nat) - 1 := ⟨_, rfl⟩
      rw [← hpl, nearest_eq _ _ hmag]
      rw [least_eq] at hpl
      refine ⟨j + more + 1, _, _, by rw [infW, inf_val], ?_⟩
      intro c hc
      obtain ⟨S, hS⟩ : ∃ S : Nat, pl + 1074 + c = (S : Nat) := ⟨(pl + 1074 + c).toNat, by omega⟩
      obtain ⟨g1, g2⟩ := rnd_of (2 * q + s) pl c S hmag hS
      obtain ⟨d, hd, hU⟩ := g2 (by omega)
      have g3 := rnd_sticky g1 (Nat.pow_pos (by omega)) hd hU hdm.symm hml hs2
      have g4 := g3.frac (t := 2 ^ j) (Nat.pow_pos (by omega))
      rw [hv2] at g4
      have e : 2 * dv * 2 ^ S * 2 ^ j = V a * 2 ^ (1074 + c) := by
        rw [hdv1, ← hv, Nat.mul_assoc m (2 ^ i), ← Nat.pow_add]
        have e2 : 2 * (m * 2 ^ more) * 2 ^ S * 2 ^ j = m * (2 ^ 1 * 2 ^ more * 2 ^ S * 2 ^ j) := by
          rw [Nat.pow_one]; ac_rfl
        rw [e2, ← Nat.pow_add, ← Nat.pow_add, ← Nat.pow_add]
        congr 2
        omega
      rw [e] at g4
      exact g4

/-- A quotient whose dividend is nought. -/
theorem div_zero_ (b : Nat) (hb : 0 < b) (hb2 : b < 9218868437227405312) : double.div 0 b = some 0 := by
  have r2 := rd b (by omega)
  rw [Format.div]
  have vb : 0 < V b := V_pos hb
  have i1 := inf_val
  have h0 : double.read 0 = .number false 0 double.leastPlace := by decide
  rw [h0]
  generalize double.read b = db at *
  cases r2 with
  | nan hr t => rw [rung_small (by omega)] at hr; omega
  | inf hr => rw [rung_small (by omega)] at hr; omega
  | num n j hr2 hv2 =>
    rw [rung_small (by omega)] at hv2
    rw [neg_small (by omega)]
    have hn : 0 < n := by
      rcases Nat.eq_zero_or_pos n with h | h
      · rw [h, Nat.zero_mul] at hv2; omega
      · exact h
    have hn0 : ¬ n = 0 := by omega
    simp [Datum.quotient, if_neg hn0, Format.write, Format.nearest, Format.word]

/-- The word of an integer. -/
def rI (n : Nat) : Nat := floatOfInt .f64 (n : Int)
theorem rI_zero : rI 0 = 0 := by decide
theorem rI_eq (n : Nat) : rI n = double.nearest false n 0 := by
  unfold rI floatOfInt
  show double.write (.number (decide ((n : Int) < 0)) (n : Int).natAbs 0) = _
  rw [show decide ((n : Int) < 0) = false by rw [decide_eq_false_iff_not]; omega, Int.natAbs_natCast]
  rfl
theorem rI_pos (n : Nat) (h : 0 < n) : ∃ L k, rI n = min (L * 2 ^ 52 + k) 9218868437227405312 ∧ ∀ c, Rnd c L k (n * 2 ^ (1074 + c)) 1 := by
  have e := rI_eq n
  rw [e, nearest_eq _ _ h]
  refine ⟨_, _, by rw [infW, inf_val], fun c => (rnd_of n 0 c (1074 + c) h (by omega)).1⟩
theorem rI_mono {m n : Nat} (h : m ≤ n) : rI m ≤ rI n := by
  rcases Nat.eq_zero_or_pos m with h0 | h0
  · rw [h0, rI_zero]; omega
  · obtain ⟨L, k, e1, r1⟩ := rI_pos m h0
    obtain ⟨L', k', e2, r2⟩ := rI_pos n (by omega)
    have := (r1 0).mono (r2 0) (by omega) (by omega) (by rw [Nat.mul_one, Nat.mul_one]; exact Nat.mul_le_mul_right _ h)
    omega
theorem near_top : double.nearest false 18446744073709551616 0 = 4895412794951729152 := by decide +kernel
theorem near_top1 : double.nearest false 18446744073709551615 0 = 4895412794951729152 := by decide +kernel
theorem near_one : double.nearest false 1 0 = 4607182418800017408 := by decide +kernel
theorem div_top : double.div 4895412794951729152 4607182418800017408 = some 4895412794951729152 := by decide +kernel
theorem rI_top : rI 18446744073709551616 = 4895412794951729152 := (rI_eq _).trans near_top
theorem rI_one : rI 1 = 4607182418800017408 := (rI_eq _).trans near_one
theorem rI_bd {n : Nat} (h0 : 0 < n) (h : n ≤ 18446744073709551616) : 4607182418800017408 ≤ rI n ∧ rI n ≤ 4895412794951729152 := by
  have h1 := rI_mono h
  have h2 := rI_mono (show 1 ≤ n from h0)
  rw [rI_top] at h1
  rw [rI_one] at h2
  exact ⟨h2, h1⟩

/-- The word of 'float64(fee) / float64(size)'. -/
def dW (fee size : Nat) : Nat := ((double.div (rI fee) (rI size))).getD 0
theorem dW_some (fee size : Nat) (h1 : fee < 2 ^ 64) (h2 : 0 < size) (h3 : size < 2 ^ 64) : double.div (rI fee) (rI size) = some (dW fee size) := by
  have b2 := rI_bd h2 (by omega)
  unfold dW
  rcases Nat.eq_zero_or_pos fee with h0 | h0
  · rw [h0, rI_zero, div_zero_ _ (by omega) (by omega), Option.getD_some]
  · have b1 := rI_bd h0 (by omega)
    obtain ⟨c0, L, k, e, _⟩ := div_pos_ (rI fee) (rI size) (by omega) (by omega) (by omega) (by omega)
    rw [e, Option.getD_some]
theorem dW_zero (size : Nat) (h2 : 0 < size) (h3 : size < 2 ^ 64) : dW 0 size = 0 := by
  have b2 := rI_bd h2 (by omega)
  unfold dW
  rw [rI_zero, div_zero_ _ (by omega) (by omega), Option.getD_some]
theorem min_le_min {a b c : Nat} (h : a ≤ b) : min a c ≤ min b c := by omega
theorem dW_mono (f g s t : Nat) (hf : f ≤ g) (hg : g < 2 ^ 64) (h2 : 0 < t) (hst : t ≤ s) (h3 : s < 2 ^ 64) : dW f s ≤ dW g t := by
  rcases Nat.eq_zero_or_pos f with h0 | h0
  · rw [h0, dW_zero s (by omega) h3]; omega
  · have b1 := rI_bd h0 (by omega)
    have b2 := rI_bd (show 0 < g by omega) (by omega)
    have b3 := rI_bd (show 0 < s by omega) (by omega)
    have b4 := rI_bd h2 (by omega)
    obtain ⟨c0, L, k, e, r⟩ := div_pos_ (rI f) (rI s) (by omega) (by omega) (by omega) (by omega)
    obtain ⟨c1, L', k', e', r'⟩ := div_pos_ (rI g) (rI t) (by omega) (by omega) (by omega) (by omega)
    unfold dW
    rw [e, e', Option.getD_some, Option.getD_some]
    have vs := V_pos (show 0 < rI s by omega)
    have vt := V_pos (show 0 < rI t by omega)
    have hm := (r (c0 + c1) (by omega)).mono (r' (c0 + c1) (by omega)) vs vt (by
      have a1 : V (rI f) ≤ V (rI g) := V_le (rI_mono hf)
      have a2 : V (rI t) ≤ V (rI s) := V_le (rI_mono hst)
      have a3 := Nat.mul_le_mul a1 a2
      have a4 := Nat.mul_le_mul_right (2 ^ (1074 + (c0 + c1))) a3
      rw [Nat.mul_right_comm, Nat.mul_right_comm (V (rI g))] at a4
      exact a4)
    exact min_le_min hm
theorem dW_top : dW 18446744073709551615 1 = 4895412794951729152 := by
  rw [dW, rI_one, show rI 18446744073709551615 = 4895412794951729152 from (rI_eq _).trans near_top1, div_top, Option.getD_some]
theorem dW_lt (f s : Nat) (h1 : f < 2 ^ 64) (h2 : 0 < s) (h3 : s < 2 ^ 64) : dW f s < 9218868437227405312 := by
  have h := dW_mono f 18446744073709551615 s 1 (by omega) (by omega) (by omega) h2 h3
  rw [dW_top] at h
  omega
end Go.Proofs.Ytcbanjbibankgaa

/- Layer 3, the document's answer: the bits of a prime's root. -/
import Derived.Test.YtlondennhhffdaaDoorRootC
namespace Go.Proofs.YtlondennhhffdaaDoor
open Go.RowKit Go.Shelf
set_option linter.unusedVariables false

theorem or_n64 (v y : Nat) (hv : v < 2 ^ 64) (hy : y < 2 ^ 64) : Op.intBits .or .u64 (v : Int) (y : Int) = pure (.int .u64 ((v ||| y : Nat) : Int)) := by
  show pure (Value.int .u64 (IntKind.u64.wrap (((BitVec.ofInt 64 (v : Int) ||| BitVec.ofInt 64 (y : Int)).toNat : Nat) : Int))) = _
  have h := Nat.or_lt_two_pow hv hy
  rw [BitVec.toNat_or, BitVec.ofInt_natCast, BitVec.ofInt_natCast, BitVec.toNat_ofNat, BitVec.toNat_ofNat, Nat.mod_eq_of_lt hv, Nat.mod_eq_of_lt hy, IntKind.wrap_u64]
  congr 2
  omega
theorem or_n32 (v y : Nat) (hv : v < 2 ^ 32) (hy : y < 2 ^ 32) : Op.intBits .or .u32 (v : Int) (y : Int) = pure (.int .u32 ((v ||| y : Nat) : Int)) := by
  show pure (Value.int .u32 (IntKind.u32.wrap (((BitVec.ofInt 32 (v : Int) ||| BitVec.ofInt 32 (y : Int)).toNat : Nat) : Int))) = _
  have h := Nat.or_lt_two_pow hv hy
  rw [BitVec.toNat_or, BitVec.ofInt_natCast, BitVec.ofInt_natCast, BitVec.toNat_ofNat, BitVec.toNat_ofNat, Nat.mod_eq_of_lt hv, Nat.mod_eq_of_lt hy, IntKind.wrap_u32]
  congr 2
  omega
theorem or_add (a i b : Nat) (h : b < 2 ^ i) : 2 ^ i * a ||| b = 2 ^ i * a + b := (Nat.two_pow_add_eq_or_of_lt h a).symm
/-- r bits are still to be looked at: the lower r bits are none. -/
theorem rootB_bits (whole p k : Nat) : ∀ j, j ≤ 32 → (∃ a, rootB whole p k j = 2 ^ (32 - j) * a) ∧ rootB whole p k j + 2 ^ (32 - j) ≤ 2 ^ 32
  | 0, _ => ⟨⟨0, by simp [rootB]⟩, by simp [rootB]⟩
  | j + 1, h => by
    obtain ⟨⟨a, ha⟩, hb⟩ := rootB_bits whole p k j (by omega)
    have e : 2 ^ (32 - j) = 2 * 2 ^ (32 - (j + 1)) := by rw [show 32 - j = (32 - (j + 1)) + 1 by omega, Nat.pow_succ]; omega
    have e31 : 31 - j = 32 - (j + 1) := by omega
    rw [e] at ha hb
    generalize hq : 2 ^ (32 - (j + 1)) = q at *
    unfold rootB
    rw [e31, hq]
    split
    · refine ⟨⟨2 * a + 1, ?_⟩, by omega⟩
      rw [ha, Nat.mul_add, Nat.mul_one, ← Nat.mul_assoc, Nat.mul_comm q 2]
    · exact ⟨⟨2 * a, by rw [ha, ← Nat.mul_assoc, Nat.mul_comm q 2]⟩, by omega⟩
theorem wholeB_go {p k f r : Nat} (h : (r + 1) ^ k ≤ p) : wholeB p k (f + 1) r = wholeB p k f (r + 1) := by rw [wholeB, if_pos h]
theorem wholeB_end {p k f r : Nat} (h : ¬ (r + 1) ^ k ≤ p) : wholeB p k (f + 1) r = r := by rw [wholeB, if_neg h]

set_option maxRecDepth 100000 in
set_option maxHeartbeats 2000000 in
theorem root_any3 (p k : Nat) {res : Nat} (hres : rootOf k p = res) (w : World) (hp : p ≤ 400) (hk2 : 2 ≤ k) (hk : k ≤ 3) :
    Calls Tryd.prog 55 #[.int .i64 p, .int .i64 k] w fun e w' => e = .returned (.int .u32 (res : Int)) ∧ Below w.heap.size w w' := by
  have HRES := Lib.hid hres
  clear hres
  go_enter Tryd.func55, Tryd.ntmps55
  go_wp2_with fail
  go_loopw [5] (fun v wr => ∃ m : Nat, m ≤ 19 ∧ v = .int .i64 ((m : Int) + 1) ∧ Hid (wholeB p k 20 1 = wholeB p k (20 - m) (1 + m)) ∧ wr = w) (fun v _ => 30 - (intOf v).toNat)
  case atStart => exact ⟨0, by omega, rfl, Lib.hid rfl, rfl⟩
  case round =>
    obtain ⟨m, hm, rfl, hwh, rfl⟩ := hrel
    obtain ⟨pw, hpw⟩ : ∃ q, (m + 2) ^ k = q := ⟨_, rfl⟩
    have hpc := power_any (m + 2) k hpw wr (by omega) hk
    rw [show (((m + 2 : Nat)) : Int) = (m : Int) + 2 by omega] at hpc
    have HPC := Lib.hid hpc
    have HPW := Lib.hid hpw
    clear hpc hpw
    by_cases hle : pw ≤ p
    · have g1 : decide ((pw : Int) ≤ (p : Int)) = true := by simp; omega
      have hm18 : m ≤ 18 := by
        rcases Nat.lt_or_ge m 19 with h | h
        · omega
        · have e : m = 19 := by omega
          have h1 : 21 ^ k = pw := by have h := HPW.out; rw [e] at h; exact h
          have h2 : (21 : Nat) ^ 2 ≤ 21 ^ k := Nat.pow_le_pow_right (by omega) hk2
          omega
      have HW := Lib.hid (show wholeB p k 20 1 = wholeB p k (20 - (m + 1)) (1 + (m + 1)) by
        rw [hwh.out, show 20 - m = (20 - (m + 1)) + 1 by omega, wholeB_go (by rw [show 1 + m + 1 = m + 2 by omega, HPW.out]; exact hle)]
        congr 1)
      go_wp2_with fail
      refine HPC.out.mono ?_
      rintro e w7 ⟨rfl, hw7⟩
      rw [hw7]
      clear hw7
      clear w7
      go_wp2_with fail
      go_roundw
      case rel => exact ⟨m + 1, by omega, by first | rfl | (congr 1; omega), HW, by trivial⟩
      case measure => first | (simp [intOf]; done) | (simp [intOf]; omega)
    · have g1 : decide ((pw : Int) ≤ (p : Int)) = false := by simp; omega
      have HW := Lib.hid (show wholeB p k 20 1 = 1 + m by
        rw [hwh.out, show 20 - m = (20 - (m + 1)) + 1 by omega, wholeB_end (by rw [show 1 + m + 1 = m + 2 by omega, HPW.out]; exact hle)])
      go_wp2_with fail
      refine HPC.out.mono ?_
      rintro e w7 ⟨rfl, hw7⟩
      rw [hw7]
      clear hw7
      clear w7
      obtain ⟨wh, hwh2⟩ : ∃ q, q = 1 + m := ⟨_, rfl⟩
      have hwb : wh ≤ 20 := by omega
      have hwi : (m : Int) + 1 = (wh : Int) := by omega
      have HW2 := Lib.hid (show wholeB p k 20 1 = wh by rw [HW.out, hwh2])
      clear HW hwh hwh2 HPC HPW
      go_wp2_with fail
      go_loopw [6, 7] (fun v i wr2 => ∃ r x : Nat, r ≤ 32 ∧ x < 4294967296 ∧ i = .int .i64 ((r : Int) - 1) ∧ v = .int .u32 (x : Int) ∧ Hid (x = rootB wh p k (32 - r)) ∧ Hid (Below wr.heap.size wr wr2)) (fun _ i _ => (intOf i + 1).toNat)
      case atStart => exact ⟨32, 0, by omega, by omega, rfl, rfl, Lib.hid rfl, Lib.hid (Below.refl _ _)⟩
      case round =>
        obtain ⟨r, x, hr, hx, rfl, rfl, hxr, hbw⟩ := hrel
        by_cases hr0 : 0 < r
        · obtain ⟨b, rfl⟩ : ∃ b, r = b + 1 := ⟨r - 1, by omega⟩
          have hi1 : (((b + 1 : Nat) : Int) - 1) = (b : Int) := by omega
          rw [hi1]
          have hbits := rootB_bits wh p k (32 - (b + 1)) (by omega)
          rw [show 32 - (32 - (b + 1)) = b + 1 by omega, ← hxr.out] at hbits
          obtain ⟨⟨a, ha⟩, hle2⟩ := hbits
          have hy0 : 2 ^ b < 2 ^ (b + 1) := Nat.pow_lt_pow_right (by omega) (by omega)
          have hy32 : 2 ^ (b + 1) ≤ 2 ^ 32 := Nat.pow_le_pow_right (by omega) (by omega)
          have hor : x ||| 2 ^ b = x + 2 ^ b := by rw [ha]; exact or_add a (b + 1) (2 ^ b) hy0
          obtain ⟨y, hy⟩ : ∃ y, y = 2 ^ b := ⟨_, rfl⟩
          have hsh : IntKind.u32.wrap ((2 : Int) ^ b) = (y : Int) := by
            have e : ((2 : Int) ^ b) = ((2 ^ b : Nat) : Int) := by simp
            rw [e, IntKind.wrap_u32, hy]
            omega
          rw [← hy] at hor hy0
          obtain ⟨t, ht⟩ : ∃ t, t = x + y := ⟨_, rfl⟩
          have htb : t < 4294967296 := by omega
          have hort : Op.intBits .or .u32 (x : Int) (y : Int) = pure (.int .u32 (t : Int)) := by rw [or_n32 x y (by omega) (by omega), hor, ht]
          have HY := Lib.hid hy
          have HTT := Lib.hid ht
          clear hy ht hor hy0 hy32 ha hle2
          have hb31 : (b : Int) < 32 := by omega
          obtain ⟨z, hz⟩ : ∃ z, z = wh * 4294967296 := ⟨_, rfl⟩
          have hzi : (wh : Int) * 4294967296 = (z : Int) := by omega
          obtain ⟨xx, hxx⟩ : ∃ q, q = z + t := ⟨_, rfl⟩
          have hxb : xx < 18446744073709551616 := by omega
          have hor2 : Op.intBits .or .u64 (z : Int) (t : Int) = pure (.int .u64 (xx : Int)) := by
            rw [or_n64 z t (by omega) (by omega), hz, hxx]
            have e := or_add wh 32 t (by omega)
            rw [show 2 ^ 32 * wh = wh * 4294967296 by omega] at e
            rw [e, hz]
          have HXX := Lib.hid (show xx = wh * 4294967296 + (x + 2 ^ b) by rw [hxx, hz, HTT.out, HY.out])
          clear hz hxx
          obtain ⟨d, hd⟩ : ∃ d, belowB xx p k = d := ⟨_, rfl⟩
          have HD := Lib.hid hd
          have HBE := Lib.hid (below_any xx p k hd wr hxb hp hk)
          have HST := Lib.hid (show rootB wh p k (32 - b) = if belowB xx p k then t else x by
            rw [show 32 - b = (32 - (b + 1)) + 1 by omega]
            conv => lhs; unfold rootB
            rw [show 31 - (32 - (b + 1)) = b by omega, ← hxr.out, ← HXX.out, ← HY.out, ← HTT.out])
          clear hd
          go_wp2_with fail
          refine HBE.out.mono ?_
          rintro e w7 ⟨rfl, hb_⟩
          have HB7 := Lib.hid (hbw.out.grow' hb_)
          clear hb_ HBE
          cases d with
          | true =>
            have HN := Lib.hid (show t = rootB wh p k (32 - b) by rw [HST.out, HD.out]; rfl)
            go_wp2_with fail
            go_roundw
            case rel => exact ⟨b, t, by omega, htb, by first | rfl | (congr 1; omega), rfl, HN, HB7⟩
            case measure => first | (simp [intOf]; done) | (simp [intOf]; omega)
          | false =>
            have HN := Lib.hid (show x = rootB wh p k (32 - b) by rw [HST.out, HD.out]; rfl)
            go_wp2_with fail
            go_roundw
            case rel => exact ⟨b, x, by omega, hx, by first | rfl | (congr 1; omega), rfl, HN, HB7⟩
            case measure => first | (simp [intOf]; done) | (simp [intOf]; omega)
        · obtain rfl : r = 0 := by omega
          have HN := Lib.hid (show x = res by rw [hxr.out, ← HRES.out]; unfold rootOf; rw [HW2.out])
          go_wp2_with fail
          go_ret
          exact ⟨by rw [← HN.out]; rfl, hbw.out⟩
end Go.Proofs.YtlondennhhffdaaDoor

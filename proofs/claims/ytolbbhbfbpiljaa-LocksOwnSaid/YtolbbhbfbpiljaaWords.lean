/- How the walk reckons with words and bytes: the model's operations on W x, B x as those of UInt32, UInt8. No program in sight. -/
import Derived.Test.YtolbbhbfbpiljaaBase
import Derived.Test.YtolbbhbfbpiljaaPure
namespace Go.Proofs.Ytolbbhbfbpiljaa
open Go.RowKit

theorem wrap_w32 (x : UInt32) : IntKind.u32.wrap (w32 x) = w32 x := by
  have h := w32_range x
  simp only [IntKind.wrap, IntKind.signed, IntKind.bits, Bool.false_and, Bool.false_eq_true, if_false]
  omega
theorem wrap_nat (n : Nat) : IntKind.u32.wrap (n : Int) = w32 (UInt32.ofNat n) := by
  simp only [IntKind.wrap, IntKind.signed, IntKind.bits, Bool.false_and, Bool.false_eq_true, if_false, w32, UInt32.toNat_ofNat']
  omega
theorem wrap8_nat (n : Nat) : IntKind.u8.wrap (n : Int) = b8 (UInt8.ofNat n) := by
  simp only [IntKind.wrap, IntKind.signed, IntKind.bits, Bool.false_and, Bool.false_eq_true, if_false, b8, UInt8.toNat_ofNat']
  omega

theorem bv_w32 (x : UInt32) : BitVec.ofInt 32 (w32 x) = x.toBitVec := by
  apply BitVec.eq_of_toNat_eq
  simp [w32]
theorem bv_b8 (x : UInt8) : BitVec.ofInt 8 (b8 x) = x.toBitVec := by
  apply BitVec.eq_of_toNat_eq
  simp [b8]

theorem add_w (x y : UInt32) : Op.intArith .add .u32 (w32 x) (w32 y) = pure (.int .u32 (w32 (x + y))) := by
  have : IntKind.u32.wrap (w32 x + w32 y) = w32 (x + y) := by
    simp only [IntKind.wrap, IntKind.signed, IntKind.bits, Bool.false_and, Bool.false_eq_true, if_false, w32, UInt32.toNat_add]
    omega
  show pure (Value.int .u32 (IntKind.u32.wrap (w32 x + w32 y))) = _
  rw [this]
theorem back_w (r : UInt32) : IntKind.u32.wrap ((r.toBitVec.toNat : Nat) : Int) = w32 r := by
  show IntKind.u32.wrap (w32 r) = w32 r
  exact wrap_w32 r
theorem back_b (r : UInt8) : IntKind.u8.wrap ((r.toBitVec.toNat : Nat) : Int) = b8 r := by
  have := wrap8_nat r.toNat
  simpa using this
theorem xor_w (x y : UInt32) : Op.intBits .xor .u32 (w32 x) (w32 y) = pure (.int .u32 (w32 (x ^^^ y))) := by
  show pure (Value.int .u32 (IntKind.u32.wrap (((BitVec.ofInt 32 (w32 x) ^^^ BitVec.ofInt 32 (w32 y)).toNat : Nat) : Int))) = _
  rw [bv_w32, bv_w32, show x.toBitVec ^^^ y.toBitVec = (x ^^^ y).toBitVec from rfl, back_w]
theorem and_w (x y : UInt32) : Op.intBits .and .u32 (w32 x) (w32 y) = pure (.int .u32 (w32 (x &&& y))) := by
  show pure (Value.int .u32 (IntKind.u32.wrap (((BitVec.ofInt 32 (w32 x) &&& BitVec.ofInt 32 (w32 y)).toNat : Nat) : Int))) = _
  rw [bv_w32, bv_w32, show x.toBitVec &&& y.toBitVec = (x &&& y).toBitVec from rfl, back_w]
theorem or_w (x y : UInt32) : Op.intBits .or .u32 (w32 x) (w32 y) = pure (.int .u32 (w32 (x ||| y))) := by
  show pure (Value.int .u32 (IntKind.u32.wrap (((BitVec.ofInt 32 (w32 x) ||| BitVec.ofInt 32 (w32 y)).toNat : Nat) : Int))) = _
  rw [bv_w32, bv_w32, show x.toBitVec ||| y.toBitVec = (x ||| y).toBitVec from rfl, back_w]
theorem xor_b (x y : UInt8) : Op.intBits .xor .u8 (b8 x) (b8 y) = pure (.int .u8 (b8 (x ^^^ y))) := by
  show pure (Value.int .u8 (IntKind.u8.wrap (((BitVec.ofInt 8 (b8 x) ^^^ BitVec.ofInt 8 (b8 y)).toNat : Nat) : Int))) = _
  rw [bv_b8, bv_b8, show x.toBitVec ^^^ y.toBitVec = (x ^^^ y).toBitVec from rfl, back_b]
theorem or_b (x y : UInt8) : Op.intBits .or .u8 (b8 x) (b8 y) = pure (.int .u8 (b8 (x ||| y))) := by
  show pure (Value.int .u8 (IntKind.u8.wrap (((BitVec.ofInt 8 (b8 x) ||| BitVec.ofInt 8 (b8 y)).toNat : Nat) : Int))) = _
  rw [bv_b8, bv_b8, show x.toBitVec ||| y.toBitVec = (x ||| y).toBitVec from rfl, back_b]
theorem not_w (x : UInt32) : Op.unary .xor (.int .u32 (w32 x)) = pure (.int .u32 (w32 (~~~x))) := by
  rw [unary_xor]
  show Op.intBits .xor .u32 (w32 0xffffffff) (w32 x) = _
  rw [xor_w]
  have : (0xffffffff : UInt32) ^^^ x = ~~~x := by
    apply UInt32.eq_of_toBitVec_eq
    show (BitVec.allOnes 32) ^^^ x.toBitVec = ~~~x.toBitVec
    rw [BitVec.allOnes_xor]
  rw [this]

theorem shr_w (x : UInt32) (yk : IntKind) (n : Int) (h0 : 0 ≤ n) (h1 : n ≤ 31) : Op.shift .shr .u32 (w32 x) yk n = pure (.int .u32 (w32 (x >>> UInt32.ofNat n.toNat))) := by
  obtain ⟨k, rfl⟩ := Int.eq_ofNat_of_zero_le h0
  have hk : k ≤ 31 := by omega
  have e : Op.shift .shr .u32 (w32 x) yk (k : Int) = pure (.int .u32 ((w32 x).fdiv (2 ^ k))) := by
    unfold Op.shift
    rw [if_neg (by omega)]
    simp only [Int.toNat_natCast, show min k IntKind.u32.bits = k from Nat.min_eq_left (by simp [IntKind.bits]; omega)]
  rw [e]
  have : (w32 x).fdiv (2 ^ k) = w32 (x >>> UInt32.ofNat k) := by
    unfold w32
    rw [Int.fdiv_eq_ediv_of_nonneg _ (by exact Int.pow_nonneg (by omega)), UInt32.toNat_shiftRight, UInt32.toNat_ofNat', Nat.shiftRight_eq_div_pow, show k % 2 ^ 32 % 32 = k by omega]
    simp
  rw [this]; rfl
theorem shl_w (x : UInt32) (yk : IntKind) (n : Int) (h0 : 0 ≤ n) (h1 : n ≤ 31) : Op.shift .shl .u32 (w32 x) yk n = pure (.int .u32 (w32 (x <<< UInt32.ofNat n.toNat))) := by
  obtain ⟨k, rfl⟩ := Int.eq_ofNat_of_zero_le h0
  have hk : k ≤ 31 := by omega
  have e : Op.shift .shl .u32 (w32 x) yk (k : Int) = pure (.int .u32 (IntKind.u32.wrap ((w32 x) * (2 ^ k)))) := by
    unfold Op.shift
    rw [if_neg (by omega)]
    simp only [Int.toNat_natCast, show min k IntKind.u32.bits = k from Nat.min_eq_left (by simp [IntKind.bits]; omega)]
  rw [e]
  have : IntKind.u32.wrap (w32 x * 2 ^ k) = w32 (x <<< UInt32.ofNat k) := by
    have e1 : w32 x * 2 ^ k = ((x.toNat * 2 ^ k : Nat) : Int) := by simp [w32]
    rw [e1, wrap_nat]
    unfold w32
    rw [UInt32.toNat_ofNat', UInt32.toNat_shiftLeft, UInt32.toNat_ofNat', Nat.shiftLeft_eq, show k % 2 ^ 32 % 32 = k by omega]
  rw [this]; rfl
theorem wrap_b8 (x : UInt8) : IntKind.u32.wrap (b8 x) = w32 x.toUInt32 := by
  have e : b8 x = ((x.toNat : Nat) : Int) := rfl
  rw [e, wrap_nat]
  apply congrArg
  apply UInt32.toNat_inj.1
  have := x.toNat_lt
  rw [UInt32.toNat_ofNat', UInt8.toNat_toUInt32]
  omega
end Go.Proofs.Ytolbbhbfbpiljaa

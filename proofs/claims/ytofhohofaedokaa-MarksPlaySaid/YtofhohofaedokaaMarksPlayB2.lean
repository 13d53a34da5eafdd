/- SHA-256 as a function on lists of bytes; no program in sight. -/
import Derived.Below
import Derived.Test.YtofhohofaedokaaMarksPlayB1
import Derived.Lib.BytesEntry
import Derived.Stop.BytesEq
import Derived.Lib.QuietBelow
set_option linter.unusedSimpArgs false
/- SHA-256 as a function on lists of bytes; no program in sight. -/
namespace Go.Proofs.Ytofhohofaedokaa

/-- A word of 32 bits, and a byte, as the model's numbers; closed to simp. -/
def w32 (x : UInt32) : Int := x.toNat
def b8 (x : UInt8) : Int := x.toNat
def W (x : UInt32) : Value := .int .u32 (w32 x)
def B (x : UInt8) : Value := .int .u8 (b8 x)

theorem b8_range (x : UInt8) : 0 ≤ b8 x ∧ b8 x ≤ 255 := by have := x.toNat_lt; unfold b8; omega
theorem w32_range (x : UInt32) : 0 ≤ w32 x ∧ w32 x ≤ 4294967295 := by have := x.toNat_lt; unfold w32; omega
theorem b8_inj {x y : UInt8} (h : b8 x = b8 y) : x = y := by unfold b8 at h; exact UInt8.toNat_inj.1 (by omega)
theorem w32_inj {x y : UInt32} (h : w32 x = w32 y) : x = y := by unfold w32 at h; exact UInt32.toNat_inj.1 (by omega)

def rotr (x n : UInt32) : UInt32 := (x >>> n) ||| (x <<< (32 - n))
def word4 (a b c d : UInt8) : UInt32 := a.toUInt32 <<< 24 ||| b.toUInt32 <<< 16 ||| c.toUInt32 <<< 8 ||| d.toUInt32
/-- A number's bytes, the highest first. -/
def beByte (v n i : Nat) : UInt8 := UInt8.ofNat (v / 256 ^ (n - 1 - i))
def beBytes (v n : Nat) : List UInt8 := (List.range n).map (beByte v n)

def sig0 (x : UInt32) : UInt32 := rotr x 7 ^^^ rotr x 18 ^^^ (x >>> 3)
def sig1 (x : UInt32) : UInt32 := rotr x 17 ^^^ rotr x 19 ^^^ (x >>> 10)
def big0 (x : UInt32) : UInt32 := rotr x 2 ^^^ rotr x 13 ^^^ rotr x 22
def big1 (x : UInt32) : UInt32 := rotr x 6 ^^^ rotr x 11 ^^^ rotr x 25
def chF (e f g : UInt32) : UInt32 := (e &&& f) ^^^ (~~~e &&& g)
def majF (a b c : UInt32) : UInt32 := (a &&& b) ^^^ (a &&& c) ^^^ (b &&& c)

/-- The word of a block at place i of the first sixteen. -/
def blkWord (b : List UInt8) (i : Nat) : UInt32 := word4 (b[4 * i]?.getD 0) (b[4 * i + 1]?.getD 0) (b[4 * i + 2]?.getD 0) (b[4 * i + 3]?.getD 0)
def nextWord (w : List UInt32) : UInt32 :=
  let i := w.length
  w[i - 16]?.getD 0 + sig0 (w[i - 15]?.getD 0) + w[i - 7]?.getD 0 + sig1 (w[i - 2]?.getD 0)
/-- The first k words of a block's schedule. -/
def schedN (b : List UInt8) : Nat → List UInt32
  | 0 => []
  | k + 1 => schedN b k ++ [if k < 16 then blkWord b k else nextWord (schedN b k)]
def extend (w : List UInt32) : Nat → List UInt32
  | 0 => w
  | k + 1 => extend (w ++ [nextWord w]) k
def sched (b : List UInt8) : List UInt32 := extend ((List.range 16).map (blkWord b)) 48

structure St where
  (a b c d e f g h : UInt32)

def St.toList (s : St) : List UInt32 := [s.a, s.b, s.c, s.d, s.e, s.f, s.g, s.h]
def St.add (s t : St) : St := ⟨s.a + t.a, s.b + t.b, s.c + t.c, s.d + t.d, s.e + t.e, s.f + t.f, s.g + t.g, s.h + t.h⟩
def tOne (k w : UInt32) (s : St) : UInt32 := s.h + big1 s.e + chF s.e s.f s.g + k + w
def tTwo (s : St) : UInt32 := big0 s.a + majF s.a s.b s.c
def roundF (k w : UInt32) (s : St) : St := ⟨tOne k w s + tTwo s, s.a, s.b, s.c, s.d + tOne k w s, s.e, s.f, s.g⟩
/-- Rounds: constants and words side by side. -/
def roundsF : List UInt32 → List UInt32 → St → St
  | k :: ks, w :: ws, s => roundsF ks ws (roundF k w s)
  | _, _, s => s
def compress (ks : List UInt32) (s : St) (blk : List UInt8) : St := s.add (roundsF ks (sched blk) s)

def zerosFor (n : Nat) : Nat := (119 - n % 64) % 64
def padded (b : List UInt8) : List UInt8 := b ++ [128] ++ List.replicate (zerosFor b.length) 0 ++ beBytes (8 * b.length) 8
/-- The state after n blocks of m. -/
def blocksF (ks : List UInt32) : Nat → St → List UInt8 → St
  | 0, s, _ => s
  | n + 1, s, m => blocksF ks n (compress ks s (m.take 64)) (m.drop 64)
def outB (s : St) : List UInt8 := s.toList.flatMap fun x => beBytes x.toNat 4
def shaWith (h : St) (ks : List UInt32) (b : List UInt8) : List UInt8 := outB (blocksF ks ((padded b).length / 64) h (padded b))

def firstSt : St := ⟨0x6a09e667, 0xbb67ae85, 0x3c6ef372, 0xa54ff53a, 0x510e527f, 0x9b05688c, 0x1f83d9ab, 0x5be0cd19⟩
def roundKs : List UInt32 := [
  0x428a2f98, 0x71374491, 0xb5c0fbcf, 0xe9b5dba5, 0x3956c25b, 0x59f111f1, 0x923f82a4, 0xab1c5ed5, 0xd807aa98, 0x12835b01, 0x243185be, 0x550c7dc3, 0x72be5d74, 0x80deb1fe, 0x9bdc06a7, 0xc19bf174,
  0xe49b69c1, 0xefbe4786, 0x0fc19dc6, 0x240ca1cc, 0x2de92c6f, 0x4a7484aa, 0x5cb0a9dc, 0x76f988da, 0x983e5152, 0xa831c66d, 0xb00327c8, 0xbf597fc7, 0xc6e00bf3, 0xd5a79147, 0x06ca6351, 0x14292967,
  0x27b70a85, 0x2e1b2138, 0x4d2c6dfc, 0x53380d13, 0x650a7354, 0x766a0abb, 0x81c2c92e, 0x92722c85, 0xa2bfe8a1, 0xa81a664b, 0xc24b8b70, 0xc76c51a3, 0xd192e819, 0xd6990624, 0xf40e3585, 0x106aa070,
  0x19a4c116, 0x1e376c08, 0x2748774c, 0x34b0bcb5, 0x391c0cb3, 0x4ed8aa4a, 0x5b9cca4f, 0x682e6ff3, 0x748f82ee, 0x78a5636f, 0x84c87814, 0x8cc70208, 0x90befffa, 0xa4506ceb, 0xbef9a3f7, 0xc67178f2]
def sha (b : List UInt8) : List UInt8 := shaWith firstSt roundKs b

theorem beBytes_length (v n : Nat) : (beBytes v n).length = n := by simp [beBytes]
theorem sha_length (b : List UInt8) : (sha b).length = 32 := by simp [sha, shaWith, outB, St.toList, beBytes_length]
theorem padded_length (b : List UInt8) : (padded b).length = b.length + 9 + zerosFor b.length := by
  simp [padded, beBytes_length]; omega
theorem padded_mod (b : List UInt8) : (padded b).length % 64 = 0 := by
  rw [padded_length]; unfold zerosFor; omega

theorem extend_append (w : List UInt32) (k : Nat) : extend w (k + 1) = extend w k ++ [nextWord (extend w k)] := by
  induction k generalizing w with
  | zero => rfl
  | succ k ih => rw [extend, ih]; rfl
theorem extend_length (w : List UInt32) (k : Nat) : (extend w k).length = w.length + k := by
  induction k generalizing w with
  | zero => rfl
  | succ k ih => rw [extend, ih]; simp; omega
theorem sched_length (b : List UInt8) : (sched b).length = 64 := by rw [sched, extend_length]; simp

/-- The word at place k of a block's schedule. -/
def sw (b : List UInt8) (k : Nat) : UInt32 := (sched b)[k]?.getD 0

theorem extend_prefix (w : List UInt32) (n k : Nat) (h : k < w.length) : (extend w n)[k]? = w[k]? := by
  induction n generalizing w with
  | zero => rfl
  | succ n ih => rw [extend, ih _ (by simp; omega), List.getElem?_append_left h]
theorem extend_at (w : List UInt32) (n m : Nat) (h : m < n) : (extend w n)[w.length + m]? = some (nextWord (extend w m)) := by
  have h1 : ∀ d, (extend w (m + 1 + d))[w.length + m]? = some (nextWord (extend w m)) := by
    intro d
    induction d with
    | zero => rw [Nat.add_zero, extend_append, List.getElem?_append_right (by rw [extend_length]; omega), extend_length]; simp
    | succ d ih => rw [← Nat.add_assoc, extend_append, List.getElem?_append_left (by rw [extend_length]; omega), ih]
  have := h1 (n - m - 1)
  rwa [show m + 1 + (n - m - 1) = n by omega] at this
theorem extend_mono (w : List UInt32) (n m k : Nat) (h : m ≤ n) (hk : k < w.length + m) : (extend w n)[k]? = (extend w m)[k]? := by
  have h1 : ∀ d, (extend w (m + d))[k]? = (extend w m)[k]? := by
    intro d
    induction d with
    | zero => rfl
    | succ d ih => rw [← Nat.add_assoc, extend_append, List.getElem?_append_left (by rw [extend_length]; omega), ih]
  have := h1 (n - m)
  rwa [show m + (n - m) = n by omega] at this

theorem sw_lo (b : List UInt8) (k : Nat) (h : k < 16) : sw b k = blkWord b k := by
  unfold sw sched
  rw [extend_prefix _ _ _ (by simp; exact h)]
  simp [h]
theorem sw_hi (b : List UInt8) (k : Nat) (h : 16 ≤ k) (h2 : k < 64) : sw b k = sw b (k - 16) + sig0 (sw b (k - 15)) + sw b (k - 7) + sig1 (sw b (k - 2)) := by
  have e0 : ((List.range 16).map (blkWord b)).length = 16 := by simp
  have h1 := extend_at ((List.range 16).map (blkWord b)) 48 (k - 16) (by omega)
  rw [e0, show 16 + (k - 16) = k by omega] at h1
  have g : ∀ j, j < k → (extend ((List.range 16).map (blkWord b)) (k - 16))[j]?.getD 0 = sw b j := by
    intro j hj
    unfold sw sched
    rw [extend_mono _ 48 (k - 16) j (by omega) (by rw [e0]; omega)]
  have hl : (extend ((List.range 16).map (blkWord b)) (k - 16)).length = k := by rw [extend_length, e0]; omega
  rw [show sw b k = nextWord (extend ((List.range 16).map (blkWord b)) (k - 16)) by unfold sw sched; rw [h1]; rfl]
  unfold nextWord
  simp only [hl]
  rw [g _ (by omega), g _ (by omega), g _ (by omega), g _ (by omega)]
theorem sched_eq (b : List UInt8) : sched b = (List.range 64).map (sw b) := by
  apply List.ext_getElem?
  intro k
  by_cases h : k < 64
  · have : k < (sched b).length := by rw [sched_length]; exact h
    rw [List.getElem?_eq_getElem this]
    simp [h, sw, this]
  · rw [List.getElem?_eq_none (by rw [sched_length]; omega), List.getElem?_eq_none (by simp; omega)]

theorem beByte_div (v n i : Nat) : ((v : Int) / 2 ^ (8 * (n - 1 - i)) % 256) = b8 (beByte v n i) := by
  unfold beByte b8
  rw [UInt8.toNat_ofNat', Int.pow_mul]
  simp

/-- The state after k rounds. -/
def stN (b : List UInt8) (h : St) : Nat → St
  | 0 => h
  | k + 1 => roundF (roundKs[k]?.getD 0) (sw b k) (stN b h k)
theorem roundKs_length : roundKs.length = 64 := rfl
theorem roundsF_drop (b : List UInt8) (h : St) (k : Nat) (hk : k ≤ 64) : roundsF (roundKs.drop k) ((sched b).drop k) (stN b h k) = roundsF roundKs (sched b) h := by
  have hs : (sched b).length = 64 := sched_length b
  have e2 : ∀ (k : Nat) (h : k < (sched b).length), (sched b)[k] = sw b k := by
    intro k h; unfold sw; rw [List.getElem?_eq_getElem h]; rfl
  generalize sched b = l at *
  generalize hr : roundKs = r
  have hrl : r.length = 64 := by rw [← hr]; rfl
  induction k with
  | zero => rfl
  | succ k ih =>
    rw [← ih (by omega)]
    have h1 : k < r.length := by omega
    have h2 : k < l.length := by omega
    rw [List.drop_eq_getElem_cons h1, List.drop_eq_getElem_cons h2, roundsF, stN, e2, hr, List.getElem?_eq_getElem h1]
    rfl
theorem stN_all (b : List UInt8) (h : St) : stN b h 64 = roundsF roundKs (sched b) h := by
  rw [← roundsF_drop b h 64 (by omega), List.drop_eq_nil_of_le (by rw [roundKs_length]; omega)]; rfl
theorem compress_eq (b : List UInt8) (h : St) : compress roundKs h b = h.add (stN b h 64) := by rw [stN_all]; rfl
theorem St.length (s : St) : s.toList.length = 8 := rfl
/-- A word of a state. -/
def St.at_ (s : St) (i : Nat) : UInt32 := s.toList[i]?.getD 0
theorem St.add_at (s t : St) (i : Nat) (hi : i < 8) : (s.add t).at_ i = s.at_ i + t.at_ i := by
  match i, hi with
  | 0, _ => rfl
  | 1, _ => rfl
  | 2, _ => rfl
  | 3, _ => rfl
  | 4, _ => rfl
  | 5, _ => rfl
  | 6, _ => rfl
  | 7, _ => rfl
theorem St.list_eq (s : St) : s.toList = (List.range 8).map s.at_ := rfl
theorem St.get_at (s : St) (i : Nat) (hi : i < 8) : (s.toList.map W)[i]? = some (W (s.at_ i)) := by
  rw [St.list_eq]; simp [hi]

/-- A block of 64 bytes. -/
def chunkAt (m : List UInt8) (k : Nat) : List UInt8 := (m.drop (64 * k)).take 64
/-- The state after k blocks of m. -/
def stB (m : List UInt8) : Nat → St
  | 0 => firstSt
  | k + 1 => compress roundKs (stB m k) (chunkAt m k)
theorem blocksF_eq (m : List UInt8) (n : Nat) : ∀ k, blocksF roundKs n (stB m k) (m.drop (64 * k)) = stB m (k + n) := by
  induction n with
  | zero => intro k; rfl
  | succ n ih =>
    intro k
    rw [blocksF, List.drop_drop, show 64 * k + 64 = 64 * (k + 1) by omega, show k + (n + 1) = (k + 1) + n by omega, ← ih (k + 1)]
    rfl
theorem sha_eq (b : List UInt8) : sha b = outB (stB (padded b) ((padded b).length / 64)) := by
  have h := blocksF_eq (padded b) ((padded b).length / 64) 0
  rw [Nat.zero_add] at h
  rw [← h]; rfl
/-- The states by a list of places. -/
def stL (m : List UInt8) (l : List Nat) : St := l.foldl (fun s k => compress roundKs s (chunkAt m k)) firstSt
theorem stL_snoc (m : List UInt8) (l : List Nat) (k : Nat) : stL m (l ++ [k]) = compress roundKs (stL m l) (chunkAt m k) := by
  unfold stL; rw [List.foldl_append]; rfl
theorem stL_range (m : List UInt8) (n : Nat) : stL m (List.range n) = stB m n := by
  induction n with
  | zero => rfl
  | succ n ih => rw [List.range_succ, stL_snoc, ih]; rfl
theorem chunkAt_length (m : List UInt8) (k n : Nat) (hm : m.length = 64 * n) (hk : k < n) : (chunkAt m k).length = 64 := by
  unfold chunkAt; rw [List.length_take, List.length_drop]; omega
theorem outB_length (s : St) : (outB s).length = 32 := by simp [outB, St.toList, beBytes_length]
theorem outB_at (s : St) : outB s = (List.range 8).flatMap fun i => beBytes (s.at_ i).toNat 4 := by
  unfold outB; rw [St.list_eq, List.flatMap_map]
theorem flatMap_take (f : Nat → List UInt8) (hf : ∀ i, (f i).length = 4) (n k : Nat) (hk : k ≤ n) : ((List.range n).flatMap f).take (4 * k) = (List.range k).flatMap f := by
  have h : List.range n = List.range k ++ (List.range (n - k)).map (· + k) := by
    apply List.ext_getElem?
    intro i
    by_cases hi : i < k
    · rw [List.getElem?_append_left (by simpa using hi)]; simp [hi, show i < n by omega]
    · rw [List.getElem?_append_right (by simp; omega)]
      by_cases hn : i < n
      · simp [hn, show i - k < n - k by omega]; omega
      · simp [hn]
        rw [List.getElem?_eq_none (by simp; omega)]; rfl
  have hl : ((List.range k).flatMap f).length = 4 * k := by
    clear h hk
    induction k with
    | zero => rfl
    | succ k ih => rw [List.range_succ, List.flatMap_append, List.length_append, ih]; simp [hf]; omega
  rw [h, List.flatMap_append, List.take_append_of_le_length (by omega), List.take_of_length_le (by omega)]
theorem outB_take (s : St) (k : Nat) (hk : k < 8) : (outB s).take (4 * (k + 1)) = (outB s).take (4 * k) ++ beBytes (s.at_ k).toNat 4 := by
  rw [outB_at, flatMap_take _ (fun i => beBytes_length _ _) _ _ (by omega), flatMap_take _ (fun i => beBytes_length _ _) _ _ (by omega), List.range_succ, List.flatMap_append]
  simp

attribute [irreducible] stB stL chunkAt stN St.at_ rotr word4 beByte beBytes sig0 sig1 big0 big1 chF majF blkWord nextWord extend sched sw St.add tOne tTwo roundF roundsF compress zerosFor padded blocksF outB shaWith sha

example : sha [97, 98, 99] = [0xba, 0x78, 0x16, 0xbf, 0x8f, 0x01, 0xcf, 0xea, 0x41, 0x41, 0x40, 0xde, 0x5d, 0xae, 0x22, 0x23, 0xb0, 0x03, 0x61, 0xa3, 0x96, 0x17, 0x7a, 0x9c, 0xb4, 0x10, 0xff, 0x61, 0xf2, 0x00, 0x15, 0xad] := by decide +kernel
end Go.Proofs.Ytofhohofaedokaa

/- How the walk reckons with words and bytes: the model's operations on W x, B x as those of UInt32, UInt8. No program in sight. -/
namespace Go.Proofs.Ytofhohofaedokaa
open Go.RowKit

theorem wrap_w32 (x : UInt32) : IntKind.u32.wrap (w32 x) = w32 x := by
  have h := w32_range x
  simp only [IntKind.wrap, IntKind.signed, IntKind.bits, Bool.false_and, Bool.false_eq_true, if_false]
  omega
theorem wrap_nat (n : Nat) : IntKind.u32.wrap (n : Int) = w32 (UInt32.ofNat n) := by
  simp only [IntKind.wrap, IntKind.signed, IntKind.bits, Bool.false_and, Bool.false_eq_true, if_false, w32, UInt32.toNat_ofNat']
  omega
theorem wrap8_nat (n : Nat) : IntKind.u8.wrap (n : Int) = b8 (UInt8.ofNat n) := by
  simp only [IntKind.wrap, IntKind.signed, IntKind.bits, Bool.false_and, Bool.false_eq_true, if_false, b8, UInt8.toNat_ofNat']
  omega

theorem bv_w32 (x : UInt32) : BitVec.ofInt 32 (w32 x) = x.toBitVec := by
  apply BitVec.eq_of_toNat_eq
  simp [w32]
theorem bv_b8 (x : UInt8) : BitVec.ofInt 8 (b8 x) = x.toBitVec := by
  apply BitVec.eq_of_toNat_eq
  simp [b8]

theorem add_w (x y : UInt32) : Op.intArith .add .u32 (w32 x) (w32 y) = pure (.int .u32 (w32 (x + y))) := by
  have : IntKind.u32.wrap (w32 x + w32 y) = w32 (x + y) := by
    simp only [IntKind.wrap, IntKind.signed, IntKind.bits, Bool.false_and, Bool.false_eq_true, if_false, w32, UInt32.toNat_add]
    omega
  show pure (Value.int .u32 (IntKind.u32.wrap (w32 x + w32 y))) = _
  rw [this]
theorem back_w (r : UInt32) : IntKind.u32.wrap ((r.toBitVec.toNat : Nat) : Int) = w32 r := by
  show IntKind.u32.wrap (w32 r) = w32 r
  exact wrap_w32 r
theorem back_b (r : UInt8) : IntKind.u8.wrap ((r.toBitVec.toNat : Nat) : Int) = b8 r := by
  have := wrap8_nat r.toNat
  simpa using this
theorem xor_w (x y : UInt32) : Op.intBits .xor .u32 (w32 x) (w32 y) = pure (.int .u32 (w32 (x ^^^ y))) := by
  show pure (Value.int .u32 (IntKind.u32.wrap (((BitVec.ofInt 32 (w32 x) ^^^ BitVec.ofInt 32 (w32 y)).toNat : Nat) : Int))) = _
  rw [bv_w32, bv_w32, show x.toBitVec ^^^ y.toBitVec = (x ^^^ y).toBitVec from rfl, back_w]
theorem and_w (x y : UInt32) : Op.intBits .and .u32 (w32 x) (w32 y) = pure (.int .u32 (w32 (x &&& y))) := by
  show pure (Value.int .u32 (IntKind.u32.wrap (((BitVec.ofInt 32 (w32 x) &&& BitVec.ofInt 32 (w32 y)).toNat : Nat) : Int))) = _
  rw [bv_w32, bv_w32, show x.toBitVec &&& y.toBitVec = (x &&& y).toBitVec from rfl, back_w]
theorem or_w (x y : UInt32) : Op.intBits .or .u32 (w32 x) (w32 y) = pure (.int .u32 (w32 (x ||| y))) := by
  show pure (Value.int .u32 (IntKind.u32.wrap (((BitVec.ofInt 32 (w32 x) ||| BitVec.ofInt 32 (w32 y)).toNat : Nat) : Int))) = _
  rw [bv_w32, bv_w32, show x.toBitVec ||| y.toBitVec = (x ||| y).toBitVec from rfl, back_w]
theorem xor_b (x y : UInt8) : Op.intBits .xor .u8 (b8 x) (b8 y) = pure (.int .u8 (b8 (x ^^^ y))) := by
  show pure (Value.int .u8 (IntKind.u8.wrap (((BitVec.ofInt 8 (b8 x) ^^^ BitVec.ofInt 8 (b8 y)).toNat : Nat) : Int))) = _
  rw [bv_b8, bv_b8, show x.toBitVec ^^^ y.toBitVec = (x ^^^ y).toBitVec from rfl, back_b]
theorem or_b (x y : UInt8) : Op.intBits .or .u8 (b8 x) (b8 y) = pure (.int .u8 (b8 (x ||| y))) := by
  show pure (Value.int .u8 (IntKind.u8.wrap (((BitVec.ofInt 8 (b8 x) ||| BitVec.ofInt 8 (b8 y)).toNat : Nat) : Int))) = _
  rw [bv_b8, bv_b8, show x.toBitVec ||| y.toBitVec = (x ||| y).toBitVec from rfl, back_b]
theorem not_w (x : UInt32) : Op.unary .xor (.int .u32 (w32 x)) = pure (.int .u32 (w32 (~~~x))) := by
  rw [unary_xor]
  show Op.intBits .xor .u32 (w32 0xffffffff) (w32 x) = _
  rw [xor_w]
  have : (0xffffffff : UInt32) ^^^ x = ~~~x := by
    apply UInt32.eq_of_toBitVec_eq
    show (BitVec.allOnes 32) ^^^ x.toBitVec = ~~~x.toBitVec
    rw [BitVec.allOnes_xor]
  rw [this]

theorem shr_w (x : UInt32) (yk : IntKind) (n : Int) (h0 : 0 ≤ n) (h1 : n ≤ 31) : Op.shift .shr .u32 (w32 x) yk n = pure (.int .u32 (w32 (x >>> UInt32.ofNat n.toNat))) := by
  obtain ⟨k, rfl⟩ := Int.eq_ofNat_of_zero_le h0
  have hk : k ≤ 31 := by omega
  have e : Op.shift .shr .u32 (w32 x) yk (k : Int) = pure (.int .u32 ((w32 x).fdiv (2 ^ k))) := by
    unfold Op.shift
    rw [if_neg (by omega)]
    simp only [Int.toNat_natCast, show min k IntKind.u32.bits = k from Nat.min_eq_left (by simp [IntKind.bits]; omega)]
  rw [e]
  have : (w32 x).fdiv (2 ^ k) = w32 (x >>> UInt32.ofNat k) := by
    unfold w32
    rw [Int.fdiv_eq_ediv_of_nonneg _ (by exact Int.pow_nonneg (by omega)), UInt32.toNat_shiftRight, UInt32.toNat_ofNat', Nat.shiftRight_eq_div_pow, show k % 2 ^ 32 % 32 = k by omega]
    simp
  rw [this]; rfl
theorem shl_w (x : UInt32) (yk : IntKind) (n : Int) (h0 : 0 ≤ n) (h1 : n ≤ 31) : Op.shift .shl .u32 (w32 x) yk n = pure (.int .u32 (w32 (x <<< UInt32.ofNat n.toNat))) := by
  obtain ⟨k, rfl⟩ := Int.eq_ofNat_of_zero_le h0
  have hk : k ≤ 31 := by omega
  have e : Op.shift .shl .u32 (w32 x) yk (k : Int) = pure (.int .u32 (IntKind.u32.wrap ((w32 x) * (2 ^ k)))) := by
    unfold Op.shift
    rw [if_neg (by omega)]
    simp only [Int.toNat_natCast, show min k IntKind.u32.bits = k from Nat.min_eq_left (by simp [IntKind.bits]; omega)]
  rw [e]
  have : IntKind.u32.wrap (w32 x * 2 ^ k) = w32 (x <<< UInt32.ofNat k) := by
    have e1 : w32 x * 2 ^ k = ((x.toNat * 2 ^ k : Nat) : Int) := by simp [w32]
    rw [e1, wrap_nat]
    unfold w32
    rw [UInt32.toNat_ofNat', UInt32.toNat_shiftLeft, UInt32.toNat_ofNat', Nat.shiftLeft_eq, show k % 2 ^ 32 % 32 = k by omega]
  rw [this]; rfl
theorem wrap_b8 (x : UInt8) : IntKind.u32.wrap (b8 x) = w32 x.toUInt32 := by
  have e : b8 x = ((x.toNat : Nat) : Int) := rfl
  rw [e, wrap_nat]
  apply congrArg
  apply UInt32.toNat_inj.1
  have := x.toNat_lt
  rw [UInt32.toNat_ofNat', UInt8.toNat_toUInt32]
  omega
theorem all_bytes (l : List UInt8) : ∀ v ∈ l.map B, v.oneCell' = true := fun v hv => by obtain ⟨x, _, rfl⟩ := List.mem_map.1 hv; rfl
theorem conv_u64' {n : Nat} (h : n ≤ 18446744073709551615) : IntKind.u64.wrap (n : Int) = (n : Int) := by rw [IntKind.wrap_u64]; omega
end Go.Proofs.Ytofhohofaedokaa

/- Contracts of coins.Compare and its reference: the order of outputs. -/
namespace Go.Proofs.Ytofhohofaedokaa
open Go.RowKit
set_option linter.unusedVariables false

theorem bytesOf_b8 (ds : List UInt8) : Lib.bytesOf (ds.map b8) = ds := by
  unfold Lib.bytesOf b8
  rw [List.map_map]
  conv => rhs; rw [← List.map_id ds]
  apply List.map_congr_left
  intro x _
  simp
theorem run_bytes {P : Program} (w : World) {BB : Nat} {A : Option Addr} {n c : Nat} {ds : List UInt8} (h : Sl w BB 1 A n (ds.map B)) :
    (Extern.Bytes.bytesOf (.slice A n c)).run P w = .ok ⟨ds.toArray⟩ w := by
  have hl : ds.length = n := by have := h.len; simpa using this
  rcases Nat.eq_zero_or_pos n with h0 | h0
  · subst h0
    obtain rfl : ds = [] := List.eq_nil_of_length_eq_zero hl
    cases A with
    | none => rfl
    | some a => rfl
  · obtain ⟨b, off, rfl, _, hc⟩ := h.2 h0
    have := Lib.run_loadBytesX (P := P) w (ds.map b8) ⟨b, off, none⟩ .empty (fun j x hj => by
      rw [Addr.add_lit]
      refine hc j _ ?_
      rw [List.getElem?_map] at hj ⊢
      obtain ⟨y, hy, rfl⟩ := Option.map_eq_some_iff.1 hj
      rw [hy]; rfl)
    rw [bytesOf_b8, List.length_map, hl] at this
    show (Extern.Bytes.loadBytes ⟨b, off, none⟩ n .empty).run P w = _
    rw [this]
    congr 2
    simp
theorem bcmp_any (A A2 : Option Addr) (n c n2 c2 : Nat) (ds es : List UInt8) (w : World) {B1 B2 : Nat} (h1 : Sl w B1 1 A n (ds.map B)) (h2 : Sl w B2 1 A2 n2 (es.map B)) :
    Calls Try.prog 57 #[.slice A n c, .slice A2 n2 c2] w fun e w' => e = .returned (.int .i64 (Lib.compareBytes ds es)) ∧ w = w' := by
  have hrun : (callFunc 67 #[.slice A n c, .slice A2 n2 c2]).run Try.prog w = .ok (.value (.int .i64 (Lib.compareBytes ds es))) w := by
    rw [run_callFunc_extern Try.func67 (by kernel_rfl) (by kernel_rfl) (by kernel_rfl) (e := Extern.BytealgCompare.compare) (by kernel_rfl)]
    change (Sem.run Try.prog (do pure (goInt (Extern.BytealgCompare.cmp (← Extern.Bytes.bytesOf (.slice A n c)) (← Extern.Bytes.bytesOf (.slice A2 n2 c2))))) w).andThen _ = _
    simp only [Sem.run_bind, run_bytes w h1, run_bytes w h2, Result.andThen, Sem.run_pure]
    rw [Lib.cmp_eq]
    rfl
  generalize Lib.compareBytes ds es = z at *
  clear h1 h2
  go_enter Try.func57, Try.ntmps57
  go_wp2
  go_ret
  exact ⟨rfl, rfl⟩

/-- An output's cells. -/
def ptV (p : List UInt8 × Int) : List Value := p.1.map B ++ [.int .i64 p.2]
theorem ptV_length {p : List UInt8 × Int} (h : p.1.length = 32) : (ptV p).length = 33 := by simp [ptV, h]
theorem ptV_ix {p : List UInt8 × Int} (h : p.1.length = 32) : (ptV p)[32]? = some (.int .i64 p.2) := by
  unfold ptV; rw [List.getElem?_append_right (by simp [h])]; simp [h]
theorem ptV_at {p : List UInt8 × Int} (h : p.1.length = 32) {k : Nat} (hk : k < 32) : (ptV p)[k]? = some (.int .u8 (b8 (p.1[k]?.getD 0))) := by
  unfold ptV; rw [List.getElem?_append_left (by simp [h, hk]), List.getElem?_map, List.getElem?_eq_getElem (by omega)]; rfl
theorem Blk.ptSl {w : World} {g : Nat} {t : TypeId} {p : List UInt8 × Int} (h : Blk w g t (ptV p)) (hl : p.1.length = 32) : Sl w w.heap.size 1 (some ⟨g, 0, none⟩) 32 (p.1.map B) :=
  ⟨by simp [hl], fun _ => ⟨g, 0, rfl, h.lt, fun j u hu => by
    rw [Nat.zero_add]
    refine h.at_ ?_
    have hj : j < (p.1.map B).length := (List.getElem?_eq_some_iff.1 hu).1
    unfold ptV; rw [List.getElem?_append_left hj]; exact hu⟩⟩

def cmpP (p q : List UInt8 × Int) : Int := if Lib.compareBytes p.1 q.1 = 0 then cmpI p.2 q.2 else Lib.compareBytes p.1 q.1

theorem cb_lt : ∀ (k : Nat) (a b : List UInt8), (∀ j, j < k → a[j]?.getD 0 = b[j]?.getD 0) → k < a.length → k < b.length → a[k]?.getD 0 < b[k]?.getD 0 → Lib.compareBytes a b = -1
  | _, [], _, _, h, _, _ => by simp at h
  | _, _ :: _, [], _, _, h, _ => by simp at h
  | 0, x :: a, y :: b, _, _, _, h => by
    have h2 : x < y := by simpa using h
    rw [Lib.compareBytes]; simp [h2]
  | k + 1, x :: a, y :: b, hj, h1, h2, h => by
    have h0 : x = y := by simpa using hj 0 (by omega)
    subst h0
    rw [Lib.compareBytes]
    have := cb_lt k a b (fun j h => by simpa using hj (j + 1) (by omega)) (by simpa using h1) (by simpa using h2) (by simpa using h)
    simp [this]
theorem cb_gt : ∀ (k : Nat) (a b : List UInt8), (∀ j, j < k → a[j]?.getD 0 = b[j]?.getD 0) → k < a.length → k < b.length → b[k]?.getD 0 < a[k]?.getD 0 → Lib.compareBytes a b = 1
  | _, [], _, _, h, _, _ => by simp at h
  | _, _ :: _, [], _, _, h, _ => by simp at h
  | 0, x :: a, y :: b, _, _, _, h => by
    have h2 : y < x := by simpa using h
    have h3 : ¬ x < y := UInt8.lt_asymm h2
    rw [Lib.compareBytes]; simp [h2, h3]
  | k + 1, x :: a, y :: b, hj, h1, h2, h => by
    have h0 : x = y := by simpa using hj 0 (by omega)
    subst h0
    rw [Lib.compareBytes]
    have := cb_gt k a b (fun j h => by simpa using hj (j + 1) (by omega)) (by simpa using h1) (by simpa using h2) (by simpa using h)
    simp [this]
theorem cb_self : ∀ (a : List UInt8), Lib.compareBytes a a = 0
  | [] => by rw [Lib.compareBytes]
  | x :: a => by rw [Lib.compareBytes]; simp [cb_self a]
theorem eq_of_getD {a b : List UInt8} {n : Nat} (ha : a.length = n) (hb : b.length = n) (h : ∀ j, j < n → a[j]?.getD 0 = b[j]?.getD 0) : a = b := by
  apply List.ext_getElem (by omega)
  intro j h1 h2
  have := h j (by omega)
  rw [List.getElem?_eq_getElem h1, List.getElem?_eq_getElem h2] at this
  exact this
theorem b8_lt {x y : UInt8} : b8 x < b8 y ↔ x < y := by unfold b8; rw [UInt8.lt_iff_toNat_lt]; omega

set_option maxRecDepth 100000 in
set_option maxHeartbeats 1000000 in
theorem rccmp_any (p q : List UInt8 × Int) (w : World) (hp : p.1.length = 32) (hq : q.1.length = 32) :
    Calls Try.prog 33 #[.agg (ptV p).toArray, .agg (ptV q).toArray] w fun e w' => e = .returned (.int .i64 (cmpP p q)) ∧ Below w.heap.size w w' := by
  obtain ⟨xs, hxs⟩ : ∃ xs, xs = ptV p := ⟨_, rfl⟩
  obtain ⟨ys, hys⟩ : ∃ ys, ys = ptV q := ⟨_, rfl⟩
  obtain ⟨z, hz⟩ : ∃ z, z = cmpP p q := ⟨_, rfl⟩
  rw [← hxs, ← hys, ← hz]
  have HZ := Lib.hid hz; clear hz
  have HX := Lib.hid hxs; have HY := Lib.hid hys
  have HP := Lib.hid hp; have HQ := Lib.hid hq
  clear hxs hys hp hq
  go_enter Try.func33, Try.ntmps33
  go_wp2_with (first | (with_reducible refine wpl_box (o := ⟨some 2, _, _, _, _, _⟩) rfl rfl rfl ?_))
  intro w1 hb1 hbw1 hsz1
  generalize hgd : w.heap.size = g at *
  go_wp2_with (first | (with_reducible refine wpl_box (o := ⟨some 3, _, _, _, _, _⟩) rfl rfl rfl ?_))
  intro w2 hb2 hbw2 hsz2
  have H2 := Lib.hid hb2
  have H1 := Lib.hid (hb1.below hbw2 (by omega))
  have HBW := Lib.hid (hbw1.trans (hbw2.mono (by omega)))
  have HG := Lib.hid hgd
  clear hb1 hb2 hbw1 hbw2 hsz1 hsz2 hgd
  generalize g + 1 = g2 at *
  go_wp2_with fail
  go_loopw [5] (fun i wr => ∃ k : Nat, k ≤ 32 ∧ i = .int .i64 k ∧ Hid (∀ j, j < k → p.1[j]?.getD 0 = q.1[j]?.getD 0) ∧ Hid (Drawn w2 wr)) (fun i _ => 32 - (intOf i).toNat)
  case atStart => exact ⟨0, by omega, rfl, fun j hj => absurd hj (by omega), Drawn.refl _⟩
  case round =>
    obtain ⟨k, hk, rfl, HE, HD⟩ := hrel
    by_cases hlt : k < 32
    · have c1 : wr.cell? ⟨g, k, none⟩ = some (.int .u8 (b8 (p.1[k]?.getD 0))) := (HD.out.cell _).trans (H1.out.at_ (by rw [HX.out]; exact ptV_at HP.out hlt))
      have c2 : wr.cell? ⟨g2, k, none⟩ = some (.int .u8 (b8 (q.1[k]?.getD 0))) := (HD.out.cell _).trans (H2.out.at_ (by rw [HY.out]; exact ptV_at HQ.out hlt))
      generalize hx : p.1[k]?.getD 0 = x at *
      generalize hy : q.1[k]?.getD 0 = y at *
      have HX2 := Lib.hid hx; have HY2 := Lib.hid hy
      clear hx hy
      have gk : (k : Int) < 32 := by omega
      by_cases h1 : b8 x < b8 y
      · repeat' (first | (with_reducible refine wp_region_quiet_lit (id := 4) (by kernel_rfl) (by kernel_rfl) ?_) | go_values | go_skip | go_guarded | go_step | go_upon | go_back)
        repeat (quiet_step (fail))
        refine wpQuiet_nil ?_
        intro _ hw'
        obtain ⟨nq, hw''⟩ := hw'
        subst hw''
        go_wp2_with fail
        go_ret
        have e : Lib.compareBytes p.1 q.1 = -1 := cb_lt k _ _ HE.out (by rw [HP.out]; exact hlt) (by rw [HQ.out]; exact hlt) (by rw [HX2.out, HY2.out]; exact b8_lt.1 h1)
        exact ⟨ret_int (by rw [HZ.out, cmpP, e]; rfl), by rw [HG.out]; exact (Drawn.n _ _).below (HD.out.below HBW.out)⟩
      · repeat' (first | (with_reducible refine wp_region_quiet_lit (id := 4) (by kernel_rfl) (by kernel_rfl) ?_) | go_values | go_skip | go_guarded | go_step | go_upon | go_back)
        repeat (quiet_step (fail))
        refine wpQuiet_nil ?_
        intro _ hw'
        obtain ⟨nq, hw''⟩ := hw'
        subst hw''
        clear c1 c2
        have hd2 : Drawn w2 (wr.drewN nq) := HD.out.trans ⟨nq, rfl⟩
        generalize wr.drewN nq = wr1 at hd2 ⊢
        have c1 : wr1.cell? ⟨g, k, none⟩ = some (.int .u8 (b8 x)) := (hd2.cell _).trans (H1.out.at_ (by rw [HX.out]; exact (ptV_at HP.out hlt).trans (by rw [HX2.out])))
        have c2 : wr1.cell? ⟨g2, k, none⟩ = some (.int .u8 (b8 y)) := (hd2.cell _).trans (H2.out.at_ (by rw [HY.out]; exact (ptV_at HQ.out hlt).trans (by rw [HY2.out])))
        have HD2 := Lib.hid hd2
        clear hd2 HD
        by_cases h2 : b8 y < b8 x
        · repeat' (first | (with_reducible refine wp_region_quiet_lit (id := 6) (by kernel_rfl) (by kernel_rfl) ?_) | go_values | go_skip | go_guarded | go_step | go_upon | go_back)
          repeat (quiet_step (fail))
          refine wpQuiet_nil ?_
          intro _ hw'
          obtain ⟨nq, hw''⟩ := hw'
          subst hw''
          go_wp2_with fail
          go_ret
          have e : Lib.compareBytes p.1 q.1 = 1 := cb_gt k _ _ HE.out (by rw [HP.out]; exact hlt) (by rw [HQ.out]; exact hlt) (by rw [HX2.out, HY2.out]; exact b8_lt.1 h2)
          exact ⟨ret_int (by rw [HZ.out, cmpP, e]; rfl), by rw [HG.out]; exact (Drawn.n _ _).below (HD2.out.below HBW.out)⟩
        · repeat' (first | (with_reducible refine wp_region_quiet_lit (id := 6) (by kernel_rfl) (by kernel_rfl) ?_) | go_values | go_skip | go_guarded | go_step | go_upon | go_back)
          repeat (quiet_step (fail))
          refine wpQuiet_nil ?_
          intro _ hw'
          obtain ⟨nq, hw''⟩ := hw'
          subst hw''
          clear c1 c2
          have HD3 := Lib.hid (HD2.out.trans ⟨nq, rfl⟩)
          have e : x = y := b8_inj (by omega)
          go_wp2_with fail
          go_roundw
          case rel => exact ⟨k + 1, by omega, by go_num, fun j hj => by
            by_cases hjk : j = k
            · subst hjk; rw [HX2.out, HY2.out, e]
            · exact HE.out j (by omega), HD3.out⟩
          case measure => simp [intOf]; omega
    · obtain rfl : k = 32 := by omega
      have e := eq_of_getD HP.out HQ.out HE.out
      have e2 : z = cmpI p.2 q.2 := by rw [HZ.out, cmpP, e, cb_self, if_pos rfl]
      have HE2 := Lib.hid e2
      clear e e2 HZ
      have c1 : wr.cell? ⟨g, 32, none⟩ = some (.int .i64 p.2) := (HD.out.cell _).trans (H1.out.at_ (by rw [HX.out]; exact ptV_ix HP.out))
      have c2 : wr.cell? ⟨g2, 32, none⟩ = some (.int .i64 q.2) := (HD.out.cell _).trans (H2.out.at_ (by rw [HY.out]; exact ptV_ix HQ.out))
      generalize p.2 = u at *
      generalize q.2 = v at *
      obtain ⟨wo, rfl⟩ : ∃ wo : World, wo = wr := ⟨_, rfl⟩
      have HBF := Lib.hid (HD.out.below HBW.out)
      by_cases h1 : u < v
      · go_wp2_with fail
        go_ret
        exact ⟨ret_int (by rw [HE2.out, cmpI, if_pos h1]), by rw [HG.out]; exact HBF.out⟩
      · by_cases h2 : v < u
        · go_wp2_with fail
          go_ret
          exact ⟨ret_int (by rw [HE2.out, cmpI, if_neg (by omega), if_pos h2]), by rw [HG.out]; exact HBF.out⟩
        · go_wp2_with fail
          go_ret
          exact ⟨ret_int (by rw [HE2.out, cmpI, if_neg (by omega), if_neg (by omega)]), by rw [HG.out]; exact HBF.out⟩
end Go.Proofs.Ytofhohofaedokaa

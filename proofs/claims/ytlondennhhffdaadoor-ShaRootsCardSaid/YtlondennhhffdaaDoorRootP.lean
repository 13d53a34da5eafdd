/- The constants of the document's digests, found anew: plain functions, looked at by the kernel. No program in sight but the tables. -/
import Derived.Test.YtlondennhhffdaaDoorRefA
namespace Go.Proofs.YtlondennhhffdaaDoor
open Go.RowKit Go.Shelf

def dg (x : Nat) : Nat → List Nat
  | 0 => []
  | k + 1 => dg x k ++ [x / 65536 ^ k % 65536]
theorem dg_len (x k : Nat) : (dg x k).length = k := by induction k with | zero => rfl | succ k ih => simp [dg, ih]
theorem dg_lt (x k : Nat) : ∀ d ∈ dg x k, d < 65536 := by
  induction k with
  | zero => intro d hd; cases hd
  | succ k ih =>
    intro d hd
    rcases List.mem_append.1 hd with h | h
    · exact ih d h
    · simp only [List.mem_singleton] at h; subst h; exact Nat.mod_lt _ (by omega)
/-- One step of a row of a product: out and what is carried. -/
def innerS (a : Nat) (b : List Nat) (i k : Nat) : List Nat × Nat → List Nat × Nat
  | (o, c) => (o.set (i + k) ((o.getD (i + k) 0 + a * b.getD k 0 + c) % 65536), (o.getD (i + k) 0 + a * b.getD k 0 + c) / 65536)
def innerB (a : Nat) (b : List Nat) (i : Nat) (out : List Nat) : Nat → List Nat × Nat
  | 0 => (out, 0)
  | k + 1 => innerS a b i k (innerB a b i out k)
theorem innerB_succ (a : Nat) (b : List Nat) (i : Nat) (out : List Nat) (k : Nat) : innerB a b i out (k + 1) = ((innerB a b i out k).1.set (i + k) (((innerB a b i out k).1.getD (i + k) 0 + a * b.getD k 0 + (innerB a b i out k).2) % 65536), ((innerB a b i out k).1.getD (i + k) 0 + a * b.getD k 0 + (innerB a b i out k).2) / 65536) := rfl
def outerS (i n : Nat) : List Nat × Nat → List Nat
  | (o, c) => o.set (i + n) c
def outerB (a b : List Nat) : Nat → List Nat
  | 0 => List.replicate (a.length + b.length) 0
  | i + 1 => outerS i b.length (innerB (a.getD i 0) b i (outerB a b i) b.length)
theorem outerB_succ (a b : List Nat) (i : Nat) : outerB a b (i + 1) = (innerB (a.getD i 0) b i (outerB a b i) b.length).1.set (i + b.length) (innerB (a.getD i 0) b i (outerB a b i) b.length).2 := rfl
def timesB (a b : List Nat) : List Nat := outerB a b a.length
def Small (l : List Nat) : Prop := ∀ j, l.getD j 0 < 65536
theorem Small.set {l : List Nat} {i v : Nat} (h : Small l) (hv : v < 65536) : Small (l.set i v) := by
  intro j
  rw [List.getD_eq_getElem?_getD, List.getElem?_set]
  split
  · split
    · exact hv
    · simp
  · have := h j; rw [List.getD_eq_getElem?_getD] at this; exact this
theorem mul_le (a b : Nat) (ha : a < 65536) (hb : b < 65536) : a * b ≤ 4294836225 := by
  have : a * b ≤ 65535 * 65535 := Nat.mul_le_mul (by omega) (by omega)
  omega
theorem inner_small {a i : Nat} {b out : List Nat} (ha : a < 65536) (hb : Small b) (ho : Small out) : ∀ k, Small (innerB a b i out k).1 ∧ (innerB a b i out k).2 < 65536
  | 0 => ⟨ho, by simp [innerB]⟩
  | k + 1 => by
    obtain ⟨h1, h2⟩ := inner_small ha hb ho k
    have h3 := h1 (i + k)
    have h4 := mul_le a (b.getD k 0) ha (hb k)
    rw [innerB_succ]
    exact ⟨h1.set (Nat.mod_lt _ (by omega)), by simp only; omega⟩
theorem inner_len {a i : Nat} {b out : List Nat} : ∀ k, (innerB a b i out k).1.length = out.length
  | 0 => rfl
  | k + 1 => by rw [innerB_succ]; simp only [List.length_set]; exact inner_len k
theorem outer_small {a b : List Nat} (ha : Small a) (hb : Small b) : ∀ i, Small (outerB a b i)
  | 0 => fun j => by
    unfold outerB
    rw [List.getD_eq_getElem?_getD, List.getElem?_replicate]
    split <;> simp
  | i + 1 => by
    rw [outerB_succ]
    obtain ⟨h1, h2⟩ := inner_small (i := i) (ha i) hb (outer_small ha hb i) b.length
    exact h1.set h2
theorem outer_len {a b : List Nat} : ∀ i, (outerB a b i).length = a.length + b.length
  | 0 => by simp [outerB]
  | i + 1 => by rw [outerB_succ, List.length_set, inner_len]; exact outer_len i
theorem times_len (a b : List Nat) : (timesB a b).length = a.length + b.length := outer_len _
theorem times_small {a b : List Nat} (ha : Small a) (hb : Small b) : Small (timesB a b) := outer_small ha hb _
theorem dg_small (x k : Nat) : Small (dg x k) := by
  intro j
  rw [List.getD_eq_getElem?_getD]
  cases h : (dg x k)[j]? with
  | none => simp
  | some d => exact dg_lt x k d (List.mem_of_getElem? h)
def powB (a : List Nat) : Nat → List Nat
  | 0 => [1]
  | k + 1 => timesB (powB a k) a
theorem pow_len (a : List Nat) : ∀ k, (powB a k).length = 1 + k * a.length
  | 0 => by simp [powB]
  | k + 1 => by unfold powB; rw [times_len, pow_len a k, Nat.succ_mul]; omega
theorem pow_small {a : List Nat} (ha : Small a) : ∀ k, Small (powB a k)
  | 0 => fun j => by
    rcases j with _ | j
    · show (1 : Nat) < 65536; omega
    · show (0 : Nat) < 65536; omega
  | k + 1 => by unfold powB; exact times_small (pow_small ha k) ha
/-- Compares from the place n downward. -/
def cmpB (v w : List Nat) : Nat → Bool
  | 0 => true
  | i + 1 => if v.getD i 0 = w.getD i 0 then cmpB v w i else decide (v.getD i 0 < w.getD i 0)
def wB (p k : Nat) : List Nat := List.replicate (2 * k) 0 ++ dg p 4
def belowB (x p k : Nat) : Bool := cmpB (powB (dg x 4) k) (wB p k) (max (1 + k * 4) (2 * k + 4))
/-- The bits of a root: j of them looked at. -/
def rootB (whole p k : Nat) : Nat → Nat
  | 0 => 0
  | j + 1 => if belowB (whole * 4294967296 + (rootB whole p k j + 2 ^ (31 - j))) p k then rootB whole p k j + 2 ^ (31 - j) else rootB whole p k j
/-- The whole part of a root. -/
def wholeB (p k : Nat) : Nat → Nat → Nat
  | 0, r => r
  | f + 1, r => if (r + 1) ^ k ≤ p then wholeB p k f (r + 1) else r
def primeB (n : Nat) : Bool := decide (1 < n) && (List.range n).all fun d => !(decide (2 ≤ d) && decide (d * d ≤ n) && n % d == 0)
/-- A constant. -/
def rootOf (k p : Nat) : Nat := rootB (wholeB p k 20 1) p k 32
def primesB : Nat → List Nat
  | 0 => []
  | n + 1 => if primeB n then primesB n ++ [n] else primesB n
/-- The constants among the numbers below n. -/
def constB (k n : Nat) : List Nat := (primesB n).map (rootOf k)
theorem rt2_2 : rootOf 2 2 = 1779033703 := by decide +kernel
theorem rt2_3 : rootOf 2 3 = 3144134277 := by decide +kernel
theorem rt2_5 : rootOf 2 5 = 1013904242 := by decide +kernel
theorem rt2_7 : rootOf 2 7 = 2773480762 := by decide +kernel
theorem rt2_11 : rootOf 2 11 = 1359893119 := by decide +kernel
theorem rt2_13 : rootOf 2 13 = 2600822924 := by decide +kernel
theorem rt2_17 : rootOf 2 17 = 528734635 := by decide +kernel
theorem rt2_19 : rootOf 2 19 = 1541459225 := by decide +kernel
theorem rt3_2 : rootOf 3 2 = 1116352408 := by decide +kernel
theorem rt3_3 : rootOf 3 3 = 1899447441 := by decide +kernel
theorem rt3_5 : rootOf 3 5 = 3049323471 := by decide +kernel
theorem rt3_7 : rootOf 3 7 = 3921009573 := by decide +kernel
theorem rt3_11 : rootOf 3 11 = 961987163 := by decide +kernel
theorem rt3_13 : rootOf 3 13 = 1508970993 := by decide +kernel
theorem rt3_17 : rootOf 3 17 = 2453635748 := by decide +kernel
theorem rt3_19 : rootOf 3 19 = 2870763221 := by decide +kernel
theorem rt3_23 : rootOf 3 23 = 3624381080 := by decide +kernel
theorem rt3_29 : rootOf 3 29 = 310598401 := by decide +kernel
theorem rt3_31 : rootOf 3 31 = 607225278 := by decide +kernel
theorem rt3_37 : rootOf 3 37 = 1426881987 := by decide +kernel
theorem rt3_41 : rootOf 3 41 = 1925078388 := by decide +kernel
theorem rt3_43 : rootOf 3 43 = 2162078206 := by decide +kernel
theorem rt3_47 : rootOf 3 47 = 2614888103 := by decide +kernel
theorem rt3_53 : rootOf 3 53 = 3248222580 := by decide +kernel
theorem rt3_59 : rootOf 3 59 = 3835390401 := by decide +kernel
theorem rt3_61 : rootOf 3 61 = 4022224774 := by decide +kernel
theorem rt3_67 : rootOf 3 67 = 264347078 := by decide +kernel
theorem rt3_71 : rootOf 3 71 = 604807628 := by decide +kernel
theorem rt3_73 : rootOf 3 73 = 770255983 := by decide +kernel
theorem rt3_79 : rootOf 3 79 = 1249150122 := by decide +kernel
theorem rt3_83 : rootOf 3 83 = 1555081692 := by decide +kernel
theorem rt3_89 : rootOf 3 89 = 1996064986 := by decide +kernel
theorem rt3_97 : rootOf 3 97 = 2554220882 := by decide +kernel
theorem rt3_101 : rootOf 3 101 = 2821834349 := by decide +kernel
theorem rt3_103 : rootOf 3 103 = 2952996808 := by decide +kernel
theorem rt3_107 : rootOf 3 107 = 3210313671 := by decide +kernel
theorem rt3_109 : rootOf 3 109 = 3336571891 := by decide +kernel
theorem rt3_113 : rootOf 3 113 = 3584528711 := by decide +kernel
theorem rt3_127 : rootOf 3 127 = 113926993 := by decide +kernel
theorem rt3_131 : rootOf 3 131 = 338241895 := by decide +kernel
theorem rt3_137 : rootOf 3 137 = 666307205 := by decide +kernel
theorem rt3_139 : rootOf 3 139 = 773529912 := by decide +kernel
theorem rt3_149 : rootOf 3 149 = 1294757372 := by decide +kernel
theorem rt3_151 : rootOf 3 151 = 1396182291 := by decide +kernel
theorem rt3_157 : rootOf 3 157 = 1695183700 := by decide +kernel
theorem rt3_163 : rootOf 3 163 = 1986661051 := by decide +kernel
theorem rt3_167 : rootOf 3 167 = 2177026350 := by decide +kernel
theorem rt3_173 : rootOf 3 173 = 2456956037 := by decide +kernel
theorem rt3_179 : rootOf 3 179 = 2730485921 := by decide +kernel
theorem rt3_181 : rootOf 3 181 = 2820302411 := by decide +kernel
theorem rt3_191 : rootOf 3 191 = 3259730800 := by decide +kernel
theorem rt3_193 : rootOf 3 193 = 3345764771 := by decide +kernel
theorem rt3_197 : rootOf 3 197 = 3516065817 := by decide +kernel
theorem rt3_199 : rootOf 3 199 = 3600352804 := by decide +kernel
theorem rt3_211 : rootOf 3 211 = 4094571909 := by decide +kernel
theorem rt3_223 : rootOf 3 223 = 275423344 := by decide +kernel
theorem rt3_227 : rootOf 3 227 = 430227734 := by decide +kernel
theorem rt3_229 : rootOf 3 229 = 506948616 := by decide +kernel
theorem rt3_233 : rootOf 3 233 = 659060556 := by decide +kernel
theorem rt3_239 : rootOf 3 239 = 883997877 := by decide +kernel
theorem rt3_241 : rootOf 3 241 = 958139571 := by decide +kernel
theorem rt3_251 : rootOf 3 251 = 1322822218 := by decide +kernel
theorem rt3_257 : rootOf 3 257 = 1537002063 := by decide +kernel
theorem rt3_263 : rootOf 3 263 = 1747873779 := by decide +kernel
theorem rt3_269 : rootOf 3 269 = 1955562222 := by decide +kernel
theorem rt3_271 : rootOf 3 271 = 2024104815 := by decide +kernel
theorem rt3_277 : rootOf 3 277 = 2227730452 := by decide +kernel
theorem rt3_281 : rootOf 3 281 = 2361852424 := by decide +kernel
theorem rt3_283 : rootOf 3 283 = 2428436474 := by decide +kernel
theorem rt3_293 : rootOf 3 293 = 2756734187 := by decide +kernel
theorem rt3_307 : rootOf 3 307 = 3204031479 := by decide +kernel
theorem rt3_311 : rootOf 3 311 = 3329325298 := by decide +kernel
theorem primes20 : primesB 20 = [2, 3, 5, 7, 11, 13, 17, 19] := by decide +kernel
theorem primes312 : primesB 312 = [2, 3, 5, 7, 11, 13, 17, 19, 23, 29, 31, 37, 41, 43, 47, 53, 59, 61, 67, 71, 73, 79, 83, 89, 97, 101, 103, 107, 109, 113, 127, 131, 137, 139, 149, 151, 157, 163, 167, 173, 179, 181, 191, 193, 197, 199, 211, 223, 227, 229, 233, 239, 241, 251, 257, 263, 269, 271, 277, 281, 283, 293, 307, 311] := by decide +kernel
theorem first_const : constB 2 20 = firstSt.toList.map UInt32.toNat := by
  unfold constB
  rw [primes20]
  simp only [List.map_cons, List.map_nil, rt2_2, rt2_3, rt2_5, rt2_7, rt2_11, rt2_13, rt2_17, rt2_19]
  rfl
theorem rounds_const : constB 3 312 = roundKs.map UInt32.toNat := by
  unfold constB
  rw [primes312]
  simp only [List.map_cons, List.map_nil, rt3_2, rt3_3, rt3_5, rt3_7, rt3_11, rt3_13, rt3_17, rt3_19, rt3_23, rt3_29, rt3_31, rt3_37, rt3_41, rt3_43, rt3_47, rt3_53, rt3_59, rt3_61, rt3_67, rt3_71, rt3_73, rt3_79, rt3_83, rt3_89, rt3_97, rt3_101, rt3_103, rt3_107, rt3_109, rt3_113, rt3_127, rt3_131, rt3_137, rt3_139, rt3_149, rt3_151, rt3_157, rt3_163, rt3_167, rt3_173, rt3_179, rt3_181, rt3_191, rt3_193, rt3_197, rt3_199, rt3_211, rt3_223, rt3_227, rt3_229, rt3_233, rt3_239, rt3_241, rt3_251, rt3_257, rt3_263, rt3_269, rt3_271, rt3_277, rt3_281, rt3_283, rt3_293, rt3_307, rt3_311]
  decide +kernel
end Go.Proofs.YtlondennhhffdaaDoor

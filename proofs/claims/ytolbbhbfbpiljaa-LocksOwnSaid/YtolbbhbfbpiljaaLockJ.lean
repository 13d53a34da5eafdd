/- Plain facts for LocksFull; an argument opened: a digest. -/
import Derived.Test.YtolbbhbfbpiljaaLockI
import Derived.Test.YtolbbhbfbpiljaaOpenB
namespace Go.Proofs.Ytolbbhbfbpiljaa
open Go.RowKit Go.Sort Go.ChangeShapes Go.WideShapes
set_option linter.unusedVariables false
set_option maxRecDepth 100000
section
variable {H : Type} {enc : TypeId × Value → H} {w : World} {r : Reach} {b0 base : Nat} {spare : Nat → Bool} {held : Bool}
theorem open_aid {v : Value} {d : DataW H} {ps : List MemPlace} (hval : Value.okWide Try.prog w r b0 29 v) (h : DataW.Trod enc Try.prog w base spare held 29 v d ps) :
    ∃ ds : List UInt8, v = .agg (ds.map B).toArray ∧ ds.length = 32 :=
  open_arr32 Try.underlying29 Try.underlying5 (by kernel_rfl) (by kernel_rfl) hval h
end
def pk (x : Nat) (i : Int) : PtK := (idx x, i)
def pkV (x i : Int) : Value := .agg (.int .u8 x :: (List.replicate 31 (.int .u8 0) ++ [.int .i64 i])).toArray
theorem ptA_pk (x : Nat) (i : Int) (hx : x < 256) : ptA (pk x i) = pkV x i := by
  unfold ptA ptV pk pkV idx
  simp only [List.map_cons, List.map_replicate, B, b8_ofNatL hx]
  rfl
theorem pk_ok (x : Nat) (i : Int) (h0 : 0 ≤ i) (h1 : i ≤ 9223372036854775807) : PtOK (pk x i) := ⟨by simp [pk, idx], by simp [Lit.wf, IntKind.min, IntKind.max, IntKind.signed, IntKind.bits, pk]; omega⟩
theorem pk_inj {x x' : Nat} {i i' : Int} (hx : x < 256) (hx' : x' < 256) (h : pk x i = pk x' i') : x = x' ∧ i = i' := by
  unfold pk idx at h
  simp only [Prod.mk.injEq, List.cons.injEq] at h
  refine ⟨?_, h.2⟩
  have := congrArg UInt8.toNat h.1.1
  rw [UInt8.toNat_ofNat', UInt8.toNat_ofNat'] at this
  omega
theorem kput4 (g b : Nat) (L : LocksL) (s : Int) (x : Nat) (i : Int) (id : List UInt8) (a : Int) (w : World) (h : LocksAt w g b L s) (hx : x < 256) (h0 : 0 ≤ i) (h1 : i ≤ 9223372036854775807) (hi : id.length = 32) (ha : 0 ≤ a) (ha2 : a ≤ 18446744073709551615) (hs0 : 0 ≤ s) (hs1 : s ≤ 4611686018427387904) (r : Int) (hr : putQ L s (pk x i) (cn a) = r) :
    Calls Try.prog 19 #[.pointer (some ⟨g, 0, none⟩), pkV x i, .agg (id.map B).toArray, coinA (cn a)] w fun e w' => e = .returned (.int .i64 r) ∧ Touched [g, b] w w' ∧
      (r = 0 → LocksAt w' g b (L ++ [(pk x i, (cn a, id))]) (addE s a).1) ∧ (r ≠ 0 → LocksAt w' g b L s) := by
  have := kput_any g b L s (pk x i) id (cn a) w h (pk_ok x i h0 h1) hi (cn_ok a ha ha2) hs0 hs1
  rw [ptA_pk x i hx, hr] at this
  exact this
def firstL (id : List UInt8) (n : Nat) : LocksL := (List.range n).map fun j => (pk j 1, (cn 2, id))
theorem firstL_succ (id : List UInt8) (n : Nat) : firstL id (n + 1) = firstL id n ++ [(pk n 1, (cn 2, id))] := by unfold firstL; rw [List.range_succ]; simp
theorem firstL_length (id : List UInt8) (n : Nat) : (firstL id n).length = n := by simp [firstL]
theorem lookL_no {L : LocksL} {p : PtK} (h : ∀ e ∈ L, e.1 ≠ p) : lookL L p = none := by
  unfold lookL
  rw [List.find?_eq_none.2 (fun e he => by simpa using h e he)]; rfl
theorem firstL_none {id : List UInt8} {n x : Nat} {i : Int} (hn : n ≤ 63) (hx : x < 256) (h : n ≤ x) : ∀ e ∈ firstL id n, e.1 ≠ pk x i := by
  intro e he h2
  obtain ⟨j, hj, rfl⟩ := List.mem_map.1 he
  have hj : j < n := by simpa using hj
  obtain ⟨e1, _⟩ := pk_inj (by omega) hx h2
  omega
theorem putQ_step (id : List UInt8) (k : Nat) (hk : k < 63) : putQ (firstL id k) (2 * k) (pk k 1) (cn 2) = 0 ∧ addE (2 * k) 2 = (2 * (k : Int) + 2, 0) := by
  have e : addE (2 * k) 2 = (2 * (k : Int) + 2, 0) := by unfold addE; rw [if_pos (by omega)]
  refine ⟨?_, e⟩
  unfold putQ
  rw [if_neg (by simp [pk, cn]), lookL_no (firstL_none (by omega) (by omega) (Nat.le_refl k)), firstL_length, if_neg (by simp), if_neg (by omega)]
  show (addE (2 * k) 2).2 = 0
  rw [e]
def wantK (big : Int) : Int := if big = 0 ∨ 4611686018427387904 < big then 5 else if 4611686018427387778 < big then 6 else 0
theorem putQ_big (id : List UInt8) (big : Int) (h0 : 0 ≤ big) : putQ (firstL id 63) 126 (pk 99 0) (cn big) = wantK big ∧ (wantK big = 0 → (addE 126 big).1 = 126 + big) := by
  have hp : (pk 99 0).2 = 0 := rfl
  have hc : (cn big).2 = big := rfl
  unfold putQ wantK
  rw [lookL_no (firstL_none (by omega) (by omega) (by omega)), firstL_length, hc]
  constructor
  · by_cases h1 : big = 0 ∨ 4611686018427387904 < big
    · rw [if_pos h1, if_pos (by rw [hp]; omega)]
    · rw [if_neg h1, if_neg (by rw [hp]; omega), if_neg (by simp), if_neg (by omega)]
      unfold addE
      by_cases h2 : 4611686018427387778 < big
      · rw [if_pos h2, if_neg (by omega)]
      · rw [if_neg h2, if_pos (by omega)]
  · intro h
    unfold addE
    by_cases h1 : big = 0 ∨ 4611686018427387904 < big
    · rw [if_pos h1] at h; omega
    · rw [if_neg h1] at h
      by_cases h2 : 4611686018427387778 < big
      · rw [if_pos h2] at h; omega
      · rw [if_pos (by omega)]
def L64 (id : List UInt8) (big : Int) : LocksL := firstL id 63 ++ [(pk 99 0, (cn big, id))]
theorem L64_len (id : List UInt8) (big : Int) : (L64 id big).length = 64 := by unfold L64; rw [List.length_append, firstL_length]; rfl
theorem L64_all (id : List UInt8) (big : Int) : ((L64 id big).filter fun e => decide (e.2.2 = id)) = L64 id big := by
  refine List.filter_eq_self.2 fun e he => ?_
  unfold L64 at he
  rcases List.mem_append.1 he with he | he
  · obtain ⟨j, _, rfl⟩ := List.mem_map.1 he; simp
  · rw [List.mem_singleton.1 he]; simp
theorem putQ_full (id : List UInt8) (big : Int) : putQ (L64 id big) (126 + big) (pk 98 0) (cn 1) = 18 := by
  unfold putQ
  have hn : lookL (L64 id big) (pk 98 0) = none := lookL_no fun e he => by
    unfold L64 at he
    rcases List.mem_append.1 he with he | he
    · exact firstL_none (by omega) (by omega) (by omega) e he
    · rw [List.mem_singleton.1 he]
      intro h
      have := (pk_inj (by omega) (by omega) h).1
      omega
  rw [if_neg (by simp [pk, cn]), hn, if_neg (by simp), L64_len, if_pos (by omega)]
end Go.Proofs.Ytolbbhbfbpiljaa

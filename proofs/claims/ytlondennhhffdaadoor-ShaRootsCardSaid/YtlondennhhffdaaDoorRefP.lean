/- What seisinref03.Sum keeps from round to round; its loops' bodies. -/
import Derived.Test.YtlondennhhffdaaDoorRefA
import Derived.Test.YtlondennhhffdaaDoorTail
namespace Go.Proofs.YtlondennhhffdaaDoor
open Go.RowKit Go.Shelf
set_option linter.unusedVariables false

attribute [local go_sem ↓ high] add_w
attribute [local go_sem high] xor_w and_w or_w not_w shr_w shl_w wrap_b8

theorem all_words (l : List UInt32) : ∀ v ∈ l.map W, v.oneCell' = true := fun v hv => by obtain ⟨x, _, rfl⟩ := List.mem_map.1 hv; rfl

theorem not_sub (x : UInt32) : Op.intArith .sub .u32 4294967295 (w32 x) = pure (.int .u32 (w32 (~~~x))) := by
  have : IntKind.u32.wrap (4294967295 - w32 x) = w32 (~~~x) := by
    have h1 : (~~~x).toNat = 4294967295 - x.toNat := by rw [UInt32.toNat_not]; rfl
    have := x.toNat_lt
    rw [IntKind.wrap_u32]
    unfold w32
    rw [h1]
    omega
  show pure (Value.int .u32 (IntKind.u32.wrap (4294967295 - w32 x))) = _
  rw [this]
attribute [local go_sem ↓ high] not_sub
theorem stN_zero (b : List UInt8) (h : St) : stN b h 0 = h := by rw [stN]
theorem stN_succ (b : List UInt8) (h : St) (k : Nat) : stN b h (k + 1) = roundF (roundKs[k]?.getD 0) (sw b k) (stN b h k) := by rw [stN]
theorem grown_alloc (w : World) (o : Obj) : w.grownBy (w.alloc o) none := ⟨rfl, rfl, rfl, by simp, fun k hk _ => Below.heap_alloc w o k hk⟩

theorem stB_zero (m : List UInt8) : stB m 0 = firstSt := by rw [← stL_range]; show stL m [] = _; rw [stL]; rfl
theorem stB_succ (m : List UInt8) (k : Nat) : stB m (k + 1) = compress roundKs (stB m k) (chunkAt m k) := by
  rw [← stL_range, List.range_succ, stL_snoc, stL_range]
theorem range_snoc {α : Type} (f : Nat → α) (k : Nat) : (List.range (k + 1)).map f = (List.range k).map f ++ [f k] := by rw [List.range_succ]; simp

/-- What a round of the sum leaves as it is; hl: the words of h. -/
structure KeepR (g s1 s2 gm gh nb cm ch : Nat) (m : List UInt8) (hl : List Value) (w V : World) : Prop where
  msg : V.ownsRow (g + 1) 5 1 (.slice (some ⟨gm, 0, none⟩) (64 * nb) cm) (64 * nb) (m.map B)
  hs : V.ownsRow s1 70 1 (.slice (some ⟨gh, 0, none⟩) 8 ch) 8 hl
  res : Blk V g 26 (List.replicate 32 (B 0))
  low : Below g w V
  sz : s2 ≤ V.heap.size
  lm : gm < s2
  lh : gh < s2
  lg : g < s2
  mh : gm < gh
  g0 : g < gh
section
variable {g s1 s2 s3 gm gh nb cm ch : Nat} {m : List UInt8} {hl : List Value} {w V V' : World}
theorem KeepR.grown {row : Option Nat} (h : KeepR g s1 s2 gm gh nb cm ch m hl w V) (hg : V.grownBy V' row) (hr : ∀ k, row = some k → s2 ≤ k) : KeepR g s1 s2 gm gh nb cm ch m hl w V' :=
  ⟨own_kept h.msg hg (fun k hk e => by cases hk; have := hr _ e.symm; have := h.lm; omega), own_kept h.hs hg (fun k hk e => by cases hk; have := hr _ e.symm; have := h.lh; omega),
   h.res.grown hg (fun e => by have := hr _ e.symm; have := h.lg; omega), h.low.grown hg (Nat.le_trans (Nat.le_of_lt h.lg) h.sz) (fun k hk => by have := hr k hk; have := h.lg; omega), Nat.le_trans h.sz hg.size, h.lm, h.lh, h.lg, h.mh, h.g0⟩
theorem KeepR.drawn (h : KeepR g s1 s2 gm gh nb cm ch m hl w V) (hd : Drawn V V') : KeepR g s1 s2 gm gh nb cm ch m hl w V' :=
  ⟨hd.own h.msg, hd.own h.hs, hd.blk h.res, hd.below h.low, by rw [hd.size]; exact h.sz, h.lm, h.lh, h.lg, h.mh, h.g0⟩
theorem KeepR.more (h : KeepR g s1 s2 gm gh nb cm ch m hl w V) (h1 : s2 ≤ s3) (h2 : s3 ≤ V.heap.size) : KeepR g s1 s3 gm gh nb cm ch m hl w V :=
  ⟨h.msg, h.hs, h.res, h.low, h2, Nat.lt_of_lt_of_le h.lm h1, Nat.lt_of_lt_of_le h.lh h1, Nat.lt_of_lt_of_le h.lg h1, h.mh, h.g0⟩
theorem KeepR.less (h : KeepR g s1 s3 gm gh nb cm ch m hl w V) (h1 : s2 ≤ s3) (lm : gm < s2) (lh : gh < s2) (lg : g < s2) : KeepR g s1 s2 gm gh nb cm ch m hl w V :=
  ⟨h.msg, h.hs, h.res, h.low, Nat.le_trans h1 h.sz, lm, lh, lg, h.mh, h.g0⟩
theorem KeepR.store (h : KeepR g s1 s2 gm gh nb cm ch m hl w V) (k : Nat) (v : Value) : KeepR g s1 s2 gm gh nb cm ch m (hl.set k v) w (V.setCell ⟨gh, k, none⟩ v) :=
  have hg := grown_set V gh k v
  ⟨own_kept h.msg hg (fun j hj e => by cases hj; have := h.mh; cases e; omega), (h.hs.stored k v).1, h.res.grown hg (fun e => by have := h.g0; cases e; omega), h.low.grown hg (Nat.le_trans (Nat.le_of_lt h.lg) h.sz) (fun j hj => by cases hj; exact Nat.le_of_lt h.g0),
   Nat.le_trans h.sz hg.size, h.lm, h.lh, h.lg, h.mh, h.g0⟩
end

theorem range_getD {α : Type} (f : UInt8 → α) (l : List UInt8) (n : Nat) (h : l.length = n) : (List.range n).map (fun i => f (l[i]?.getD 0)) = l.map f := by
  apply List.ext_getElem (by simp [h])
  intro i h1 h2
  have hi : i < l.length := by simpa using h2
  simp [hi]
/-- h added to, as far as k. -/
def upTo8 (s t : St) (k : Nat) (xs : List Value) : Prop := xs.length = 8 ∧ (∀ i, i < k → xs[i]? = some (W ((s.add t).at_ i))) ∧ ∀ i, k ≤ i → i < 8 → xs[i]? = some (W (s.at_ i))
theorem upTo8_zero (s t : St) : upTo8 s t 0 (s.toList.map W) := ⟨rfl, fun i hi => absurd hi (by omega), fun i _ hi => s.get_at i hi⟩
theorem upTo8_all {s t : St} {xs : List Value} (h : upTo8 s t 8 xs) : xs = (s.add t).toList.map W := by
  apply List.ext_getElem?
  intro i
  by_cases hi : i < 8
  · rw [h.2.1 i hi, (s.add t).get_at i hi]
  · rw [List.getElem?_eq_none (by rw [h.1]; omega), List.getElem?_eq_none (by rw [List.length_map, St.length]; omega)]
theorem upTo8_set {s t : St} {k : Nat} {xs : List Value} (h : upTo8 s t k xs) (hk : k < 8) : upTo8 s t (k + 1) (xs.set k (W (s.at_ k + t.at_ k))) := by
  refine ⟨by rw [List.length_set]; exact h.1, fun i hi => ?_, fun i h1 h2 => ?_⟩
  · rw [List.getElem?_set]
    by_cases e : k = i
    · subst e
      rw [if_pos rfl, if_pos (by rw [h.1]; exact hk), St.add_at s t k hk]
    · rw [if_neg e]; exact h.2.1 i (by omega)
  · rw [List.getElem?_set, if_neg (by omega)]
    exact h.2.2 i (by omega) h2
theorem outB_get (s : St) (i : Nat) (hi : i < 32) : (outB s)[i]? = some (beByte (s.at_ (i / 4)).toNat 4 (i % 4)) := by
  have h1 := outB_take s (i / 4) (by omega)
  have hl1 : ((outB s).take (4 * (i / 4))).length = 4 * (i / 4) := by rw [List.length_take, outB_length]; omega
  have h2 : (outB s)[i]? = ((outB s).take (4 * (i / 4 + 1)))[i]? := by rw [List.getElem?_take_of_lt (by omega)]
  rw [h2, h1, List.getElem?_append_right (by rw [hl1]; omega), hl1, show i - 4 * (i / 4) = i % 4 by omega, beBytes, List.getElem?_map, List.getElem?_range (by omega)]
  rfl
def loopsOf : Code → List Code
  | .loop c => c :: loopsOf c
  | .seq a b => loopsOf a ++ loopsOf b
  | .block _ c => loopsOf c
  | .scope c => loopsOf c
  | .cond _ a b => loopsOf a ++ loopsOf b
  | _ => []
noncomputable def rsBody (k : Nat) : Code := ((Tryd.f23.body.map loopsOf).getD []).getD k .skip
end Go.Proofs.YtlondennhhffdaaDoor

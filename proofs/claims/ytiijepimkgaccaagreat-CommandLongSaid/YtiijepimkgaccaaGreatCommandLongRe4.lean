/- Contract of slices.Chunk at []byte: the iterator that it hands back. -/
import Derived.Test.YtiijepimkgaccaaGreatCommandLongRe3
import Derived.RangeFuncNested
import Derived.RangeFuncBound
import Derived.RangeFuncCalls
import Derived.RangeFuncLeaves
import Derived.Shelf.Abstract
import Derived.Shelf.RegionOpen
import Derived.OwnWalkIn
import Derived.TacticsInMore
import Derived.LoopNIn
import Derived.LoopIn
import Derived.Laws.CopyOwn
import Derived.Deep.RegionWith
import Derived.Deep.CutRange
import Derived.Deep.CutBlock
import Derived.Laws.IdiomStrings
import Derived.Lib.SlBytesConst
import Derived.Stop.BytesEq
import Derived.Great.FillDense
import Derived.Laws.Tables
set_option linter.unusedSimpArgs false
set_option linter.unusedVariables false
set_option maxRecDepth 100000
set_option maxHeartbeats 16000000
namespace Go.Proofs.YtiijepimkgaccaaGreat
open Go.RowKit Go.Shelf
theorem i128 : Value.int .u8 128 = B 128 := rfl
theorem i0 : Value.int .u8 0 = B 0 := rfl
theorem zeros_lt (L j : Nat) (h : j < zerosFor L) : (L + 1 + j) % 64 ≠ 56 := by unfold zerosFor at h; omega
theorem zeros_eq (L : Nat) : (L + 1 + zerosFor L) % 64 = 56 := by unfold zerosFor; omega
attribute [local go_sem] Oper.semAt_some
theorem row_ne_blk {V : World} {Bd g : Nat} {t : TypeId} {cs : List Value} {row : Option Nat} (hb : Blk V g t cs) (hr : ∀ r, row = some r → Bd ≤ r ∧ ∃ o : Obj, V.heap[r]? = some o ∧ o.isCells = false) : some g ≠ row := by
 intro e;obtain ⟨_, o, ho, hc⟩ := hr g e.symm;unfold Blk at hb;rw [hb] at ho;cases ho
 cases hc
theorem row_ne_own {V : World} {Bd base : Nat} {e : TypeId} {sz n c g : Nat} {xs : List Value} {row : Option Nat} (h : V.ownsRow base e sz (.slice (some ⟨g, 0, none⟩) n c) n xs) (hr : ∀ r, row = some r → Bd ≤ r ∧ ∃ o : Obj, V.heap[r]? = some o ∧ o.isCells = false) : some g ≠ row := by
 intro he;obtain ⟨_, o, ho, hc⟩ := hr g he.symm;rcases h.2 with ⟨hv, _⟩ | ⟨g', cap, cur, hv, _, hg, _⟩
 ·cases hv
 ·injection hv with hA
  cases hA
  rw [hg] at ho;cases ho
  cases hc
theorem keeps_of_below {V V' : World} (h : Below V.heap.size V V') : KeepsOthers V V' :=
 ⟨h.size, fun k o hk _ => (h.block k (Array.getElem?_eq_some_iff.1 hk).1).trans hk⟩
theorem row_32 : RowT Tryz.prog 32 32 := ⟨_, Tryz.underlying32, by kernel_rfl, by kernel_rfl⟩
theorem len32 {v : Value} : (List.replicate 32 v).length = 32 := by simp
end Go.Proofs.YtiijepimkgaccaaGreat
namespace Go.Proofs.YtiijepimkgaccaaGreat
open Go.RowKit Go.Shelf
attribute [local go_sem ↓ high] add_w
attribute [local go_sem high] xor_w and_w or_w not_w shr_w shl_w wrap_b8
theorem info_u32 : (Tryz.prog.info? 160).map (fun i => (i.zero, i.size, i.bytes)) = some (some (.int .u32 0), 1, 4) := by kernel_rfl
theorem el_u32 : ElemT Tryz.prog 152 160 1 4 := elemT Tryz.underlying152 info_u32 rfl (by omega)
theorem right_any (x : UInt32) (n : Nat) (w : World) (h2 : 1 ≤ n) (h3 : n ≤ 31) :
  Calls Tryz.prog 104 #[.int .u32 (w32 x), .int .i64 n] w fun e w' => e = .returned (.int .u32 (w32 (rotr x (UInt32.ofNat n)))) ∧ ∃ m, w' = w.drewN m := by
 have q0 : 0 ≤ (n : Int) := by omega
 have q1 : (n : Int) ≤ 31 := by omega
 have q2 : IntKind.i64.wrap (32 - (n : Int)) = 32 - (n : Int) := IntWalk.i64_in _ (by omega);have q3 : 0 ≤ 32 - (n : Int) := by omega
 have q4 : 32 - (n : Int) ≤ 31 := by omega
 have q5 : (32 - (n : Int)).toNat = 32 - n := by omega
 go_enter Tryz.func104, Tryz.ntmps104
 repeat' (first | (with_reducible refine wp_region_quiet_lit (id := 1) (by kernel_rfl) (by kernel_rfl) ?_) | go_values | go_skip | go_guarded | go_step | go_upon | go_back)
 repeat (quiet_step (fail))
 refine wpQuiet_nil ?_;intro _ hw';obtain ⟨nq, hw''⟩ := hw';subst hw'';clear q2 q3 q4 q5 q0 q1;go_wp2_with fail;go_ret
 refine ⟨?_, nq, rfl⟩;rw [rotr]
 have e : UInt32.ofNat (32 - n) = 32 - UInt32.ofNat n := by
  apply UInt32.toNat_inj.1
  rw [UInt32.toNat_sub_of_le _ _ (by rw [UInt32.le_iff_toNat_le, UInt32.toNat_ofNat']; simp; omega), UInt32.toNat_ofNat', UInt32.toNat_ofNat'];simp; omega
 rw [← e];simp;rw [IntKind.wrap_u32, shl_nat x _ (by omega), shr_nat x n h3, bits_or_w]
theorem right_k (x : UInt32) (z : Int) (n : UInt32) (k : Nat) (hz : z = (k : Int)) (hn : n = UInt32.ofNat k) (h2 : 1 ≤ k) (h3 : k ≤ 31) (w : World) :
  Calls Tryz.prog 104 #[.int .u32 (w32 x), .int .i64 z] w fun e w' => e = .returned (.int .u32 (w32 (rotr x n))) ∧ ∃ m, w' = w.drewN m := by
 subst hz; subst hn;exact right_any x k w h2 h3
theorem r7 (x : UInt32) (w : World) : Calls Tryz.prog 104 #[.int .u32 (w32 x), .int .i64 7] w fun e w' => e = .returned (.int .u32 (w32 (rotr x 7))) ∧ ∃ m, w' = w.drewN m := right_k x 7 7 7 rfl rfl (by omega) (by omega) w
theorem r18 (x : UInt32) (w : World) : Calls Tryz.prog 104 #[.int .u32 (w32 x), .int .i64 18] w fun e w' => e = .returned (.int .u32 (w32 (rotr x 18))) ∧ ∃ m, w' = w.drewN m := right_k x 18 18 18 rfl rfl (by omega) (by omega) w
theorem r17 (x : UInt32) (w : World) : Calls Tryz.prog 104 #[.int .u32 (w32 x), .int .i64 17] w fun e w' => e = .returned (.int .u32 (w32 (rotr x 17))) ∧ ∃ m, w' = w.drewN m := right_k x 17 17 17 rfl rfl (by omega) (by omega) w
theorem r19 (x : UInt32) (w : World) : Calls Tryz.prog 104 #[.int .u32 (w32 x), .int .i64 19] w fun e w' => e = .returned (.int .u32 (w32 (rotr x 19))) ∧ ∃ m, w' = w.drewN m := right_k x 19 19 19 rfl rfl (by omega) (by omega) w
theorem r2 (x : UInt32) (w : World) : Calls Tryz.prog 104 #[.int .u32 (w32 x), .int .i64 2] w fun e w' => e = .returned (.int .u32 (w32 (rotr x 2))) ∧ ∃ m, w' = w.drewN m := right_k x 2 2 2 rfl rfl (by omega) (by omega) w
theorem r13 (x : UInt32) (w : World) : Calls Tryz.prog 104 #[.int .u32 (w32 x), .int .i64 13] w fun e w' => e = .returned (.int .u32 (w32 (rotr x 13))) ∧ ∃ m, w' = w.drewN m := right_k x 13 13 13 rfl rfl (by omega) (by omega) w
theorem r22 (x : UInt32) (w : World) : Calls Tryz.prog 104 #[.int .u32 (w32 x), .int .i64 22] w fun e w' => e = .returned (.int .u32 (w32 (rotr x 22))) ∧ ∃ m, w' = w.drewN m := right_k x 22 22 22 rfl rfl (by omega) (by omega) w
theorem r6 (x : UInt32) (w : World) : Calls Tryz.prog 104 #[.int .u32 (w32 x), .int .i64 6] w fun e w' => e = .returned (.int .u32 (w32 (rotr x 6))) ∧ ∃ m, w' = w.drewN m := right_k x 6 6 6 rfl rfl (by omega) (by omega) w
theorem r11 (x : UInt32) (w : World) : Calls Tryz.prog 104 #[.int .u32 (w32 x), .int .i64 11] w fun e w' => e = .returned (.int .u32 (w32 (rotr x 11))) ∧ ∃ m, w' = w.drewN m := right_k x 11 11 11 rfl rfl (by omega) (by omega) w
theorem r25 (x : UInt32) (w : World) : Calls Tryz.prog 104 #[.int .u32 (w32 x), .int .i64 25] w fun e w' => e = .returned (.int .u32 (w32 (rotr x 25))) ∧ ∃ m, w' = w.drewN m := right_k x 25 25 25 rfl rfl (by omega) (by omega) w
theorem first_vals : (firstSt.toList.map W) = [.int .u32 1779033703, .int .u32 3144134277, .int .u32 1013904242, .int .u32 2773480762, .int .u32 1359893119, .int .u32 2600822924, .int .u32 528734635, .int .u32 1541459225] := by
 simp [firstSt, St.toList, W, w32]
theorem first_ref (w : World) : Calls Tryz.prog 94 #[] w fun e w' => ∃ g, e = .returned (.slice (some ⟨g, 0, none⟩) 8 8) ∧ Sl w' w'.heap.size 1 (some ⟨g, 0, none⟩) 8 (firstSt.toList.map W) ∧ Below w.heap.size w w' := by
 go_enter Tryz.func94, Tryz.ntmps94
 go_wp2_with fail;go_ret
 refine ⟨_, rfl, ?_, ?_⟩
 ·have h := Sl.lit w (firstSt.toList.map W).toArray 160 8 (sz := 1) (by simp; rfl);rw [first_vals] at h ⊢;have h2 := h.more (B' := (w.heap.size + 1)) (Nat.le_refl _);simpa using h2
 ·exact (Below.refl _ _).alloc (Nat.le_refl _) _
theorem round_vals : (roundKs.map W) = [
  .int .u32 1116352408, .int .u32 1899447441, .int .u32 3049323471, .int .u32 3921009573, .int .u32 961987163, .int .u32 1508970993, .int .u32 2453635748, .int .u32 2870763221, .int .u32 3624381080, .int .u32 310598401, .int .u32 607225278, .int .u32 1426881987, .int .u32 1925078388, .int .u32 2162078206, .int .u32 2614888103, .int .u32 3248222580,
  .int .u32 3835390401, .int .u32 4022224774, .int .u32 264347078, .int .u32 604807628, .int .u32 770255983, .int .u32 1249150122, .int .u32 1555081692, .int .u32 1996064986, .int .u32 2554220882, .int .u32 2821834349, .int .u32 2952996808, .int .u32 3210313671, .int .u32 3336571891, .int .u32 3584528711, .int .u32 113926993, .int .u32 338241895,
  .int .u32 666307205, .int .u32 773529912, .int .u32 1294757372, .int .u32 1396182291, .int .u32 1695183700, .int .u32 1986661051, .int .u32 2177026350, .int .u32 2456956037, .int .u32 2730485921, .int .u32 2820302411, .int .u32 3259730800, .int .u32 3345764771, .int .u32 3516065817, .int .u32 3600352804, .int .u32 4094571909, .int .u32 275423344,
  .int .u32 430227734, .int .u32 506948616, .int .u32 659060556, .int .u32 883997877, .int .u32 958139571, .int .u32 1322822218, .int .u32 1537002063, .int .u32 1747873779, .int .u32 1955562222, .int .u32 2024104815, .int .u32 2227730452, .int .u32 2361852424, .int .u32 2428436474, .int .u32 2756734187, .int .u32 3204031479, .int .u32 3329325298] := by
 simp [roundKs, W, w32]
theorem rounds_ref (w : World) : Calls Tryz.prog 95 #[] w fun e w' => ∃ g, e = .returned (.slice (some ⟨g, 0, none⟩) 64 64) ∧ Sl w' w'.heap.size 1 (some ⟨g, 0, none⟩) 64 (roundKs.map W) ∧ Below w.heap.size w w' := by
 go_enter Tryz.func95, Tryz.ntmps95
 go_wp2_with fail;go_ret
 refine ⟨_, rfl, ?_, ?_⟩
 ·have h := Sl.lit w (roundKs.map W).toArray 160 64 (sz := 1) (by simp; rfl);rw [round_vals] at h ⊢;have h2 := h.more (B' := (w.heap.size + 1)) (Nat.le_refl _);simpa using h2
 ·exact (Below.refl _ _).alloc (Nat.le_refl _) _
end Go.Proofs.YtiijepimkgaccaaGreat
namespace Go.Proofs.YtiijepimkgaccaaGreat
open Go.RowKit Go.Shelf
attribute [local go_sem ↓ high] add_w
attribute [local go_sem high] xor_w and_w or_w not_w shr_w shl_w wrap_b8
def orUpto (a b : List UInt8) (k : Nat) : UInt8 := (List.range k).foldl (fun x i => x ||| ((a[i]?.getD 0) ^^^ (b[i]?.getD 0))) 0
attribute [irreducible] orUpto
attribute [local go_sem high] xor_b or_b
end Go.Proofs.YtiijepimkgaccaaGreat
namespace Go.Proofs.YtiijepimkgaccaaGreat
open Go.RowKit
def addEdge (o : Oper) : Oper := { o with after := o.after.push ⟨0, .data⟩ }
def withE (l : List Oper) (n : Nat) : List Oper := l.modify n addEdge
def start0 (l : List Oper) : Array Bool := (Array.replicate l.length false).setIfInBounds 0 true
def noAfter (l : List Oper) : Bool := match l[0]? with | some o => o.after.isEmpty | none => false
def tail0B (l : List Oper) (n : Nat) : Bool :=
 Region.noSelect l.toArray && Region.free .any l.toArray (Array.replicate l.length false) 0 && (Region.ready .any l.toArray (Array.replicate l.length false)).contains 0
 && Region.noSelect (withE l n).toArray && decide (n < l.length) && decide (1 ≤ n) && Region.sinkB .any (withE l n).toArray n && Region.chainB .any (withE l n).toArray n
 && Region.lexHead .any (withE l n).toArray (l.length - n) (n - 1) 1 (start0 l) && noAfter l
section
variable {P : Program} {l : List Oper} {n : Nat}
theorem withE_at (l : List Oper) (n i : Nat) : (withE l n)[i]? = if i = n then (l[i]?).map addEdge else l[i]? := by
 unfold withE;rw [List.getElem?_modify];by_cases h : n = i
 ·subst h; simp
 ·rw [if_neg (fun e => h e.symm)]; cases l[i]? <;> simp [h]
theorem withE_length (l : List Oper) (n : Nat) : (withE l n).length = l.length := by simp [withE]
theorem yielded_withE (l : List Oper) (n : Nat) (t : Array Value) : yielded (withE l n).toArray t = yielded l.toArray t := by
 funext j
 have h : (((withE l n).toArray[j]?).bind (·.dst)) = ((l.toArray[j]?).bind (·.dst)) := by
  simp only [List.getElem?_toArray, withE_at];split
  ·cases l[j]? <;> rfl
  ·rfl
 unfold yielded;rw [h]
theorem ready_withE {listed : Array Bool} (h0 : listed.getD 0 false = true) (md : Region.Mode) : Region.ready md (withE l n).toArray listed = Region.ready md l.toArray listed := by
 unfold Region.ready;simp only [List.size_toArray, withE_length, List.getElem?_toArray, withE_at]
 apply List.filter_congr
 intro i _;by_cases h : i = n
 ·subst h;rw [if_pos rfl];cases l[i]? with
  | none => rfl
  | some o => simp only [Option.map_some, addEdge, Option.getD_some, Array.all_push, h0, Bool.or_true, Bool.and_true]
 ·rw [if_neg h]
theorem wpOp_withE (Q : Exit → Act → World → Prop) (i : Nat) (K : Act → World → Prop) (a : Act) (w : World) : wpOp P (withE l n).toArray Q i K a w = wpOp P l.toArray Q i K a w := by
 unfold wpOp;simp only [List.getElem?_toArray, withE_at, yielded_withE];by_cases h : i = n
 ·rw [if_pos h]; cases l[i]? <;> rfl
 ·rw [if_neg h]
theorem set_keeps {listed : Array Bool} (h0 : listed.getD 0 false = true) (i : Nat) : (listed.setIfInBounds i true).getD 0 false = true := getD_set_true h0
theorem wpAny_withE (Q : Exit → Act → World → Prop) (md : Region.Mode) : ∀ (f : Nat) (listed : Array Bool) (a : Act) (w : World), listed.getD 0 false = true → wpAny P md (withE l n).toArray Q f listed a w → wpAny P md l.toArray Q f listed a w
 | 0, listed, a, w, h0, h => by unfold wpAny at h ⊢; rw [ready_withE h0] at h; exact h
 | f + 1, listed, a, w, h0, h => by
  unfold wpAny at h ⊢;rw [ready_withE h0] at h;refine ⟨h.1, fun i hi => ?_⟩;have h2 := h.2 i hi;rw [wpOp_withE] at h2;exact wpOp_mono (fun a' w' h3 => wpAny_withE Q md f _ a' w' (set_keeps h0 i) h3) h2
theorem wpList_withE (Q : Exit → Act → World → Prop) : ∀ (m : List Oper) (a : Act) (w : World), wpList P l.toArray Q m a w → wpList P (withE l n).toArray Q m a w
 | [], a, w, h => h
 | o :: m, a, w, h => by
  unfold wpList at h ⊢;rw [yielded_withE];split
  ·rename_i hw;rw [if_pos hw] at h;rcases h with h | h
   ·exact .inl (Oper.wp_mono (fun a w h => wpList_withE Q m a w h) h)
   ·exact .inr h
  ·rename_i hw;rw [if_neg hw] at h;exact wpList_withE Q m _ w h
theorem wpStill_withE {w : World} {Q : Act → Prop} : ∀ (m : List Oper) (a : Act), wpStill P l.toArray w Q m a → wpStill P (withE l n).toArray w Q m a
 | [], a, h => h
 | o :: m, a, h => by
  unfold wpStill at h ⊢;rw [yielded_withE];split
  ·rename_i hw;rw [if_pos hw] at h;exact Oper.still_mono (fun a h => wpStill_withE m a h) h
  ·rename_i hw;rw [if_neg hw] at h;exact wpStill_withE m _ h
theorem wpList_drop (Q : Exit → Act → World → Prop) (a : Act) (w : World) (ops : Array Oper) (h : wpList P ops Q (l.drop n) a w) : wpList P ops Q ((withE l n).drop n) a w := by
 have e : (withE l n).drop n = match l.drop n with | [] => [] | o :: m => addEdge o :: m := by
  apply List.ext_getElem?
  intro i;rw [List.getElem?_drop, withE_at];cases hd : l.drop n with
  | nil =>
   have : l[n + i]? = none := by rw [← List.getElem?_drop, hd]; rfl
   rw [this]; split <;> rfl
  | cons o m =>
   have h2 : l[n + i]? = (o :: m)[i]? := by rw [← List.getElem?_drop, hd]
   rw [h2];cases i with
   | zero => simp
   | succ i => rw [if_neg (by omega)]; rfl
 rw [e];cases hd : l.drop n with
 | nil => rw [hd] at h; exact h
 | cons o m => rw [hd] at h; exact h
theorem wp_tail0 {id : Nat} {Q : Exit → Act → World → Prop} {a : Act} {w : World} {o0 : Oper} {x : Operand} (n : Nat) (hm : P.follows .mixedOrders = true) (h0 : l[0]? = some o0) (hg : o0.guard = none) (hop : o0.op = .move x) (hB : tail0B l n = true)
  (h : ∀ w2, Drawn w w2 → wpStill P l.toArray w2 (fun a' => wpList P l.toArray (NormalOnly Q) (l.drop n) a' w2) ((l.take n).drop 1) (a.put o0.dst (a.eval x))) : (Code.region id l.toArray true).wp P Q a w := by
 refine wp_normal ?_;simp only [tail0B, Bool.and_eq_true, decide_eq_true_eq] at hB;obtain ⟨⟨⟨⟨⟨⟨⟨⟨⟨hsel, hfree⟩, hready⟩, hsel'⟩, hn⟩, hn1⟩, hs⟩, hc⟩, hlex⟩, hna⟩ := hB;have hH := h { w with drawn := w.drawn + 1 } ⟨1, rfl⟩;generalize hw2 : { w with drawn := w.drawn + 1 } = w2 at hH;refine wp_region_any hm ?_;rw [hw2, List.size_toArray];have hy : Yields P l.toArray o0 (a.eval x) a := .inl ⟨by simp [Region.wanted, hg], fun w => by simp [execOp, hop]⟩;obtain ⟨f, hf⟩ : ∃ f, l.length = f + 1 := ⟨l.length - 1, by omega⟩;rw [hf];refine wpAny_take (i := 0) (by simpa using h0) hsel (by rw [← hf]; exact hfree) (by rw [← hf]; exact hready) (fun _ _ _ h => h) hy ?_
 have hst : (start0 l).getD 0 false = true := by
  unfold start0;simp [show 0 < l.length by omega]
 rw [← hf];refine wpAny_withE (n := n) _ _ _ _ _ _ hst ?_;have htl : (((withE l n).take n).drop 1).length = n - 1 := by simp [withE_length]; omega
 have hdl : ((withE l n).drop n).length = l.length - n := by simp [withE_length]
 have inv0 : HeadInv .any (withE l n).toArray n (start0 l) := by
  refine ⟨by simp [start0, withE_length], fun j oj hj hl e he _ => ?_, fun t ht ht2 => ?_⟩
  ·by_cases hj0 : j = 0
   ·subst hj0;rw [List.getElem?_toArray, withE_at, if_neg (by omega), h0] at hj;cases hj
    unfold noAfter at hna;rw [h0] at hna;simp only [Array.isEmpty_iff] at hna;rw [hna] at he; simp at he
   ·exfalso
    unfold start0 at hl;rw [getD_set_ne false (by omega), getD_replicate_false] at hl;cases hl
  ·unfold start0;rw [getD_set_ne true (by omega)];exact getD_in (by simp; simp [withE_length] at ht2; omega) (getD_replicate_false _ _)
 have hhead : ((withE l n).take n).drop 1 = (l.take n).drop 1 := by
  apply List.ext_getElem?
  intro i;rw [List.getElem?_drop, List.getElem?_drop, List.getElem?_take, List.getElem?_take, withE_at];split
  ·rw [if_neg (by omega)]
  ·rfl
 have H := wpAnyL_lex (P := P) (md := .any) (g := l.length - n) hsel' hs hc (by simpa [withE_length] using hn) (((withE l n).take n).drop 1) 1 (start0 l) (a.put o0.dst (a.eval x)) (fun j hj => by
  rw [htl] at hj
  rw [List.getElem?_drop, List.getElem?_take, if_pos (by omega), List.getElem?_toArray]) (by rw [htl]; omega) inv0 (by rw [htl]; exact hlex) (by
   rw [hhead]
   exact wpStill_withE (n := n) _ _ hH)
 have := wpAny_of_head (Q' := NormalOnly Q) (g := l.length - n) (fun listed a' hL => by
  have := wpAny_of_seq (P := P) (md := .any) (Q' := NormalOnly Q) ((withE l n).drop n) n listed a' w2 (fun j => by simp [List.getElem?_drop]) (by rw [hdl]; exact hL.1) (wpList_withE (n := n) _ _ _ _ (wpList_drop (n := n) _ _ _ _ hL.2))
  rwa [hdl] at this) _ _ _ H
 rw [htl, show n - 1 + (l.length - n) = f by omega] at this;exact this
end
end Go.Proofs.YtiijepimkgaccaaGreat
namespace Go.Proofs.YtiijepimkgaccaaGreat
open Go.RowKit Go.Shelf
def digB (n : Nat) : UInt8 := if n < 10 then UInt8.ofNat (48 + n) else UInt8.ofNat (87 + n)
def hexB (bs : List UInt8) : List UInt8 := bs.flatMap fun x => [digB (x.toNat / 16), digB (x.toNat % 16)]
def digStr : ByteArray := ⟨#[48, 49, 50, 51, 52, 53, 54, 55, 56, 57, 97, 98, 99, 100, 101, 102]⟩
theorem digStr_size : digStr.size = 16 := by decide +kernel
theorem fold_digStr : (⟨#[48, 49, 50, 51, 52, 53, 54, 55, 56, 57, 97, 98, 99, 100, 101, 102]⟩ : ByteArray) = digStr := rfl
theorem digStr_at : ∀ i : Fin 16, (digStr[i.val]?).getD 0 = digB i.val := by decide +kernel
theorem run_index_digits {P : Program} (w : World) (t : TypeId) (k : IntKind) (i : Int) (h : P.underlying t = some .string) (h0 : 0 ≤ i) (h1 : i ≤ 15) :
  (Instr.index t (.string digStr) (.int k i)).run P w = .ok (.int .u8 (b8 (digB i.toNat))) w := by
 have hi : 0 ≤ i ∧ i < (digStr.size : Int) := by rw [digStr_size]; omega
 have h2 : i.toNat < digStr.size := by rw [digStr_size]; omega
 rw [run_index_string w t digStr k i h, dif_pos hi];have := digStr_at ⟨i.toNat, by omega⟩;simp only [ByteArray.getElem?_lt' _ _ h2, Option.getD_some] at this;rw [this]; rfl
attribute [irreducible] hexB digB digStr
attribute [local go_sem high] fold_digStr run_index_digits
end Go.Proofs.YtiijepimkgaccaaGreat
namespace Go.Proofs.YtiijepimkgaccaaGreat
open Go.RowKit Go.Shelf
theorem conv_abc (w : World) : (convert 46 46 (.slice (some ⟨w.heap.size, 0, none⟩) 3 3)).run Tryz.prog (w.alloc (.cells #[.int .u8 97, .int .u8 98, .int .u8 99] 5)) = .ok (.slice (some ⟨w.heap.size, 0, none⟩) 3 3) (w.alloc (.cells #[.int .u8 97, .int .u8 98, .int .u8 99] 5 (3, 4))) :=
 Go.Lib.run_convert_bytes_const w 46 5 #[.int .u8 97, .int .u8 98, .int .u8 99] 3 3 Tryz.underlying46 (by kernel_rfl)
attribute [local go_sem high] conv_abc
end Go.Proofs.YtiijepimkgaccaaGreat
namespace Go.Proofs.YtiijepimkgaccaaGreat
open Go.RowKit Go.Shelf
theorem Tabs.grow {w w' : World} (h : Tabs w) (k : Grow w w') : Tabs w' := h.below k
theorem Parts.grow {w w' : World} {A : Option Addr} {n : Nat} {ps : List (Value × List UInt8)} (h : Parts w w.heap.size A n ps) (k : Grow w w') : Parts w' w'.heap.size A n ps := (h.below k).more k.size
theorem eql_ids (a b : List UInt8) (ha : a.length = 32) (hb : b.length = 32) (w : World) : (binOp .eql 32 (.agg (a.map B).toArray) (.agg (b.map B).toArray)).run Tryz.prog w = .ok (.bool (a == b)) w :=
 run_eql_bytes w 32 5 32 Tryz.underlying32 (by kernel_rfl) (fun w => by
  obtain ⟨i, hi, hs⟩ := Option.map_eq_some_iff.1 (show (Tryz.prog.info? 5).map (·.size) = some 1 by kernel_rfl)
  simp [sizeOf, typeInfo, hi, hs]) a b ha hb
def Dig (xs : List Value) (d : List UInt8) : Prop := xs = d.map B ∧ d.length = 32
theorem Dig.sha (bs : List UInt8) : Dig ((sha bs).map B) (sha bs) := ⟨rfl, sha_length bs⟩
theorem Dig.len {xs : List Value} {d : List UInt8} (h : Dig xs d) : xs.length = 32 := by rw [h.1, List.length_map, h.2]
theorem Dig.one {xs : List Value} {d : List UInt8} (h : Dig xs d) : ∀ u ∈ xs, u.oneCell' = true := by rw [h.1]; exact all_bytes d
theorem Dig.eql {xs ys : List Value} {a b : List UInt8} (h : Dig xs a) (k : Dig ys b) (w : World) : (binOp .eql 32 (.agg xs.toArray) (.agg ys.toArray)).run Tryz.prog w = .ok (.bool (a == b)) w := by
 rw [h.1, k.1]; exact eql_ids a b h.2 k.2 w
theorem Dig.neq {xs ys : List Value} {a b : List UInt8} (h : Dig xs a) (k : Dig ys b) (w : World) : (binOp .neq 32 (.agg xs.toArray) (.agg ys.toArray)).run Tryz.prog w = .ok (.bool (a != b)) w := by
 have e := h.eql k w;unfold binOp at e ⊢;simp only [Sem.run_bind] at e ⊢;generalize (Op.equal 32 (.agg xs.toArray) (.agg ys.toArray)).run Tryz.prog w = r at *;cases r with
 | ok v w' =>
  simp only [Result.andThen_ok, Sem.run_pure, Result.ok.injEq, Value.bool.injEq] at e ⊢;obtain ⟨rfl, rfl⟩ := e;exact ⟨rfl, rfl⟩
 | halt x w' => simp [Result.andThen] at e
def PartOK (w : World) (Bd : Nat) (p : Value × List UInt8) : Prop := ∃ A c, p.1 = .slice A p.2.length c ∧ p.2.length ≤ c ∧ Sl w Bd 1 A p.2.length (p.2.map B)
theorem part_mk {w : World} {Bd n c : Nat} {A : Option Addr} {bs : List UInt8} (h : Sl w Bd 1 A n (bs.map B)) (hc : n ≤ c) : PartOK w Bd (.slice A n c, bs) := by
 have e : bs.length = n := by have := h.len; simpa using this
 refine ⟨A, c, by rw [e], by rw [e]; exact hc, by rw [e]; exact h⟩
theorem parts_mk {w : World} {Bd n : Nat} {A : Option Addr} {ps : List (Value × List UInt8)} (h : Sl w Bd 1 A n (ps.map Prod.fst)) (hp : ∀ p ∈ ps, PartOK w Bd p) : Parts w Bd A n ps := ⟨h, hp⟩
theorem parts_blk {w : World} {g n : Nat} {t : TypeId} {ps : List (Value × List UInt8)} (h : Blk w g t (ps.map Prod.fst)) (hn : ps.length = n) (hp : ∀ p ∈ ps, PartOK w w.heap.size p) : Parts w w.heap.size (some ⟨g, 0, none⟩) n ps :=
 parts_mk (h.sl (by simp [hn])) hp
open Go.RowKit
theorem fill_nil {place : Nat → Option (Nat × Nat)} {cells : List Value} : Instr.fill place cells.toArray [] = some cells.toArray := rfl
theorem splice_get {α : Type} (L cs : List α) (off k : Nat) (h : off + cs.length ≤ L.length) : (splice L off cs)[k]? = if off ≤ k ∧ k < off + cs.length then cs[k - off]? else L[k]? := by
 unfold splice;have hl : (L.take off).length = off := by rw [List.length_take]; omega
 by_cases h1 : k < off
 ·rw [if_neg (by omega), List.getElem?_append_left (by omega), List.getElem?_take, if_pos h1]
 ·rw [List.getElem?_append_right (by omega), hl];by_cases h2 : k - off < cs.length
  ·rw [if_pos (by omega), List.getElem?_append_left h2]
  ·rw [if_neg (by omega), List.getElem?_append_right (by omega), List.getElem?_drop]
   congr 1; omega
theorem fill_cons {place : Nat → Option (Nat × Nat)} {cells cs : List Value} {i off s : Nat} {v : Value} {rest : List (Nat × Value)} (hp : place i = some (off, s)) (hv : v.cells = cs.toArray) (hs : cs.length = s) (hle : off + s ≤ cells.length) :
  Instr.fill place cells.toArray ((i, v) :: rest) = Instr.fill place (splice cells off cs).toArray rest := by
 conv => lhs; unfold Instr.fill
 simp only [hp];have hsz : v.cells.size = s := by rw [hv]; simpa using hs
 rw [if_neg (by simp [hsz]; omega)]
 congr 1
 obtain ⟨h1, h2⟩ := Great.foldl_set off cs 0 cells.toArray
 have e : (v.cells.zipIdx.foldl (fun cs (x : Value × Nat) => cs.setIfInBounds (off + x.2) x.1) cells.toArray) = ((cs.zipIdx 0).foldl (fun cs (x : Value × Nat) => cs.setIfInBounds (off + x.2) x.1) cells.toArray) := by
  rw [hv, ← Array.foldl_toList, Array.toList_zipIdx]
 refine Eq.trans e ?_
 apply Array.ext_getElem?
 intro k;rw [h2 k];simp only [Nat.add_zero, List.size_toArray, List.getElem?_toArray];rw [splice_get _ _ _ _ (by omega)];by_cases hk : off ≤ k ∧ k < off + cs.length
 ·rw [if_pos ⟨hk.1, hk.2, by omega⟩, if_pos hk]
 ·rw [if_neg (fun h => hk ⟨h.1, h.2.1⟩), if_neg hk]
theorem splice_mid {α : Type} {pre old post new : List α} {off : Nat} (h1 : pre.length = off) (h2 : old.length = new.length) : splice (pre ++ (old ++ post)) off new = pre ++ (new ++ post) := by
 unfold splice;rw [← h1, List.take_left, ← h2, ← List.drop_drop, List.drop_left, List.drop_left]
section
variable {P : Program} {ops : Array Oper} {rest : List Oper} {o : Oper} {a : Act} {w : World} {Q : Exit → Act → World → Prop}
theorem exec_build {ev : Operand → Value} {t : TypeId} {parts : Array (Nat × Operand)} {cells : List Value} (ho : o.op = .build t parts) (h : P.built t (parts.toList.map fun (i, x) => (i, ev x)) = some cells.toArray) (w : World) :
  (execOp ev o).run P w = .ok (.value (.agg cells.toArray)) w := by
 unfold execOp;simp only [ho, Sem.run_bind, run_build w t (parts.map fun (i, x) => (i, ev x)) _ (by rw [Array.toList_map]; exact h), Result.andThen_ok]
 rfl
theorem wpl_build (hgd : o.guard = none) {t : TypeId} {parts : Array (Nat × Operand)} (ho : o.op = .build t parts) {cells : List Value} (h : P.built t (parts.toList.map fun (i, x) => (i, a.eval x)) = some cells.toArray)
  (hk : wpList P ops Q rest (a.put o.dst (.agg cells.toArray)) w) : wpList P ops Q (o :: rest) a w := by
 refine wpList_plain hgd fun K hK => ?_
 unfold Oper.wp;rw [exec_build ho h w];exact hK _ _ hk
end
end Go.Proofs.YtiijepimkgaccaaGreat
namespace Go.Proofs.YtiijepimkgaccaaGreat
open Go.RowKit
theorem wanted_none {o : Oper} {y : Nat → Option Bool} (h : o.guard = none) : Region.wanted o y = true := by unfold Region.wanted; rw [h]
def At (w : World) (g : Nat) (T : TypeId) (n : Nat) (xs : List Value) : Prop := Blk w g T xs ∧ xs.length = n
theorem at_mk {w : World} {g : Nat} {T : TypeId} {n : Nat} {xs : List Value} (h : Blk w g T xs) (hn : xs.length = n) : At w g T n xs := ⟨h, hn⟩
theorem At.blk {w : World} {g : Nat} {T : TypeId} {n : Nat} {xs : List Value} (h : At w g T n xs) : Blk w g T xs := h.1
theorem At.len {w : World} {g : Nat} {T : TypeId} {n : Nat} {xs : List Value} (h : At w g T n xs) : xs.length = n := h.2
theorem At.grow {w w' : World} {g : Nat} {T : TypeId} {n : Nat} {xs : List Value} (h : At w g T n xs) (k : Grow w w') : At w' g T n xs := ⟨h.1.grow k, h.2⟩
theorem At.sl {w : World} {g : Nat} {T : TypeId} {n : Nat} {xs : List Value} (h : At w g T n xs) : Sl w w.heap.size 1 (some ⟨g, 0, none⟩) n xs := h.1.sl (by rw [h.2]; omega)
theorem At.lt {w : World} {g : Nat} {T : TypeId} {n : Nat} {xs : List Value} (h : At w g T n xs) : g < w.heap.size := h.1.lt
theorem At.off {w w' : World} {g g2 : Nat} {T : TypeId} {n : Nat} {xs : List Value} (h : At w g T n xs) (k : w.grownBy w' (some g2)) (hne : g ≠ g2) : At w' g T n xs := ⟨h.1.grown k (by simpa using hne), h.2⟩
theorem var_grow {w w1 w2 : World} (h1 : Below w.heap.size w w1) (hz : w1.heap.size = w.heap.size + 1) (hg : w1.grownBy w2 (some w.heap.size)) : Grow w w2 :=
 h1.grown hg (by omega) (by intro g hg; cases hg; exact Nat.le_refl _)
theorem put_below {w0 w w2 : World} {g : Nat} (h : Below w0.heap.size w0 w) (hg : w0.heap.size ≤ g) (k : w.grownBy w2 (some g)) : Below w0.heap.size w0 w2 :=
 h.grown k h.size (by intro q hq; cases hq; exact hg)
def Cl (n : Nat) (xs : List Value) : Prop := xs.length = n ∧ ∀ u ∈ xs, u.oneCell' = true
theorem Cl.len {n : Nat} {xs : List Value} (h : Cl n xs) : xs.length = n := h.1
theorem Cl.one {n : Nat} {xs : List Value} (h : Cl n xs) : ∀ u ∈ xs, u.oneCell' = true := h.2
section
variable {P : Program} {ops : Array Oper} {rest : List Oper} {o : Oper} {a : Act} {w : World} {Q : Exit → Act → World → Prop}
theorem wpl_store1 (hgd : o.guard = none) {T : TypeId} {x y : Operand} (ho : o.op = .store T x y) {g i : Nat} {t : TypeId} {cs : List Value} {v : Value} (hb : Blk w g t cs) (hx : a.eval x = .pointer (some ⟨g, i, none⟩)) (hy : a.eval y = v)
  (hT : (P.info? T).map (·.size) = some 1) (hv : v.cells = #[v]) (h1 : v.oneCell' = true) (hi : i < cs.length)
  (h : ∀ w', Blk w' g t (cs.set i v) → w.grownBy w' (some g) → w'.heap.size = w.heap.size → wpList P ops Q rest (a.put o.dst undef) w') : wpList P ops Q (o :: rest) a w := by
 refine wpList_plain hgd fun K hK => ?_
 have hc := hb.at_ (List.getElem?_eq_getElem hi);have hf := hb.frozen i
 have hrun : (Instr.storeAt T (.pointer (some ⟨g, i, none⟩)) v).run P w = .ok () (w.setCell ⟨g, i, none⟩ v) := by
  obtain ⟨inf, hi2, hs⟩ := Option.map_eq_some_iff.1 hT;have e0 : Addr.add ⟨g, i, none⟩ 0 = ⟨g, i, none⟩ := by rw [Addr.add_lit]; rfl
  have e1 : (store ⟨g, i, none⟩ v).run P w = .ok () (w.setCell ⟨g, i, none⟩ v) := by rw [run_store _ _ _ _ _ h1]; simp [stored, hc, hf]
  simp [Instr.storeAt, Instr.sureAddr, storeVar, sizeOf, typeInfo, hi2, hs, hv, storeCells, e0, e1]
 unfold Oper.wp execOp;simp only [ho, hx, hy, Sem.run_bind, hrun, Result.andThen_ok, Sem.run_pure];exact hK _ _ (h _ (hb.set_ i v) (grown_set w g i v) (by simp))
end
theorem run_row1 {P : Program} {w : World} {t e : TypeId} {sz bytes : Nat} (HE : ElemT P t e sz bytes) {ys : List Value} (hl : ys.length = sz) (h24 : sz ≤ 16777216) :
  (Instr.buildSlice t 1 #[(0, .agg ys.toArray)]).run P w = .ok (.slice (some ⟨w.heap.size, 0, none⟩) 1 1) (w.alloc (.cells ys.toArray e)) := by
 obtain ⟨i, z, hi, hz, hsz, hby, hzs, h0⟩ := HE.hi;have h1 : ¬ (16777216 < i.size) := by omega
 have h2 : ¬ (i.size = 0) := by omega
 have hf : Instr.fill (fun k => some (k * i.size, i.size)) ((Array.range i.size).map fun k => z.cells[k % z.cells.size]!) [(0, .agg ys.toArray)] = some ys.toArray := by
  obtain ⟨cs, hcs⟩ : ∃ cs : List Value, cs = ((Array.range i.size).map fun k => z.cells[k % z.cells.size]!).toList := ⟨_, rfl⟩;have e1 : ((Array.range i.size).map fun k => z.cells[k % z.cells.size]!) = cs.toArray := by rw [hcs]
  have hcl : cs.length = i.size := by rw [hcs]; simp
  rw [e1, fill_cons (off := 0) (s := i.size) (cs := ys) (by simp) rfl (by omega) (by omega), fill_nil]
  congr 2
  unfold splice;rw [List.drop_of_length_le (by omega)]; simp
 simp [Instr.buildSlice, run_underlying HE.ht, sizeOf, typeInfo, zeroValue, hi, hz, h1, h2, hf, newRow]
theorem wpl_row1 {P : Program} {w : World} {ops : Array Oper} {rest : List Oper} {o : Oper} {a : Act} {Q : Exit → Act → World → Prop} (hgd : o.guard = none) {t : TypeId} {x : Operand} (ho : o.op = .buildSlice t 1 #[(0, x)]) {e : TypeId} {sz bytes : Nat} (HE : ElemT P t e sz bytes) {ys : List Value}
  (hx : a.eval x = .agg ys.toArray) (hl : ys.length = sz) (h24 : sz ≤ 16777216)
  (h : ∀ w', Blk w' w.heap.size e ys → Grow w w' → w'.heap.size = w.heap.size + 1 → wpList P ops Q rest (a.put o.dst (.slice (some ⟨w.heap.size, 0, none⟩) 1 1)) w') : wpList P ops Q (o :: rest) a w := by
 refine wpList_plain hgd fun K hK => ?_
 have hr := run_row1 (P := P) (w := w) HE hl h24;obtain ⟨n1, n2, n3⟩ := alloc_new w ys.toArray e;unfold Oper.wp execOp;simp only [ho, List.map_toArray, List.map_cons, List.map_nil, hx, Sem.run_bind, hr, Result.andThen_ok, Sem.run_pure];exact hK _ _ (h _ n1 n2 n3)
theorem wpl_buildw {P : Program} {ops : Array Oper} {rest : List Oper} {o : Oper} {a : Act} {w : World} {Q : Exit → Act → World → Prop} (hw : Region.wanted o (yielded ops a.tmps) = true) {t : TypeId} {parts : Array (Nat × Operand)} (ho : o.op = .build t parts) {cells : List Value} (h : P.built t (parts.toList.map fun (i, x) => (i, a.eval x)) = some cells.toArray)
  (hk : wpList P ops Q rest (a.put o.dst (.agg cells.toArray)) w) : wpList P ops Q (o :: rest) a w := by
 refine wpl_wanted hw fun K hK => ?_
 unfold Oper.wp;rw [exec_build ho h w];exact hK _ _ hk
theorem wpl_loadmw {P : Program} {ops : Array Oper} {rest : List Oper} {o : Oper} {a : Act} {w : World} {Q : Exit → Act → World → Prop} (hw : Region.wanted o (yielded ops a.tmps) = true) {T : TypeId} {x : Operand} (ho : o.op = .load T x) {n : Nat} (hT : RowT P T n) {b off : Nat} {cs : List Value} (hc : ∀ j u, cs[j]? = some u → w.cell? ⟨b, off + j, none⟩ = some u) (hx : a.eval x = .pointer (some ⟨b, off, none⟩)) (hn : cs.length = n)
  (h : wpList P ops Q rest (a.put o.dst (.agg cs.toArray)) w) : wpList P ops Q (o :: rest) a w := by
 refine wpl_wanted hw fun K hK => ?_
 obtain ⟨d, hu, hd, hi⟩ := hT;have hrun := run_loadVar_mid (P := P) w b off T cs d hc hu (by cases d <;> simp_all) (by rw [hi, hn]);unfold Oper.wp execOp;simp only [ho, hx, Instr.loadAt, Instr.sureAddr, Sem.run_bind, Sem.run_pure, Result.andThen_ok, hrun];exact hK _ _ h
theorem wlw {P : Program} {ops : Array Oper} {rest : List Oper} {a : Act} {w : World} {Q : Exit → Act → World → Prop} {ty : TypeId} {ps : String} {af : Array Edge} {gd : Option (Nat × Bool)} (s : Nat) {T : TypeId} {x : Operand} {n : Nat} (hT : RowT P T n) {b off : Nat} {cs : List Value} (hc : ∀ j u, cs[j]? = some u → w.cell? ⟨b, off + j, none⟩ = some u) (hn : cs.length = n) (h : wpList P ops Q rest (a.put (some s) (.agg cs.toArray)) w) (hw : Region.wanted ⟨some s, .load T x, ty, ps, af, gd⟩ (yielded ops a.tmps) = true := by first | rfl | (go_simp; done) | fail) (hx : a.eval x = .pointer (some ⟨b, off, none⟩) := by with_unfolding_all exact rfl) : wpList P ops Q (⟨some s, .load T x, ty, ps, af, gd⟩ :: rest) a w := wpl_loadmw hw rfl hT hc hx hn h
end Go.Proofs.YtiijepimkgaccaaGreat
namespace Go.Proofs.YtiijepimkgaccaaGreat
open Go.RowKit Go.Shelf
theorem len_id {v : Value} : (List.replicate 32 v).length = 32 := by simp
theorem app_below {w0 w w2 : World} {A : Option Addr} {e : TypeId} {sz n c : Nat} {xs : List Value} (h : Below w0.heap.size w0 w) (ho : w.ownsRow w0.heap.size e sz (.slice A n c) n xs) (k : w.grownBy w2 (A.map Addr.block)) : Below w0.heap.size w0 w2 :=
 below_grown h k h.size (own_from ho)
theorem own_blk {w : World} {base g n : Nat} {e : TypeId} {cs : List Value} (h : Blk w g e cs) (hn : cs.length = n) (hb : base ≤ g) (hm : n ≤ maxLen) : w.ownsRow base e 1 (.slice (some ⟨g, 0, none⟩) n n) n cs :=
 ⟨by omega, .inr ⟨g, n, cs.toArray, rfl, hb, h, Nat.le_refl _, hm, by simp; omega, List.take_of_length_le (by simp; omega)⟩⟩
def OwnAt (w : World) (base : Nat) (A : Option Addr) (n c : Nat) (xs : List Value) : Prop := w.ownsRow base 5 1 (.slice A n c) n xs
theorem OwnAt.grow {w w' : World} {base n c : Nat} {A : Option Addr} {xs : List Value} (h : OwnAt w base A n c xs) (k : Grow w w') : OwnAt w' base A n c xs := own_below h k
theorem wrap64_in (x : Int) (h : -9223372036854775808 ≤ x ∧ x ≤ 9223372036854775807) : RowKit.wrap64 x = x := by unfold RowKit.wrap64; omega
def leB (n : Nat) : List UInt8 := if h : n = 0 then [] else UInt8.ofNat n :: leB (n / 256)
termination_by n
decreasing_by exact Nat.div_lt_self (Nat.pos_of_ne_zero h) (by omega)
theorem leB_zero : leB 0 = [] := by rw [leB]; rfl
theorem leB_pos {n : Nat} (h : n ≠ 0) : leB n = UInt8.ofNat n :: leB (n / 256) := by rw [leB, dif_neg h]
def lenB (n : Nat) : Nat := (leB n).length
theorem lenB_zero : lenB 0 = 0 := by rw [lenB, leB_zero]; rfl
theorem lenB_pos {n : Nat} (h : n ≠ 0) : lenB n = lenB (n / 256) + 1 := by rw [lenB, leB_pos h]; rfl
theorem lenB_le : ∀ (k n : Nat), n < 256 ^ k → lenB n ≤ k
 | 0, n, h => by obtain rfl : n = 0 := by simpa using h
                 rw [lenB_zero]; omega
 | k + 1, n, h => by
  by_cases hn : n = 0
  ·rw [hn, lenB_zero]; omega
  ·rw [lenB_pos hn];have := lenB_le k (n / 256) (by rw [Nat.pow_succ] at h; omega);omega
theorem lenB_64 {n : Nat} (h : n ≤ 18446744073709551615) : lenB n ≤ 8 := lenB_le 8 n (by omega)
theorem leB_at : ∀ (i n : Nat), i < lenB n → (leB n)[i]? = some (UInt8.ofNat (n / 256 ^ i))
 | 0, n, h => by
  have hn : n ≠ 0 := by rintro rfl; rw [lenB_zero] at h; omega
  rw [leB_pos hn]; simp
 | i + 1, n, h => by
  have hn : n ≠ 0 := by rintro rfl; rw [lenB_zero] at h; omega
  rw [lenB_pos hn] at h;rw [leB_pos hn, List.getElem?_cons_succ, leB_at i (n / 256) (by omega), Nat.div_div_eq_div_mul, Nat.pow_succ, Nat.mul_comm 256]
def numB (n : Nat) : List UInt8 := UInt8.ofNat (lenB n) :: (leB n).reverse
theorem numB_len (n : Nat) : (numB n).length = lenB n + 1 := by rw [numB, List.length_cons, List.length_reverse]; rfl
theorem numB_le {n : Nat} (h : n ≤ 18446744073709551615) : (numB n).length ≤ 9 := by rw [numB_len]; have := lenB_64 h; omega
theorem leB_len (n : Nat) : (leB n).length = lenB n := rfl
theorem numB_zero (n : Nat) : (numB n).take 1 = [UInt8.ofNat (lenB n)] := rfl
theorem numB_at {n t : Nat} (h : t < lenB n) : (numB n)[t + 1]? = some (UInt8.ofNat (n / 256 ^ (lenB n - 1 - t))) := by
 unfold numB;rw [List.getElem?_cons_succ, List.getElem?_reverse (by rw [leB_len]; exact h), leB_len, leB_at _ _ (by omega)]
theorem take_snoc {α : Type} {l : List α} {t : Nat} {x : α} (h : l[t]? = some x) : l.take (t + 1) = l.take t ++ [x] := by
 rw [List.take_add_one, h]; rfl
theorem numB_step {n t : Nat} (h : t < lenB n) : (numB n).take (t + 1 + 1) = (numB n).take (t + 1) ++ [UInt8.ofNat (n / 256 ^ (lenB n - 1 - t))] := take_snoc (numB_at h)
theorem numB_all (n : Nat) : (numB n).take (lenB n + 1) = numB n := List.take_of_length_le (by rw [numB_len]; exact Nat.le_refl _)
theorem b8_ofNat (n : Nat) : b8 (UInt8.ofNat n) = ((n % 256 : Nat) : Int) := by unfold b8; rw [UInt8.toNat_ofNat']
attribute [irreducible] lenB numB
structure Kept (K : Nat → Prop) (w w' : World) : Prop where
 os : w'.os = w.os
 tape : w'.tape = w.tape
 output : w'.output = w.output
 size : w.heap.size ≤ w'.heap.size
 block : ∀ k, K k → w'.heap[k]? = w.heap[k]?
section
variable {K : Nat → Prop} {w w1 w2 : World}
theorem Kept.refl (K : Nat → Prop) (w : World) : Kept K w w := ⟨rfl, rfl, rfl, Nat.le_refl _, fun _ _ => rfl⟩
theorem Kept.trans (h : Kept K w w1) (k : Kept K w1 w2) : Kept K w w2 := ⟨k.os.trans h.os, k.tape.trans h.tape, k.output.trans h.output, Nat.le_trans h.size k.size, fun i hi => (k.block i hi).trans (h.block i hi)⟩
theorem Kept.of_grow (h : Grow w w1) (hK : ∀ k, K k → k < w.heap.size) : Kept K w w1 := ⟨h.os, h.tape, h.output, h.size, fun k hk => h.block k (hK k hk)⟩
theorem Kept.of_grown {row : Option Nat} (h : w.grownBy w1 row) (hK : ∀ k, K k → k < w.heap.size ∧ row ≠ some k) : Kept K w w1 :=
 ⟨h.os, h.tape, h.output, h.size, fun k hk => h.block k (hK k hk).1 (fun e => (hK k hk).2 e.symm)⟩
theorem Kept.mono {K' : Nat → Prop} (h : Kept K w w1) (hK : ∀ k, K' k → K k) : Kept K' w w1 := ⟨h.os, h.tape, h.output, h.size, fun k hk => h.block k (hK k hk)⟩
theorem Kept.below {Bd : Nat} (h : Kept K w w1) (hB : ∀ k, k < Bd → K k) : Below Bd w w1 := ⟨h.os, h.tape, h.output, h.size, fun k hk => h.block k (hB k hk)⟩
theorem Kept.blk {g : Nat} {t : TypeId} {cs : List Value} (h : Kept K w w1) (hb : Blk w g t cs) (hg : K g) : Blk w1 g t cs := (h.block g hg).trans hb
def PenAt (w : World) (K : Nat → Prop) (g : Nat) (xs : List UInt8) : Prop :=
 ∃ A c, Blk w g 73 [.slice A xs.length c] ∧ w.ownsRow 0 5 1 (.slice A xs.length c) xs.length (xs.map B) ∧ (∀ k, K k → k < w.heap.size ∧ k ≠ g ∧ A.map Addr.block ≠ some k) ∧ A.map Addr.block ≠ some g
theorem own_lt {base : Nat} {e : TypeId} {sz n c : Nat} {A : Option Addr} {ys : List Value} (h : w.ownsRow base e sz (.slice A n c) n ys) : ∀ g, A.map Addr.block = some g → g < w.heap.size := by
 rcases h.2 with ⟨hv, _⟩ | ⟨g, cap, cur, hv, _, hh, _⟩
 ·injection hv with hA; subst hA; intro g hg; cases hg
 ·injection hv with hA; subst hA
  intro g' hg';obtain rfl : g = g' := by simpa using hg'
  exact (Array.getElem?_eq_some_iff.1 hh).1
theorem PenAt.grow {g : Nat} {xs : List UInt8} (h : PenAt w K g xs) (k : Grow w w1) : PenAt w1 K g xs := by
 obtain ⟨A, c, h1, h2, h3, h4⟩ := h;exact ⟨A, c, h1.grow k, h2.grow k, fun j hj => ⟨Nat.lt_of_lt_of_le (h3 j hj).1 k.size, (h3 j hj).2⟩, h4⟩
theorem PenAt.lt {g : Nat} {xs : List UInt8} (h : PenAt w K g xs) : g < w.heap.size := by obtain ⟨A, c, h1, _⟩ := h; exact h1.lt
theorem PenAt.less {K' : Nat → Prop} {g : Nat} {xs : List UInt8} (h : PenAt w K g xs) (hK : ∀ k, K' k → K k) : PenAt w K' g xs := by
 obtain ⟨A, c, h1, h2, h3, h4⟩ := h;exact ⟨A, c, h1, h2, fun j hj => h3 j (hK j hj), h4⟩
theorem PenAt.more {K' : Nat → Prop} {g : Nat} {xs : List UInt8} (h : PenAt w K g xs) (k : Grow w w1) (hK : ∀ j, K' j → K j ∨ (w.heap.size ≤ j ∧ j < w1.heap.size)) : PenAt w1 K' g xs := by
 have hlt := h.lt;obtain ⟨A, c, h1, h2, h3, h4⟩ := h;refine ⟨A, c, h1.grow k, h2.grow k, fun j hj => ?_, h4⟩;rcases hK j hj with hk | ⟨ha, hb⟩
 ·exact ⟨Nat.lt_of_lt_of_le (h3 j hk).1 k.size, (h3 j hk).2⟩
 ·exact ⟨hb, by omega, fun e => by have := own_lt h2 j e; omega⟩
theorem PenAt.new {g : Nat} (h : Blk w g 73 [.slice none 0 0]) (hK : ∀ k, K k → k < w.heap.size ∧ k ≠ g) : PenAt w K g [] :=
 ⟨none, 0, h, World.ownsRow_nil w _ _ _, fun k hk => ⟨(hK k hk).1, (hK k hk).2, by simp⟩, by simp⟩
theorem pen_app {g c c' : Nat} {A A' : Option Addr} {xs ys : List UInt8} (h1 : Blk w g 73 [.slice A xs.length c]) (h2 : w.ownsRow 0 5 1 (.slice A xs.length c) xs.length (xs.map B))
  (h3 : ∀ k, K k → k < w.heap.size ∧ k ≠ g ∧ A.map Addr.block ≠ some k) (h4 : A.map Addr.block ≠ some g)
  (ho : w1.ownsRow 0 5 1 (.slice A' ys.length c') ys.length (ys.map B)) (hg : w.grownBy w1 (A.map Addr.block)) (hA : ∀ b, A'.map Addr.block = some b → A.map Addr.block = some b ∨ w.heap.size ≤ b) :
  PenAt (w1.setCell ⟨g, 0, none⟩ (.slice A' ys.length c')) K g ys ∧ Kept K w (w1.setCell ⟨g, 0, none⟩ (.slice A' ys.length c')) := by
 have hlt := h1.lt;have hne : A'.map Addr.block ≠ some g := fun e => by rcases hA g e with h | h <;> first | exact h4 h | omega
 have hk : Kept K w w1 := Kept.of_grown hg (fun k hk => ⟨(h3 k hk).1, (h3 k hk).2.2⟩);have hs := grown_set w1 g 0 (.slice A' ys.length c');refine ⟨⟨A', c', ?_, own_kept ho hs (fun k e => by rw [e] at hne; intro e2; injection e2 with e3; exact hne (by simp [e3])), fun k hkk => ⟨?_, (h3 k hkk).2.1, fun e => ?_⟩, hne⟩, hk.trans (Kept.of_grown hs (fun k hkk => ⟨Nat.lt_of_lt_of_le (h3 k hkk).1 hk.size, fun e => (h3 k hkk).2.1 (by injection e with e; exact e.symm)⟩))⟩
 ·have := (h1.grown hg (fun e => h4 e.symm)).set_ 0 (.slice A' ys.length c');simpa using this
 ·exact Nat.lt_of_lt_of_le (Nat.lt_of_lt_of_le (h3 k hkk).1 hk.size) hs.size
 ·rcases hA k e with h | h
  ·exact (h3 k hkk).2.2 h
  ·have := (h3 k hkk).1; omega
end
end Go.Proofs.YtiijepimkgaccaaGreat

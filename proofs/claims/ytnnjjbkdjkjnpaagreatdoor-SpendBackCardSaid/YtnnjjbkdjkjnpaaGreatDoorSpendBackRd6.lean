/- A region that draws its order: a move first, then reads, then a tail in one order: 'x = append(x, ..reads..)'. -/
import Derived.Test.YtnnjjbkdjkjnpaaGreatDoorSpendBackRd5
import Derived.Laws.IdiomStrings
import Derived.Lib.SlBytesConst
import Derived.Stop.BytesEq
import Derived.Great.FillDense
import Derived.Laws.Tables
import Derived.Laws.IdiomCopy
set_option linter.unusedSimpArgs false
set_option linter.unusedVariables false
set_option maxRecDepth 100000
set_option maxHeartbeats 16000000
namespace Go.Proofs.YtnnjjbkdjkjnpaaGreatDoor
open Go.RowKit
def addEdge (o : Oper) : Oper := { o with after := o.after.push ⟨0, .data⟩ }
def withE (l : List Oper) (n : Nat) : List Oper := l.modify n addEdge
def start0 (l : List Oper) : Array Bool := (Array.replicate l.length false).setIfInBounds 0 true
def noAfter (l : List Oper) : Bool := match l[0]? with | some o => o.after.isEmpty | none => false
def tail0B (l : List Oper) (n : Nat) : Bool :=
 Region.noSelect l.toArray && Region.free .any l.toArray (Array.replicate l.length false) 0 && (Region.ready .any l.toArray (Array.replicate l.length false)).contains 0
 && Region.noSelect (withE l n).toArray && decide (n < l.length) && decide (1 ≤ n) && Region.sinkB .any (withE l n).toArray n && Region.chainB .any (withE l n).toArray n
 && Region.lexHead .any (withE l n).toArray (l.length - n) (n - 1) 1 (start0 l) && noAfter l
section
variable {P : Program} {l : List Oper} {n : Nat}
theorem withE_at (l : List Oper) (n i : Nat) : (withE l n)[i]? = if i = n then (l[i]?).map addEdge else l[i]? := by
 unfold withE
 rw [List.getElem?_modify]
 by_cases h : n = i
 ·subst h; simp
 ·rw [if_neg (fun e => h e.symm)]; cases l[i]? <;> simp [h]
theorem withE_length (l : List Oper) (n : Nat) : (withE l n).length = l.length := by simp [withE]
theorem yielded_withE (l : List Oper) (n : Nat) (t : Array Value) : yielded (withE l n).toArray t = yielded l.toArray t := by
 funext j
 have h : (((withE l n).toArray[j]?).bind (·.dst)) = ((l.toArray[j]?).bind (·.dst)) := by
  simp only [List.getElem?_toArray, withE_at]
  split
  ·cases l[j]? <;> rfl
  ·rfl
 unfold yielded
 rw [h]
theorem ready_withE {listed : Array Bool} (h0 : listed.getD 0 false = true) (md : Region.Mode) : Region.ready md (withE l n).toArray listed = Region.ready md l.toArray listed := by
 unfold Region.ready
 simp only [List.size_toArray, withE_length, List.getElem?_toArray, withE_at]
 apply List.filter_congr
 intro i _
 by_cases h : i = n
 ·subst h
  rw [if_pos rfl]
  cases l[i]? with
  | none => rfl
  | some o => simp only [Option.map_some, addEdge, Option.getD_some, Array.all_push, h0, Bool.or_true, Bool.and_true]
 ·rw [if_neg h]
theorem wpOp_withE (Q : Exit → Act → World → Prop) (i : Nat) (K : Act → World → Prop) (a : Act) (w : World) : wpOp P (withE l n).toArray Q i K a w = wpOp P l.toArray Q i K a w := by
 unfold wpOp
 simp only [List.getElem?_toArray, withE_at, yielded_withE]
 by_cases h : i = n
 ·rw [if_pos h]; cases l[i]? <;> rfl
 ·rw [if_neg h]
theorem set_keeps {listed : Array Bool} (h0 : listed.getD 0 false = true) (i : Nat) : (listed.setIfInBounds i true).getD 0 false = true := getD_set_true h0
theorem wpAny_withE (Q : Exit → Act → World → Prop) (md : Region.Mode) : ∀ (f : Nat) (listed : Array Bool) (a : Act) (w : World), listed.getD 0 false = true → wpAny P md (withE l n).toArray Q f listed a w → wpAny P md l.toArray Q f listed a w
 | 0, listed, a, w, h0, h => by unfold wpAny at h ⊢; rw [ready_withE h0] at h; exact h
 | f + 1, listed, a, w, h0, h => by
  unfold wpAny at h ⊢
  rw [ready_withE h0] at h
  refine ⟨h.1, fun i hi => ?_⟩
  have h2 := h.2 i hi
  rw [wpOp_withE] at h2
  exact wpOp_mono (fun a' w' h3 => wpAny_withE Q md f _ a' w' (set_keeps h0 i) h3) h2
theorem wpList_withE (Q : Exit → Act → World → Prop) : ∀ (m : List Oper) (a : Act) (w : World), wpList P l.toArray Q m a w → wpList P (withE l n).toArray Q m a w
 | [], a, w, h => h
 | o :: m, a, w, h => by
  unfold wpList at h ⊢
  rw [yielded_withE]
  split
  ·rename_i hw
   rw [if_pos hw] at h
   rcases h with h | h
   ·exact .inl (Oper.wp_mono (fun a w h => wpList_withE Q m a w h) h)
   ·exact .inr h
  ·rename_i hw
   rw [if_neg hw] at h
   exact wpList_withE Q m _ w h
theorem wpStill_withE {w : World} {Q : Act → Prop} : ∀ (m : List Oper) (a : Act), wpStill P l.toArray w Q m a → wpStill P (withE l n).toArray w Q m a
 | [], a, h => h
 | o :: m, a, h => by
  unfold wpStill at h ⊢
  rw [yielded_withE]
  split
  ·rename_i hw
   rw [if_pos hw] at h
   exact Oper.still_mono (fun a h => wpStill_withE m a h) h
  ·rename_i hw
   rw [if_neg hw] at h
   exact wpStill_withE m _ h
theorem wpList_drop (Q : Exit → Act → World → Prop) (a : Act) (w : World) (ops : Array Oper) (h : wpList P ops Q (l.drop n) a w) : wpList P ops Q ((withE l n).drop n) a w := by
 have e : (withE l n).drop n = match l.drop n with | [] => [] | o :: m => addEdge o :: m := by
  apply List.ext_getElem?
  intro i
  rw [List.getElem?_drop, withE_at]
  cases hd : l.drop n with
  | nil =>
   have : l[n + i]? = none := by rw [← List.getElem?_drop, hd]; rfl
   rw [this]; split <;> rfl
  | cons o m =>
   have h2 : l[n + i]? = (o :: m)[i]? := by rw [← List.getElem?_drop, hd]
   rw [h2]
   cases i with
   | zero => simp
   | succ i => rw [if_neg (by omega)]; rfl
 rw [e]
 cases hd : l.drop n with
 | nil => rw [hd] at h; exact h
 | cons o m => rw [hd] at h; exact h
theorem wp_tail0 {id : Nat} {Q : Exit → Act → World → Prop} {a : Act} {w : World} {o0 : Oper} {x : Operand} (n : Nat) (hm : P.follows .mixedOrders = true) (h0 : l[0]? = some o0) (hg : o0.guard = none) (hop : o0.op = .move x) (hB : tail0B l n = true)
  (h : ∀ w2, Drawn w w2 → wpStill P l.toArray w2 (fun a' => wpList P l.toArray (NormalOnly Q) (l.drop n) a' w2) ((l.take n).drop 1) (a.put o0.dst (a.eval x))) : (Code.region id l.toArray true).wp P Q a w := by
 refine wp_normal ?_
 simp only [tail0B, Bool.and_eq_true, decide_eq_true_eq] at hB
 obtain ⟨⟨⟨⟨⟨⟨⟨⟨⟨hsel, hfree⟩, hready⟩, hsel'⟩, hn⟩, hn1⟩, hs⟩, hc⟩, hlex⟩, hna⟩ := hB
 have hH := h { w with drawn := w.drawn + 1 } ⟨1, rfl⟩
 generalize hw2 : { w with drawn := w.drawn + 1 } = w2 at hH
 refine wp_region_any hm ?_
 rw [hw2, List.size_toArray]
 have hy : Yields P l.toArray o0 (a.eval x) a := .inl ⟨by simp [Region.wanted, hg], fun w => by simp [execOp, hop]⟩
 obtain ⟨f, hf⟩ : ∃ f, l.length = f + 1 := ⟨l.length - 1, by omega⟩
 rw [hf]
 refine wpAny_take (i := 0) (by simpa using h0) hsel (by rw [← hf]; exact hfree) (by rw [← hf]; exact hready) (fun _ _ _ h => h) hy ?_
 have hst : (start0 l).getD 0 false = true := by
  unfold start0
  simp [show 0 < l.length by omega]
 rw [← hf]
 refine wpAny_withE (n := n) _ _ _ _ _ _ hst ?_
 have htl : (((withE l n).take n).drop 1).length = n - 1 := by simp [withE_length]; omega
 have hdl : ((withE l n).drop n).length = l.length - n := by simp [withE_length]
 have inv0 : HeadInv .any (withE l n).toArray n (start0 l) := by
  refine ⟨by simp [start0, withE_length], fun j oj hj hl e he _ => ?_, fun t ht ht2 => ?_⟩
  ·by_cases hj0 : j = 0
   ·subst hj0
    rw [List.getElem?_toArray, withE_at, if_neg (by omega), h0] at hj
    cases hj
    unfold noAfter at hna
    rw [h0] at hna
    simp only [Array.isEmpty_iff] at hna
    rw [hna] at he; simp at he
   ·exfalso
    unfold start0 at hl
    rw [getD_set_ne false (by omega), getD_replicate_false] at hl
    cases hl
  ·unfold start0
   rw [getD_set_ne true (by omega)]
   exact getD_in (by simp; simp [withE_length] at ht2; omega) (getD_replicate_false _ _)
 have hhead : ((withE l n).take n).drop 1 = (l.take n).drop 1 := by
  apply List.ext_getElem?
  intro i
  rw [List.getElem?_drop, List.getElem?_drop, List.getElem?_take, List.getElem?_take, withE_at]
  split
  ·rw [if_neg (by omega)]
  ·rfl
 have H := wpAnyL_lex (P := P) (md := .any) (g := l.length - n) hsel' hs hc (by simpa [withE_length] using hn) (((withE l n).take n).drop 1) 1 (start0 l) (a.put o0.dst (a.eval x)) (fun j hj => by
  rw [htl] at hj
  rw [List.getElem?_drop, List.getElem?_take, if_pos (by omega), List.getElem?_toArray]) (by rw [htl]; omega) inv0 (by rw [htl]; exact hlex) (by
   rw [hhead]
   exact wpStill_withE (n := n) _ _ hH)
 have := wpAny_of_head (Q' := NormalOnly Q) (g := l.length - n) (fun listed a' hL => by
  have := wpAny_of_seq (P := P) (md := .any) (Q' := NormalOnly Q) ((withE l n).drop n) n listed a' w2 (fun j => by simp [List.getElem?_drop]) (by rw [hdl]; exact hL.1) (wpList_withE (n := n) _ _ _ _ (wpList_drop (n := n) _ _ _ _ hL.2))
  rwa [hdl] at this) _ _ _ H
 rw [htl, show n - 1 + (l.length - n) = f by omega] at this
 exact this
end
end Go.Proofs.YtnnjjbkdjkjnpaaGreatDoor
namespace Go.Proofs.YtnnjjbkdjkjnpaaGreatDoor
open Go.RowKit Go.Shelf
def digB (n : Nat) : UInt8 := if n < 10 then UInt8.ofNat (48 + n) else UInt8.ofNat (87 + n)
def hexB (bs : List UInt8) : List UInt8 := bs.flatMap fun x => [digB (x.toNat / 16), digB (x.toNat % 16)]
def digStr : ByteArray := ⟨#[48, 49, 50, 51, 52, 53, 54, 55, 56, 57, 97, 98, 99, 100, 101, 102]⟩
theorem digStr_size : digStr.size = 16 := by decide +kernel
theorem fold_digStr : (⟨#[48, 49, 50, 51, 52, 53, 54, 55, 56, 57, 97, 98, 99, 100, 101, 102]⟩ : ByteArray) = digStr := rfl
theorem digStr_at : ∀ i : Fin 16, (digStr[i.val]?).getD 0 = digB i.val := by decide +kernel
theorem run_index_digits {P : Program} (w : World) (t : TypeId) (k : IntKind) (i : Int) (h : P.underlying t = some .string) (h0 : 0 ≤ i) (h1 : i ≤ 15) :
  (Instr.index t (.string digStr) (.int k i)).run P w = .ok (.int .u8 (b8 (digB i.toNat))) w := by
 have hi : 0 ≤ i ∧ i < (digStr.size : Int) := by rw [digStr_size]; omega
 have h2 : i.toNat < digStr.size := by rw [digStr_size]; omega
 rw [run_index_string w t digStr k i h, dif_pos hi]
 have := digStr_at ⟨i.toNat, by omega⟩
 simp only [ByteArray.getElem?_lt' _ _ h2, Option.getD_some] at this
 rw [this]; rfl
attribute [irreducible] hexB digB digStr
attribute [local go_sem high] fold_digStr run_index_digits
end Go.Proofs.YtnnjjbkdjkjnpaaGreatDoor
namespace Go.Proofs.YtnnjjbkdjkjnpaaGreatDoor
open Go.RowKit Go.Shelf
theorem conv_abc (w : World) : (convert 70 70 (.slice (some ⟨w.heap.size, 0, none⟩) 3 3)).run Tryz.prog (w.alloc (.cells #[.int .u8 97, .int .u8 98, .int .u8 99] 5)) = .ok (.slice (some ⟨w.heap.size, 0, none⟩) 3 3) (w.alloc (.cells #[.int .u8 97, .int .u8 98, .int .u8 99] 5 (3, 4))) :=
 Go.Lib.run_convert_bytes_const w 70 5 #[.int .u8 97, .int .u8 98, .int .u8 99] 3 3 Tryz.underlying70 (by kernel_rfl)
attribute [local go_sem high] conv_abc
end Go.Proofs.YtnnjjbkdjkjnpaaGreatDoor
namespace Go.Proofs.YtnnjjbkdjkjnpaaGreatDoor
open Go.RowKit Go.Shelf
theorem Tabs.grow {w w' : World} (h : Tabs w) (k : Grow w w') : Tabs w' := h.below k
def Dig (xs : List Value) (d : List UInt8) : Prop := xs = d.map B ∧ d.length = 32
theorem Dig.len {xs : List Value} {d : List UInt8} (h : Dig xs d) : xs.length = 32 := by rw [h.1, List.length_map, h.2]
theorem Dig.one {xs : List Value} {d : List UInt8} (h : Dig xs d) : ∀ u ∈ xs, u.oneCell' = true := by rw [h.1]; exact all_bytes d
def PartOK (w : World) (Bd : Nat) (p : Value × List UInt8) : Prop := ∃ A c, p.1 = .slice A p.2.length c ∧ p.2.length ≤ c ∧ Sl w Bd 1 A p.2.length (p.2.map B)
theorem part_mk {w : World} {Bd n c : Nat} {A : Option Addr} {bs : List UInt8} (h : Sl w Bd 1 A n (bs.map B)) (hc : n ≤ c) : PartOK w Bd (.slice A n c, bs) := by
 have e : bs.length = n := by have := h.len; simpa using this
 refine ⟨A, c, by rw [e], by rw [e]; exact hc, by rw [e]; exact h⟩
theorem parts_mk {w : World} {Bd n : Nat} {A : Option Addr} {ps : List (Value × List UInt8)} (h : Sl w Bd 1 A n (ps.map Prod.fst)) (hp : ∀ p ∈ ps, PartOK w Bd p) : Parts w Bd A n ps := ⟨h, hp⟩
theorem parts_blk {w : World} {g n : Nat} {t : TypeId} {ps : List (Value × List UInt8)} (h : Blk w g t (ps.map Prod.fst)) (hn : ps.length = n) (hp : ∀ p ∈ ps, PartOK w w.heap.size p) : Parts w w.heap.size (some ⟨g, 0, none⟩) n ps :=
 parts_mk (h.sl (by simp [hn])) hp
theorem dsum_any (A : Option Addr) (n c : Nat) (ps : List (Value × List UInt8)) {bs : List UInt8} {xs : List Value} (hx : Dig xs (sha bs)) (hcat : cat ps = bs) (w : World) (hp : Parts w w.heap.size A n ps) (hn : n ≤ 1000000) (hl : bs.length ≤ 1099511627776) (ht : Tabs w) :
  Calls Tryz.prog 105 #[.slice A n c] w fun e w' => e = .returned (.agg xs.toArray) ∧ Below w.heap.size w w' := by
 rw [hx.1, ← hcat]
 exact sum_any A n c ps w hp hn (by rw [hcat]; exact hl) ht
open Go.RowKit Go.ChangeShapes Go.WideShapes
section
variable {H : Type} {enc : TypeId × Value → H} {w : World} {r : Reach} {b0 base : Nat} {spare : Nat → Bool} {held : Bool}
end
end Go.Proofs.YtnnjjbkdjkjnpaaGreatDoor
namespace Go.Proofs.YtnnjjbkdjkjnpaaGreatDoor
open Go.RowKit Go.ChangeShapes Go.WideShapes
section
variable {H : Type} {enc : TypeId × Value → H} {w : World} {r : Reach} {b0 base : Nat} {spare : Nat → Bool} {held : Bool}
theorem i64_of {z : Int} (h : (Lit.int .i64 z).wf = true) : I64 z := bounds_i64 h
theorem u64_of {z : Int} (h : (Lit.int .u64 z).wf = true) : U64 z := by
 simp [Lit.wf, IntKind.min, IntKind.max, IntKind.signed, IntKind.bits] at h; exact ⟨by omega, by omega⟩
theorem got {α : Type} {o : Option α} {xs : List α} {i : Nat} (h : o = xs[i]?) (hi : i < xs.length) : ∃ y, o = some y := ⟨_, h.trans (List.getElem?_eq_getElem hi)⟩
theorem cut_eq {xs : List Value} {o n : Nat} {l rest : List Value} (h : (xs.drop o).take n = l) (hr : xs.drop (o + n) = rest) : xs.drop o = l ++ rest := by
 rw [← List.take_append_drop n (xs.drop o), h, List.drop_drop, hr]
end
end Go.Proofs.YtnnjjbkdjkjnpaaGreatDoor
namespace Go.Proofs.YtnnjjbkdjkjnpaaGreatDoor
def leB (n : Nat) : List UInt8 := if h : n = 0 then [] else UInt8.ofNat n :: leB (n / 256)
termination_by n
decreasing_by exact Nat.div_lt_self (Nat.pos_of_ne_zero h) (by omega)
theorem leB_zero : leB 0 = [] := by rw [leB]; rfl
theorem leB_pos {n : Nat} (h : n ≠ 0) : leB n = UInt8.ofNat n :: leB (n / 256) := by rw [leB, dif_neg h]
def lenB (n : Nat) : Nat := (leB n).length
theorem lenB_zero : lenB 0 = 0 := by rw [lenB, leB_zero]; rfl
theorem lenB_pos {n : Nat} (h : n ≠ 0) : lenB n = lenB (n / 256) + 1 := by rw [lenB, leB_pos h]; rfl
theorem lenB_le : ∀ (k n : Nat), n < 256 ^ k → lenB n ≤ k
 | 0, n, h => by obtain rfl : n = 0 := by simpa using h
                 rw [lenB_zero]; omega
 | k + 1, n, h => by
  by_cases hn : n = 0
  ·rw [hn, lenB_zero]; omega
  ·rw [lenB_pos hn]
   have := lenB_le k (n / 256) (by rw [Nat.pow_succ] at h; omega)
   omega
theorem lenB_64 {n : Nat} (h : n ≤ 18446744073709551615) : lenB n ≤ 8 := lenB_le 8 n (by omega)
theorem leB_at : ∀ (i n : Nat), i < lenB n → (leB n)[i]? = some (UInt8.ofNat (n / 256 ^ i))
 | 0, n, h => by
  have hn : n ≠ 0 := by rintro rfl; rw [lenB_zero] at h; omega
  rw [leB_pos hn]; simp
 | i + 1, n, h => by
  have hn : n ≠ 0 := by rintro rfl; rw [lenB_zero] at h; omega
  rw [lenB_pos hn] at h
  rw [leB_pos hn, List.getElem?_cons_succ, leB_at i (n / 256) (by omega), Nat.div_div_eq_div_mul, Nat.pow_succ, Nat.mul_comm 256]
def numB (n : Nat) : List UInt8 := UInt8.ofNat (lenB n) :: (leB n).reverse
theorem numB_len (n : Nat) : (numB n).length = lenB n + 1 := by rw [numB, List.length_cons, List.length_reverse]; rfl
theorem numB_le {n : Nat} (h : n ≤ 18446744073709551615) : (numB n).length ≤ 9 := by rw [numB_len]; have := lenB_64 h; omega
theorem leB_len (n : Nat) : (leB n).length = lenB n := rfl
theorem numB_zero (n : Nat) : (numB n).take 1 = [UInt8.ofNat (lenB n)] := rfl
theorem numB_at {n t : Nat} (h : t < lenB n) : (numB n)[t + 1]? = some (UInt8.ofNat (n / 256 ^ (lenB n - 1 - t))) := by
 unfold numB
 rw [List.getElem?_cons_succ, List.getElem?_reverse (by rw [leB_len]; exact h), leB_len, leB_at _ _ (by omega)]
theorem take_snoc {α : Type} {l : List α} {t : Nat} {x : α} (h : l[t]? = some x) : l.take (t + 1) = l.take t ++ [x] := by
 rw [List.take_add_one, h]; rfl
theorem numB_step {n t : Nat} (h : t < lenB n) : (numB n).take (t + 1 + 1) = (numB n).take (t + 1) ++ [UInt8.ofNat (n / 256 ^ (lenB n - 1 - t))] := take_snoc (numB_at h)
theorem numB_all (n : Nat) : (numB n).take (lenB n + 1) = numB n := List.take_of_length_le (by rw [numB_len]; exact Nat.le_refl _)
theorem b8_ofNat (n : Nat) : b8 (UInt8.ofNat n) = ((n % 256 : Nat) : Int) := by unfold b8; rw [UInt8.toNat_ofNat']
attribute [irreducible] lenB numB
def valB (l : List UInt8) : Nat := l.foldl (fun v c => v * 256 + c.toNat) 0
theorem valB_snoc (l : List UInt8) (c : UInt8) : valB (l ++ [c]) = valB l * 256 + c.toNat := by unfold valB; rw [List.foldl_append]; rfl
theorem valB_lt : ∀ (n : Nat) (l : List UInt8), l.length ≤ n → valB l < 256 ^ n
 | 0, l, h => by obtain rfl : l = [] := List.eq_nil_of_length_eq_zero (by omega); simp [valB]
 | n + 1, l, h => by
  rcases List.eq_nil_or_concat l with rfl | ⟨t, c, rfl⟩
  ·exact Nat.pow_pos (by omega)
  ·rw [List.concat_eq_append, valB_snoc]
   have h1 := valB_lt n t (by rw [List.concat_eq_append, List.length_append] at h; simp at h; omega)
   have h2 := c.toNat_lt
   rw [Nat.pow_succ]; omega
theorem valB_64 {l : List UInt8} (h : l.length ≤ 8) : valB l ≤ 18446744073709551615 := by have := valB_lt 8 l h; omega
open Go.RowKit
def small (n : Int) : Bool := decide (n ≤ 4611686018427387904)
theorem take_all_snoc (zs : List Int) (k : Nat) (h : k < zs.length) : (zs.take (k+1)).all small = ((zs.take k).all small && small (zs[k]?.getD 0)) := by
 rw [List.take_succ_eq_append_getElem h, List.all_append]; simp [h]
theorem is_any (b off n cap : Nat) (zs : List Int) (w : World) (hn : n = zs.length) (hlen : zs.length ≤ 1000000)
  (hc : ∀ i, i < zs.length → w.cell? ⟨b, off + i, none⟩ = some (.int .u64 (zs[i]?.getD 0))) :
  Calls Tryz.prog 96 #[.slice (some ⟨b, off, none⟩) n cap] w fun e w' => e = .returned (.bool (zs.all small)) ∧ w = w' := by
 subst hn
 have HC := kp hc; clear hc
 go_enter Tryz.func96, Tryz.ntmps96
 go_wp2
 go_loop [7] (fun i => ∃ k : Nat, k ≤ zs.length ∧ i = .int .i64 k ∧ (zs.take k).all small = true) (fun i => zs.length - (intOf i).toNat)
 case atStart => exact ⟨0, Nat.zero_le _, rfl, rfl⟩
 case round =>
  obtain ⟨k, hk, rfl, hall⟩ := hrel
  have HA := kp hall; clear hall
  by_cases hlt : k < zs.length
  ·have hcell := HC.out k hlt
   have hs := take_all_snoc zs k hlt
   generalize hz : zs[k]?.getD 0 = z at *
   have HS := kp hs; clear hs
   have Hz := kp hz; clear hz
   by_cases hb : 4611686018427387904 < z
   ·go_wp2
    go_ret
    have : zs.all small = false := by
     rw [List.all_eq_false]
     have h := Hz.out
     simp [hlt] at h
     refine ⟨z, by rw [← h]; simp, ?_⟩
     simp only [small, decide_eq_true_eq]; omega
    exact ⟨ret_bool this.symm, rfl⟩
   ·go_wp2
    go_round
    case rel => exact ⟨k + 1, by omega, by go_num, by rw [HS.out, HA.out]; simp [small]; omega⟩
    case measure => simp [intOf]; omega
  ·go_wp2
   go_ret
   have h := HA.out
   rw [List.take_of_length_le (by omega)] at h
   exact ⟨ret_bool h.symm, rfl⟩
theorem is_two (a b : Int) (w : World) :
  Calls Tryz.prog 96 #[.slice (some ⟨w.heap.size, 0, none⟩) 2 2] (w.alloc (.cells #[.int .u64 a, .int .u64 b] 25)) fun e w' => e = .returned (.bool (small a && small b)) ∧ w.alloc (.cells #[.int .u64 a, .int .u64 b] 25) = w' := by
 refine (is_any w.heap.size 0 2 2 [a, b] _ rfl (by simp) ?_).mono ?_
 ·intro i hi
  match i, hi with
  | 0, _ => simp
  | 1, _ => simp
 ·rintro e w' ⟨rfl, rfl⟩
  exact ⟨by simp, rfl⟩
theorem is_one (a : Int) (w : World) (h : Nat) (hh : h = w.heap.size) :
  Calls Tryz.prog 96 #[.slice (some ⟨h, 0, none⟩) 1 1] (w.alloc (.cells #[.int .u64 a] 25)) fun e w' => e = .returned (.bool (small a)) ∧ w.alloc (.cells #[.int .u64 a] 25) = w' := by
 subst hh
 refine (is_any w.heap.size 0 1 1 [a] _ rfl (by simp) ?_).mono ?_
 ·intro i hi
  match i, hi with
  | 0, _ => simp
 ·rintro e w' ⟨rfl, rfl⟩
  exact ⟨by simp, rfl⟩
theorem add_ok (a b : Int) (w : World) (ha : 0 ≤ a) (hb : 0 ≤ b) (h1 : a ≤ 4611686018427387904) (h2 : b ≤ 4611686018427387904) (h3 : a + b ≤ 4611686018427387904) :
  Calls Tryz.prog 64 #[.int .u64 a, .int .u64 b] w fun e w' => e = .returned (.tuple #[.int .u64 (a + b), .int .i64 0]) ∧ Below w.heap.size w w' := by
 have e1 : small a = true := by simp [small]; omega
 have e2 : small b = true := by simp [small]; omega
 have e3 : small (a + b) = true := by simp [small]; omega
 go_enter Tryz.func64, Tryz.ntmps64
 go_wp2_with fail
 refine (is_two a b _).mono ?_
 rintro e w1 ⟨rfl, rfl⟩
 go_wp2_with fail
 refine (is_one (a + b) _ _ (by simp)).mono ?_
 rintro e w1 ⟨rfl, rfl⟩
 go_wp2_with fail
 go_ret2
 exact ⟨rfl, ((Below.refl _ _).alloc (by simp) _).alloc (by simp) _⟩
theorem add_no (a b : Int) (w : World) (ha : 0 ≤ a) (hb : 0 ≤ b) (h : ¬ (a ≤ 4611686018427387904 ∧ b ≤ 4611686018427387904 ∧ a + b ≤ 4611686018427387904)) :
  Calls Tryz.prog 64 #[.int .u64 a, .int .u64 b] w fun e w' => e = .returned (.tuple #[.int .u64 0, .int .i64 6]) ∧ Below w.heap.size w w' := by
 by_cases hab : a ≤ 4611686018427387904 ∧ b ≤ 4611686018427387904
 ·obtain ⟨h1, h2⟩ := hab
  have h3 : ¬ a + b ≤ 4611686018427387904 := fun x => h ⟨h1, h2, x⟩
  clear h
  have e1 : small a = true := by simp [small]; omega
  have e2 : small b = true := by simp [small]; omega
  have e3 : small (a + b) = false := by simp [small]; omega
  go_enter Tryz.func64, Tryz.ntmps64
  go_wp2_with fail
  refine (is_two a b _).mono ?_
  rintro e w1 ⟨rfl, rfl⟩
  go_wp2_with fail
  refine (is_one (a + b) _ _ (by simp)).mono ?_
  rintro e w1 ⟨rfl, rfl⟩
  go_wp2_with fail
  go_ret2
  exact ⟨rfl, ((Below.refl _ _).alloc (by simp) _).alloc (by simp) _⟩
 ·have e1 : (small a && small b) = false := by
   simp only [small, ← Bool.decide_and, decide_eq_false_iff_not]; exact hab
  clear h hab
  go_enter Tryz.func64, Tryz.ntmps64
  go_wp2_with fail
  refine (is_two a b _).mono ?_
  rintro e w1 ⟨rfl, rfl⟩
  rw [e1]
  go_wp2_with fail
  go_ret2
  exact ⟨rfl, ((Below.refl _ _).alloc (by simp) _)⟩
def plusE (a b : Int) : Int × Int := if a ≤ 4611686018427387904 ∧ b ≤ 4611686018427387904 ∧ a + b ≤ 4611686018427387904 then (a + b, 0) else (0, 6)
theorem add_any (a b : Int) (w : World) (ha : 0 ≤ a) (hb : 0 ≤ b) :
  Calls Tryz.prog 64 #[.int .u64 a, .int .u64 b] w fun e w' => e = .returned (.tuple #[.int .u64 (plusE a b).1, .int .i64 (plusE a b).2]) ∧ Below w.heap.size w w' := by
 unfold plusE
 split
 ·rename_i h; exact add_ok a b w ha hb h.1 h.2.1 h.2.2
 ·rename_i h; exact add_no a b w ha hb h
def allE (s : Int) : List Int → Int × Int
 | [] => (s, 0)
 | x :: r => if (plusE s x).2 = 0 then allE (plusE s x).1 r else (0, (plusE s x).2)
theorem plusE_range (a b : Int) (ha : 0 ≤ a) (hb : 0 ≤ b) : 0 ≤ (plusE a b).1 ∧ (plusE a b).1 ≤ 4611686018427387904 ∧ ((plusE a b).2 = 0 ∨ (plusE a b).2 = 6) := by
 unfold plusE; split <;> simp <;> omega
theorem allE_drop (s : Int) (zs : List Int) (k : Nat) (h : k < zs.length) : allE s (zs.drop k) = if (plusE s (zs[k]?.getD 0)).2 = 0 then allE (plusE s (zs[k]?.getD 0)).1 (zs.drop (k+1)) else (0, (plusE s (zs[k]?.getD 0)).2) := by
 rw [List.drop_eq_getElem_cons h, allE]; simp [h]
theorem ret_pair {k1 k2 : IntKind} {a b c d : Int} (h : a = c) (h' : b = d) : Ending.returned (.tuple #[.int k1 a, .int k2 b]) = .returned (.tuple #[.int k1 c, .int k2 d]) := by rw [h, h']
theorem all_any (A : Option Addr) (n cap : Nat) (zs : List Int) (w : World) (hs : Sl w w.heap.size 1 A n (zs.map (Value.int .u64))) (hn : n ≤ 9223372036854775807) (hz : ∀ z ∈ zs, 0 ≤ z) :
  Calls Tryz.prog 73 #[.slice A n cap] w fun e w' => e = .returned (.tuple #[.int .u64 (allE 0 zs).1, .int .i64 (allE 0 zs).2]) ∧ Below w.heap.size w w' := by
 have hl := hs.len
 simp only [List.length_map] at hl
 have HS := kp hs; clear hs
 have HZ := kp hz; clear hz
 have HL := kp hl; clear hl
 go_enter Tryz.func73, Tryz.ntmps73
 go_wp2
 go_loopw [4, 11] (fun s i wr => ∃ k : Nat, ∃ t : Int, k ≤ n ∧ i = .int .i64 k ∧ s = .int .u64 t ∧ 0 ≤ t ∧ t ≤ 4611686018427387904 ∧ allE 0 zs = allE t (zs.drop k) ∧ Below w.heap.size w wr) (fun _ i _ => n - (intOf i).toNat)
 case atStart => exact ⟨0, 0, Nat.zero_le _, rfl, rfl, by omega, by omega, rfl, Below.refl _ _⟩
 case round =>
  obtain ⟨k, t, hk, rfl, rfl, ht0, ht1, hall, hbw⟩ := hrel
  have HA := kp hall; clear hall
  have HB := kp hbw; clear hbw
  by_cases hlt : k < n
  ·obtain ⟨b, off, u, rfl, hb, hu, hc⟩ := (HS.out.below HB.out).at_ hlt
   have hd := allE_drop t zs k (by have := HL.out; omega)
   obtain ⟨z, hz', rfl⟩ : ∃ z, zs[k]? = some z ∧ u = .int .u64 z := by
    rw [List.getElem?_map] at hu
    obtain ⟨z, h1, h2⟩ := Option.map_eq_some_iff.1 hu
    exact ⟨z, h1, h2.symm⟩
   have hz0 : 0 ≤ z := HZ.out z (List.mem_of_getElem? hz')
   rw [hz'] at hd
   simp only [Option.getD_some] at hd
   have HD := kp hd; clear hd
   clear hu hz'
   have hr := plusE_range t z ht0 hz0
   by_cases h0 : (plusE t z).2 = 0
   ·have hadd := add_any t z wr ht0 hz0
    generalize plusE t z = p at *
    obtain ⟨p1, p2⟩ := p
    simp only at h0 hr hadd
    subst h0
    obtain ⟨hr0, hr1, -⟩ := hr
    have HADD := kp hadd; clear hadd
    go_wp2_with fail
    refine HADD.out.mono ?_
    rintro e w1 ⟨rfl, hb1⟩
    have HB1 := kp hb1; clear hb1
    go_wp2_with fail
    go_roundw
    case rel => exact ⟨k + 1, p1, by omega, by go_num, rfl, hr0, hr1, by rw [HA.out, HD.out]; simp, HB.out.trans (HB1.out.mono HB.out.size)⟩
    case measure => simp [intOf]; omega
   ·have hadd := add_any t z wr ht0 hz0
    generalize plusE t z = p at *
    obtain ⟨p1, p2⟩ := p
    simp only at h0 hr hadd
    have h6 : p2 = 6 := by omega
    subst h6
    have HADD := kp hadd; clear hadd
    clear hr h0
    go_wp2_with fail
    refine HADD.out.mono ?_
    rintro e w1 ⟨rfl, hb1⟩
    have HB1 := kp hb1; clear hb1
    go_wp2_with fail
    go_ret2
    have hfin : allE 0 zs = (0, 6) := by rw [HA.out, HD.out, if_neg (by omega)]
    exact ⟨ret_pair (by rw [hfin]) (by rw [hfin]), HB.out.trans (HB1.out.mono HB.out.size)⟩
  ·go_wp2_with fail
   go_ret2
   have hfin : allE 0 zs = (t, 0) := by rw [HA.out, List.drop_eq_nil_of_le (by have := HL.out; omega)]; rfl
   exact ⟨ret_pair (by rw [hfin]) (by rw [hfin]), HB.out⟩
theorem info_us : (Tryz.prog.info? 25).map (fun i => (i.zero, i.size, i.bytes)) = some (some (.int .u64 0), 1, 8) := by kernel_rfl
theorem el_us : ElemT Tryz.prog 103 25 1 8 := elemT Tryz.underlying103 info_us rfl (by omega)
theorem fill_nil {place : Nat → Option (Nat × Nat)} {cells : List Value} : Instr.fill place cells.toArray [] = some cells.toArray := rfl
theorem splice_get {α : Type} (L cs : List α) (off k : Nat) (h : off + cs.length ≤ L.length) : (splice L off cs)[k]? = if off ≤ k ∧ k < off + cs.length then cs[k - off]? else L[k]? := by
 unfold splice
 have hl : (L.take off).length = off := by rw [List.length_take]; omega
 by_cases h1 : k < off
 ·rw [if_neg (by omega), List.getElem?_append_left (by omega), List.getElem?_take, if_pos h1]
 ·rw [List.getElem?_append_right (by omega), hl]
  by_cases h2 : k - off < cs.length
  ·rw [if_pos (by omega), List.getElem?_append_left h2]
  ·rw [if_neg (by omega), List.getElem?_append_right (by omega), List.getElem?_drop]
   congr 1; omega
theorem fill_cons {place : Nat → Option (Nat × Nat)} {cells cs : List Value} {i off s : Nat} {v : Value} {rest : List (Nat × Value)} (hp : place i = some (off, s)) (hv : v.cells = cs.toArray) (hs : cs.length = s) (hle : off + s ≤ cells.length) :
  Instr.fill place cells.toArray ((i, v) :: rest) = Instr.fill place (splice cells off cs).toArray rest := by
 conv => lhs; unfold Instr.fill
 simp only [hp]
 have hsz : v.cells.size = s := by rw [hv]; simpa using hs
 rw [if_neg (by simp [hsz]; omega)]
 congr 1
 obtain ⟨h1, h2⟩ := Great.foldl_set off cs 0 cells.toArray
 have e : (v.cells.zipIdx.foldl (fun cs (x : Value × Nat) => cs.setIfInBounds (off + x.2) x.1) cells.toArray) = ((cs.zipIdx 0).foldl (fun cs (x : Value × Nat) => cs.setIfInBounds (off + x.2) x.1) cells.toArray) := by
  rw [hv, ← Array.foldl_toList, Array.toList_zipIdx]
 refine Eq.trans e ?_
 apply Array.ext_getElem?
 intro k
 rw [h2 k]
 simp only [Nat.add_zero, List.size_toArray, List.getElem?_toArray]
 rw [splice_get _ _ _ _ (by omega)]
 by_cases hk : off ≤ k ∧ k < off + cs.length
 ·rw [if_pos ⟨hk.1, hk.2, by omega⟩, if_pos hk]
 ·rw [if_neg (fun h => hk ⟨h.1, h.2.1⟩), if_neg hk]
theorem splice_mid {α : Type} {pre old post new : List α} {off : Nat} (h1 : pre.length = off) (h2 : old.length = new.length) : splice (pre ++ (old ++ post)) off new = pre ++ (new ++ post) := by
 unfold splice
 rw [← h1, List.take_left, ← h2, ← List.drop_drop, List.drop_left, List.drop_left]
section
variable {P : Program} {ops : Array Oper} {rest : List Oper} {o : Oper} {a : Act} {w : World} {Q : Exit → Act → World → Prop}
theorem exec_build {ev : Operand → Value} {t : TypeId} {parts : Array (Nat × Operand)} {cells : List Value} (ho : o.op = .build t parts) (h : P.built t (parts.toList.map fun (i, x) => (i, ev x)) = some cells.toArray) (w : World) :
  (execOp ev o).run P w = .ok (.value (.agg cells.toArray)) w := by
 unfold execOp
 simp only [ho, Sem.run_bind, run_build w t (parts.map fun (i, x) => (i, ev x)) _ (by rw [Array.toList_map]; exact h), Result.andThen_ok]
 rfl
theorem wpl_build (hgd : o.guard = none) {t : TypeId} {parts : Array (Nat × Operand)} (ho : o.op = .build t parts) {cells : List Value} (h : P.built t (parts.toList.map fun (i, x) => (i, a.eval x)) = some cells.toArray)
  (hk : wpList P ops Q rest (a.put o.dst (.agg cells.toArray)) w) : wpList P ops Q (o :: rest) a w := by
 refine wpList_plain hgd fun K hK => ?_
 unfold Oper.wp
 rw [exec_build ho h w]
 exact hK _ _ hk
end
end Go.Proofs.YtnnjjbkdjkjnpaaGreatDoor
namespace Go.Proofs.YtnnjjbkdjkjnpaaGreatDoor
open Go.RowKit
theorem wanted_none {o : Oper} {y : Nat → Option Bool} (h : o.guard = none) : Region.wanted o y = true := by unfold Region.wanted; rw [h]
def At (w : World) (g : Nat) (T : TypeId) (n : Nat) (xs : List Value) : Prop := Blk w g T xs ∧ xs.length = n
theorem at_mk {w : World} {g : Nat} {T : TypeId} {n : Nat} {xs : List Value} (h : Blk w g T xs) (hn : xs.length = n) : At w g T n xs := ⟨h, hn⟩
theorem At.blk {w : World} {g : Nat} {T : TypeId} {n : Nat} {xs : List Value} (h : At w g T n xs) : Blk w g T xs := h.1
theorem At.len {w : World} {g : Nat} {T : TypeId} {n : Nat} {xs : List Value} (h : At w g T n xs) : xs.length = n := h.2
theorem At.grow {w w' : World} {g : Nat} {T : TypeId} {n : Nat} {xs : List Value} (h : At w g T n xs) (k : Grow w w') : At w' g T n xs := ⟨h.1.grow k, h.2⟩
theorem At.sl {w : World} {g : Nat} {T : TypeId} {n : Nat} {xs : List Value} (h : At w g T n xs) : Sl w w.heap.size 1 (some ⟨g, 0, none⟩) n xs := h.1.sl (by rw [h.2]; omega)
theorem At.lt {w : World} {g : Nat} {T : TypeId} {n : Nat} {xs : List Value} (h : At w g T n xs) : g < w.heap.size := h.1.lt
theorem At.off {w w' : World} {g g2 : Nat} {T : TypeId} {n : Nat} {xs : List Value} (h : At w g T n xs) (k : w.grownBy w' (some g2)) (hne : g ≠ g2) : At w' g T n xs := ⟨h.1.grown k (by simpa using hne), h.2⟩
theorem var_grow {w w1 w2 : World} (h1 : Below w.heap.size w w1) (hz : w1.heap.size = w.heap.size + 1) (hg : w1.grownBy w2 (some w.heap.size)) : Grow w w2 :=
 h1.grown hg (by omega) (by intro g hg; cases hg; exact Nat.le_refl _)
theorem put_below {w0 w w2 : World} {g : Nat} (h : Below w0.heap.size w0 w) (hg : w0.heap.size ≤ g) (k : w.grownBy w2 (some g)) : Below w0.heap.size w0 w2 :=
 h.grown k h.size (by intro q hq; cases hq; exact hg)
def Cl (n : Nat) (xs : List Value) : Prop := xs.length = n ∧ ∀ u ∈ xs, u.oneCell' = true
theorem Cl.len {n : Nat} {xs : List Value} (h : Cl n xs) : xs.length = n := h.1
theorem Cl.one {n : Nat} {xs : List Value} (h : Cl n xs) : ∀ u ∈ xs, u.oneCell' = true := h.2
section
variable {P : Program} {ops : Array Oper} {rest : List Oper} {o : Oper} {a : Act} {w : World} {Q : Exit → Act → World → Prop}
theorem wpl_store1 (hgd : o.guard = none) {T : TypeId} {x y : Operand} (ho : o.op = .store T x y) {g i : Nat} {t : TypeId} {cs : List Value} {v : Value} (hb : Blk w g t cs) (hx : a.eval x = .pointer (some ⟨g, i, none⟩)) (hy : a.eval y = v)
  (hT : (P.info? T).map (·.size) = some 1) (hv : v.cells = #[v]) (h1 : v.oneCell' = true) (hi : i < cs.length)
  (h : ∀ w', Blk w' g t (cs.set i v) → w.grownBy w' (some g) → w'.heap.size = w.heap.size → wpList P ops Q rest (a.put o.dst undef) w') : wpList P ops Q (o :: rest) a w := by
 refine wpList_plain hgd fun K hK => ?_
 have hc := hb.at_ (List.getElem?_eq_getElem hi)
 have hf := hb.frozen i
 have hrun : (Instr.storeAt T (.pointer (some ⟨g, i, none⟩)) v).run P w = .ok () (w.setCell ⟨g, i, none⟩ v) := by
  obtain ⟨inf, hi2, hs⟩ := Option.map_eq_some_iff.1 hT
  have e0 : Addr.add ⟨g, i, none⟩ 0 = ⟨g, i, none⟩ := by rw [Addr.add_lit]; rfl
  have e1 : (store ⟨g, i, none⟩ v).run P w = .ok () (w.setCell ⟨g, i, none⟩ v) := by rw [run_store _ _ _ _ _ h1]; simp [stored, hc, hf]
  simp [Instr.storeAt, Instr.sureAddr, storeVar, sizeOf, typeInfo, hi2, hs, hv, storeCells, e0, e1]
 unfold Oper.wp execOp
 simp only [ho, hx, hy, Sem.run_bind, hrun, Result.andThen_ok, Sem.run_pure]
 exact hK _ _ (h _ (hb.set_ i v) (grown_set w g i v) (by simp))
end
theorem run_row1 {P : Program} {w : World} {t e : TypeId} {sz bytes : Nat} (HE : ElemT P t e sz bytes) {ys : List Value} (hl : ys.length = sz) (h24 : sz ≤ 16777216) :
  (Instr.buildSlice t 1 #[(0, .agg ys.toArray)]).run P w = .ok (.slice (some ⟨w.heap.size, 0, none⟩) 1 1) (w.alloc (.cells ys.toArray e)) := by
 obtain ⟨i, z, hi, hz, hsz, hby, hzs, h0⟩ := HE.hi
 have h1 : ¬ (16777216 < i.size) := by omega
 have h2 : ¬ (i.size = 0) := by omega
 have hf : Instr.fill (fun k => some (k * i.size, i.size)) ((Array.range i.size).map fun k => z.cells[k % z.cells.size]!) [(0, .agg ys.toArray)] = some ys.toArray := by
  obtain ⟨cs, hcs⟩ : ∃ cs : List Value, cs = ((Array.range i.size).map fun k => z.cells[k % z.cells.size]!).toList := ⟨_, rfl⟩
  have e1 : ((Array.range i.size).map fun k => z.cells[k % z.cells.size]!) = cs.toArray := by rw [hcs]
  have hcl : cs.length = i.size := by rw [hcs]; simp
  rw [e1, fill_cons (off := 0) (s := i.size) (cs := ys) (by simp) rfl (by omega) (by omega), fill_nil]
  congr 2
  unfold splice
  rw [List.drop_of_length_le (by omega)]; simp
 simp [Instr.buildSlice, run_underlying HE.ht, sizeOf, typeInfo, zeroValue, hi, hz, h1, h2, hf, newRow]
theorem wpl_row1 {P : Program} {w : World} {ops : Array Oper} {rest : List Oper} {o : Oper} {a : Act} {Q : Exit → Act → World → Prop} (hgd : o.guard = none) {t : TypeId} {x : Operand} (ho : o.op = .buildSlice t 1 #[(0, x)]) {e : TypeId} {sz bytes : Nat} (HE : ElemT P t e sz bytes) {ys : List Value}
  (hx : a.eval x = .agg ys.toArray) (hl : ys.length = sz) (h24 : sz ≤ 16777216)
  (h : ∀ w', Blk w' w.heap.size e ys → Grow w w' → w'.heap.size = w.heap.size + 1 → wpList P ops Q rest (a.put o.dst (.slice (some ⟨w.heap.size, 0, none⟩) 1 1)) w') : wpList P ops Q (o :: rest) a w := by
 refine wpList_plain hgd fun K hK => ?_
 have hr := run_row1 (P := P) (w := w) HE hl h24
 obtain ⟨n1, n2, n3⟩ := alloc_new w ys.toArray e
 unfold Oper.wp execOp
 simp only [ho, List.map_toArray, List.map_cons, List.map_nil, hx, Sem.run_bind, hr, Result.andThen_ok, Sem.run_pure]
 exact hK _ _ (h _ n1 n2 n3)
def MidAt (w : World) (b off : Nat) (cs : List Value) : Prop := ∀ j u, cs[j]? = some u → w.cell? ⟨b, off + j, none⟩ = some u
end Go.Proofs.YtnnjjbkdjkjnpaaGreatDoor
namespace Go.Proofs.YtnnjjbkdjkjnpaaGreatDoor
open Go.RowKit Go.Shelf
theorem len_id {v : Value} : (List.replicate 32 v).length = 32 := by simp
theorem app_below {w0 w w2 : World} {A : Option Addr} {e : TypeId} {sz n c : Nat} {xs : List Value} (h : Below w0.heap.size w0 w) (ho : w.ownsRow w0.heap.size e sz (.slice A n c) n xs) (k : w.grownBy w2 (A.map Addr.block)) : Below w0.heap.size w0 w2 :=
 below_grown h k h.size (own_from ho)
theorem Dig.at_ {xs : List Value} {d : List UInt8} (h : Dig xs d) {k : Nat} (hk : k < 32) : ∃ x : UInt8, xs[k]? = some (.int .u8 (b8 x)) ∧ d[k]? = some x := by
 have hl := h.2
 refine ⟨d[k]'(by omega), ?_, List.getElem?_eq_getElem (by omega)⟩
 rw [h.1, List.getElem?_map, List.getElem?_eq_getElem (by omega)]; rfl
theorem tbytes_any {xs : List Value} {d : List UInt8} (hx : Dig xs d) (w : World) :
  Calls Tryz.prog 86 #[.agg xs.toArray] w fun e w' => ∃ A' c', e = .returned (.slice A' 32 c') ∧ Sl w' w'.heap.size 1 A' 32 (d.map B) ∧ 32 ≤ c' ∧ Below w.heap.size w w' := by
 have HD := kp hx
 have HB := kp (Below.refl w.heap.size w)
 clear hx
 go_enter Tryz.func86, Tryz.ntmps86
 go_wp2_with (first | (with_reducible refine wpl_box (o := ⟨some 1, _, _, _, _, _⟩) rfl rfl rfl ?_))
 intro w2_ hb2_ hb_ hsz2_
 have HX_ := kp (at_mk hb2_ HD.out.len)
 clear hb2_ hsz2_
 replace HB := kp (HB.out.grow' hb_)
 have HX := HX_
 clear hb_ HX_
 try clear w_
 rename World => w_
 go_wp2_with fail
 go_loopw [3, 4] (fun v i wr => ∃ k : Nat, ∃ A' c', k ≤ 32 ∧ i = .int .i64 k ∧ v = .slice A' k c' ∧ Hid (wr.ownsRow (w.heap.size + 1) 5 1 (.slice A' k c') k (xs.take k)) ∧ Hid (Below w.heap.size w wr) ∧ Hid (At wr w.heap.size 46 32 xs)) (fun _ i _ => 32 - (intOf i).toNat)
 case atStart => exact ⟨0, none, 0, by omega, rfl, rfl, kp (by simpa using World.ownsRow_nil _ _ _ _), HB, HX⟩
 case round =>
  obtain ⟨k, A3, c3, hk, rfl, rfl, hown, hbw, hat⟩ := hrel
  clear HB HX
  by_cases hlt : k < 32
  ·obtain ⟨x, hx, _⟩ := HD.out.at_ hlt
   have hc := hat.out.blk.at_ hx
   have HXK := kp hx
   clear hx
   go_wp2_with (at_builtin; refine wpl_app1 rfl rfl el_u8 hown.out rfl (m := 1) rfl rfl ?_ ?_ ?_ ?_ ?_)
   ·rfl
   ·omega
   ·omega
   ·have := hat.out.lt; omega
   ·intro A4 c4 w4 ho hg hA
    have HO := kp (show w4.ownsRow (w.heap.size + 1) 5 1 (.slice A4 (k + 1) c4) (k + 1) (xs.take (k + 1)) by rw [List.take_add_one, HXK.out]; exact ho)
    have HB := kp (show Below w.heap.size w w4 from hbw.out.grown hg hbw.out.size (fun g hg => by have := own_from hown.out g hg; omega))
    have HX := kp (at_mk (hat.out.blk.grown hg (by intro hh; have := own_from hown.out _ hh.symm; omega)) hat.out.len)
    clear ho hg hA hc
    go_wp2_with fail
    go_roundw
    case rel => exact ⟨k + 1, A4, c4, by omega, by go_num, rfl, HO, HB, HX⟩
    case measure => simp [intOf]; omega
  ·obtain rfl : k = 32 := by omega
   have e : xs.take 32 = d.map B := by rw [List.take_of_length_le (by rw [HD.out.len]; exact Nat.le_refl _), HD.out.1]
   have HO := kp (e ▸ hown.out)
   clear e
   have HC := kp (own_form hown.out (by omega))
   go_wp2_with fail
   go_ret
   exact ⟨A3, c3, rfl, Sl.of_own HO.out, (by obtain ⟨g, _, _, _, h⟩ := HC.out; exact h), hbw.out⟩
end Go.Proofs.YtnnjjbkdjkjnpaaGreatDoor

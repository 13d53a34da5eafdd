/- Contract of slices.Chunk at []byte: the iterator that it hands back. -/
import Derived.Test.YtobmldegjajocaaRe3
import Derived.RangeFuncNested
import Derived.RangeFuncBound
import Derived.RangeFuncCalls
import Derived.RangeFuncLeaves
import Derived.Shelf.Abstract
import Derived.Shelf.RegionOpen
import Derived.OwnWalkIn
import Derived.TacticsInMore
import Derived.LoopNIn
import Derived.LoopIn
import Derived.Laws.CopyOwn
import Derived.Deep.RegionWith
import Derived.Deep.CutRange
import Derived.Deep.CutBlock
import Derived.Laws.IdiomStrings
import Derived.Lib.SlBytesConst
import Derived.Stop.BytesEq
import Derived.Great.FillDense
import Derived.Laws.Tables
import Derived.CallsIn
import Derived.OrdersIn
set_option linter.unusedSimpArgs false
set_option linter.unusedVariables false
set_option maxRecDepth 100000
set_option maxHeartbeats 16000000
namespace Go.Proofs.Ytobmldegjajocaa
open Go.RowKit Go.Shelf
attribute [local go_sem] Oper.semAt_some
theorem row_ne_blk {V : World} {Bd g : Nat} {t : TypeId} {cs : List Value} {row : Option Nat} (hb : Blk V g t cs) (hr : ∀ r, row = some r → Bd ≤ r ∧ ∃ o : Obj, V.heap[r]? = some o ∧ o.isCells = false) : some g ≠ row := by
 intro e;obtain ⟨_, o, ho, hc⟩ := hr g e.symm;unfold Blk at hb;rw [hb] at ho;cases ho
 cases hc
theorem row_ne_own {V : World} {Bd base : Nat} {e : TypeId} {sz n c g : Nat} {xs : List Value} {row : Option Nat} (h : V.ownsRow base e sz (.slice (some ⟨g, 0, none⟩) n c) n xs) (hr : ∀ r, row = some r → Bd ≤ r ∧ ∃ o : Obj, V.heap[r]? = some o ∧ o.isCells = false) : some g ≠ row := by
 intro he;obtain ⟨_, o, ho, hc⟩ := hr g he.symm;rcases h.2 with ⟨hv, _⟩ | ⟨g', cap, cur, hv, _, hg, _⟩
 ·cases hv
 ·injection hv with hA
  cases hA
  rw [hg] at ho;cases ho
  cases hc
theorem keeps_of_below {V V' : World} (h : Below V.heap.size V V') : KeepsOthers V V' :=
 ⟨h.size, fun k o hk _ => (h.block k (Array.getElem?_eq_some_iff.1 hk).1).trans hk⟩
end Go.Proofs.Ytobmldegjajocaa
namespace Go.Proofs.Ytobmldegjajocaa
open Go.RowKit Go.Shelf
attribute [local go_sem ↓ high] add_w
attribute [local go_sem high] xor_w and_w or_w not_w shr_w shl_w wrap_b8
end Go.Proofs.Ytobmldegjajocaa
namespace Go.Proofs.Ytobmldegjajocaa
open Go.RowKit Go.Shelf
attribute [local go_sem ↓ high] add_w
attribute [local go_sem high] xor_w and_w or_w not_w shr_w shl_w wrap_b8
def orUpto (a b : List UInt8) (k : Nat) : UInt8 := (List.range k).foldl (fun x i => x ||| ((a[i]?.getD 0) ^^^ (b[i]?.getD 0))) 0
attribute [irreducible] orUpto
attribute [local go_sem high] xor_b or_b
end Go.Proofs.Ytobmldegjajocaa
namespace Go.Proofs.Ytobmldegjajocaa
open Go.RowKit
section
variable {P : Program} {l : List Oper} {n : Nat}
end
end Go.Proofs.Ytobmldegjajocaa
namespace Go.Proofs.Ytobmldegjajocaa
open Go.RowKit Go.Shelf
def digB (n : Nat) : UInt8 := if n < 10 then UInt8.ofNat (48 + n) else UInt8.ofNat (87 + n)
def hexB (bs : List UInt8) : List UInt8 := bs.flatMap fun x => [digB (x.toNat / 16), digB (x.toNat % 16)]
def digStr : ByteArray := ⟨#[48, 49, 50, 51, 52, 53, 54, 55, 56, 57, 97, 98, 99, 100, 101, 102]⟩
theorem digStr_size : digStr.size = 16 := by decide +kernel
theorem fold_digStr : (⟨#[48, 49, 50, 51, 52, 53, 54, 55, 56, 57, 97, 98, 99, 100, 101, 102]⟩ : ByteArray) = digStr := rfl
theorem digStr_at : ∀ i : Fin 16, (digStr[i.val]?).getD 0 = digB i.val := by decide +kernel
theorem run_index_digits {P : Program} (w : World) (t : TypeId) (k : IntKind) (i : Int) (h : P.underlying t = some .string) (h0 : 0 ≤ i) (h1 : i ≤ 15) :
  (Instr.index t (.string digStr) (.int k i)).run P w = .ok (.int .u8 (b8 (digB i.toNat))) w := by
 have hi : 0 ≤ i ∧ i < (digStr.size : Int) := by rw [digStr_size]; omega
 have h2 : i.toNat < digStr.size := by rw [digStr_size]; omega
 rw [run_index_string w t digStr k i h, dif_pos hi];have := digStr_at ⟨i.toNat, by omega⟩;simp only [ByteArray.getElem?_lt' _ _ h2, Option.getD_some] at this;rw [this]; rfl
attribute [irreducible] hexB digB digStr
attribute [local go_sem high] fold_digStr run_index_digits
end Go.Proofs.Ytobmldegjajocaa
namespace Go.Proofs.Ytobmldegjajocaa
open Go.RowKit Go.Shelf
theorem conv_abc (w : World) : (convert 36 36 (.slice (some ⟨w.heap.size, 0, none⟩) 3 3)).run Try.prog (w.alloc (.cells #[.int .u8 97, .int .u8 98, .int .u8 99] 5)) = .ok (.slice (some ⟨w.heap.size, 0, none⟩) 3 3) (w.alloc (.cells #[.int .u8 97, .int .u8 98, .int .u8 99] 5 (3, 4))) :=
 Go.Lib.run_convert_bytes_const w 36 5 #[.int .u8 97, .int .u8 98, .int .u8 99] 3 3 Try.underlying36 (by kernel_rfl)
attribute [local go_sem high] conv_abc
end Go.Proofs.Ytobmldegjajocaa
namespace Go.Proofs.Ytobmldegjajocaa
open Go.RowKit Go.Shelf
theorem eql_ids (a b : List UInt8) (ha : a.length = 32) (hb : b.length = 32) (w : World) : (binOp .eql 29 (.agg (a.map B).toArray) (.agg (b.map B).toArray)).run Try.prog w = .ok (.bool (a == b)) w :=
 run_eql_bytes w 29 5 32 Try.underlying29 (by kernel_rfl) (fun w => by
  obtain ⟨i, hi, hs⟩ := Option.map_eq_some_iff.1 (show (Try.prog.info? 5).map (·.size) = some 1 by kernel_rfl)
  simp [sizeOf, typeInfo, hi, hs]) a b ha hb
def Dig (xs : List Value) (d : List UInt8) : Prop := xs = d.map B ∧ d.length = 32
theorem Dig.len {xs : List Value} {d : List UInt8} (h : Dig xs d) : xs.length = 32 := by rw [h.1, List.length_map, h.2]
theorem Dig.one {xs : List Value} {d : List UInt8} (h : Dig xs d) : ∀ u ∈ xs, u.oneCell' = true := by rw [h.1]; exact all_bytes d
theorem Dig.eql {xs ys : List Value} {a b : List UInt8} (h : Dig xs a) (k : Dig ys b) (w : World) : (binOp .eql 29 (.agg xs.toArray) (.agg ys.toArray)).run Try.prog w = .ok (.bool (a == b)) w := by
 rw [h.1, k.1]; exact eql_ids a b h.2 k.2 w
theorem Dig.neq {xs ys : List Value} {a b : List UInt8} (h : Dig xs a) (k : Dig ys b) (w : World) : (binOp .neq 29 (.agg xs.toArray) (.agg ys.toArray)).run Try.prog w = .ok (.bool (a != b)) w := by
 have e := h.eql k w;unfold binOp at e ⊢;simp only [Sem.run_bind] at e ⊢;generalize (Op.equal 29 (.agg xs.toArray) (.agg ys.toArray)).run Try.prog w = r at *;cases r with
 | ok v w' =>
  simp only [Result.andThen_ok, Sem.run_pure, Result.ok.injEq, Value.bool.injEq] at e ⊢;obtain ⟨rfl, rfl⟩ := e;exact ⟨rfl, rfl⟩
 | halt x w' => simp [Result.andThen] at e
open Go.RowKit
theorem fill_nil {place : Nat → Option (Nat × Nat)} {cells : List Value} : Instr.fill place cells.toArray [] = some cells.toArray := rfl
theorem splice_get {α : Type} (L cs : List α) (off k : Nat) (h : off + cs.length ≤ L.length) : (splice L off cs)[k]? = if off ≤ k ∧ k < off + cs.length then cs[k - off]? else L[k]? := by
 unfold splice;have hl : (L.take off).length = off := by rw [List.length_take]; omega
 by_cases h1 : k < off
 ·rw [if_neg (by omega), List.getElem?_append_left (by omega), List.getElem?_take, if_pos h1]
 ·rw [List.getElem?_append_right (by omega), hl];by_cases h2 : k - off < cs.length
  ·rw [if_pos (by omega), List.getElem?_append_left h2]
  ·rw [if_neg (by omega), List.getElem?_append_right (by omega), List.getElem?_drop]
   congr 1; omega
theorem fill_cons {place : Nat → Option (Nat × Nat)} {cells cs : List Value} {i off s : Nat} {v : Value} {rest : List (Nat × Value)} (hp : place i = some (off, s)) (hv : v.cells = cs.toArray) (hs : cs.length = s) (hle : off + s ≤ cells.length) :
  Instr.fill place cells.toArray ((i, v) :: rest) = Instr.fill place (splice cells off cs).toArray rest := by
 conv => lhs; unfold Instr.fill
 simp only [hp];have hsz : v.cells.size = s := by rw [hv]; simpa using hs
 rw [if_neg (by simp [hsz]; omega)]
 congr 1
 obtain ⟨h1, h2⟩ := Great.foldl_set off cs 0 cells.toArray
 have e : (v.cells.zipIdx.foldl (fun cs (x : Value × Nat) => cs.setIfInBounds (off + x.2) x.1) cells.toArray) = ((cs.zipIdx 0).foldl (fun cs (x : Value × Nat) => cs.setIfInBounds (off + x.2) x.1) cells.toArray) := by
  rw [hv, ← Array.foldl_toList, Array.toList_zipIdx]
 refine Eq.trans e ?_
 apply Array.ext_getElem?
 intro k;rw [h2 k];simp only [Nat.add_zero, List.size_toArray, List.getElem?_toArray];rw [splice_get _ _ _ _ (by omega)];by_cases hk : off ≤ k ∧ k < off + cs.length
 ·rw [if_pos ⟨hk.1, hk.2, by omega⟩, if_pos hk]
 ·rw [if_neg (fun h => hk ⟨h.1, h.2.1⟩), if_neg hk]
theorem splice_mid {α : Type} {pre old post new : List α} {off : Nat} (h1 : pre.length = off) (h2 : old.length = new.length) : splice (pre ++ (old ++ post)) off new = pre ++ (new ++ post) := by
 unfold splice;rw [← h1, List.take_left, ← h2, ← List.drop_drop, List.drop_left, List.drop_left]
section
variable {P : Program} {ops : Array Oper} {rest : List Oper} {o : Oper} {a : Act} {w : World} {Q : Exit → Act → World → Prop}
theorem exec_build {ev : Operand → Value} {t : TypeId} {parts : Array (Nat × Operand)} {cells : List Value} (ho : o.op = .build t parts) (h : P.built t (parts.toList.map fun (i, x) => (i, ev x)) = some cells.toArray) (w : World) :
  (execOp ev o).run P w = .ok (.value (.agg cells.toArray)) w := by
 unfold execOp;simp only [ho, Sem.run_bind, run_build w t (parts.map fun (i, x) => (i, ev x)) _ (by rw [Array.toList_map]; exact h), Result.andThen_ok]
 rfl
theorem wpl_build (hgd : o.guard = none) {t : TypeId} {parts : Array (Nat × Operand)} (ho : o.op = .build t parts) {cells : List Value} (h : P.built t (parts.toList.map fun (i, x) => (i, a.eval x)) = some cells.toArray)
  (hk : wpList P ops Q rest (a.put o.dst (.agg cells.toArray)) w) : wpList P ops Q (o :: rest) a w := by
 refine wpList_plain hgd fun K hK => ?_
 unfold Oper.wp;rw [exec_build ho h w];exact hK _ _ hk
end
end Go.Proofs.Ytobmldegjajocaa
namespace Go.Proofs.Ytobmldegjajocaa
open Go.RowKit
theorem wanted_none {o : Oper} {y : Nat → Option Bool} (h : o.guard = none) : Region.wanted o y = true := by unfold Region.wanted; rw [h]
def At (w : World) (g : Nat) (T : TypeId) (n : Nat) (xs : List Value) : Prop := Blk w g T xs ∧ xs.length = n
theorem at_mk {w : World} {g : Nat} {T : TypeId} {n : Nat} {xs : List Value} (h : Blk w g T xs) (hn : xs.length = n) : At w g T n xs := ⟨h, hn⟩
theorem At.blk {w : World} {g : Nat} {T : TypeId} {n : Nat} {xs : List Value} (h : At w g T n xs) : Blk w g T xs := h.1
theorem At.len {w : World} {g : Nat} {T : TypeId} {n : Nat} {xs : List Value} (h : At w g T n xs) : xs.length = n := h.2
theorem At.grow {w w' : World} {g : Nat} {T : TypeId} {n : Nat} {xs : List Value} (h : At w g T n xs) (k : Grow w w') : At w' g T n xs := ⟨h.1.grow k, h.2⟩
theorem At.sl {w : World} {g : Nat} {T : TypeId} {n : Nat} {xs : List Value} (h : At w g T n xs) : Sl w w.heap.size 1 (some ⟨g, 0, none⟩) n xs := h.1.sl (by rw [h.2]; omega)
theorem At.lt {w : World} {g : Nat} {T : TypeId} {n : Nat} {xs : List Value} (h : At w g T n xs) : g < w.heap.size := h.1.lt
theorem At.off {w w' : World} {g g2 : Nat} {T : TypeId} {n : Nat} {xs : List Value} (h : At w g T n xs) (k : w.grownBy w' (some g2)) (hne : g ≠ g2) : At w' g T n xs := ⟨h.1.grown k (by simpa using hne), h.2⟩
theorem var_grow {w w1 w2 : World} (h1 : Below w.heap.size w w1) (hz : w1.heap.size = w.heap.size + 1) (hg : w1.grownBy w2 (some w.heap.size)) : Grow w w2 :=
 h1.grown hg (by omega) (by intro g hg; cases hg; exact Nat.le_refl _)
theorem put_below {w0 w w2 : World} {g : Nat} (h : Below w0.heap.size w0 w) (hg : w0.heap.size ≤ g) (k : w.grownBy w2 (some g)) : Below w0.heap.size w0 w2 :=
 h.grown k h.size (by intro q hq; cases hq; exact hg)
def Cl (n : Nat) (xs : List Value) : Prop := xs.length = n ∧ ∀ u ∈ xs, u.oneCell' = true
theorem Cl.len {n : Nat} {xs : List Value} (h : Cl n xs) : xs.length = n := h.1
theorem Cl.one {n : Nat} {xs : List Value} (h : Cl n xs) : ∀ u ∈ xs, u.oneCell' = true := h.2
section
variable {P : Program} {ops : Array Oper} {rest : List Oper} {o : Oper} {a : Act} {w : World} {Q : Exit → Act → World → Prop}
theorem wpl_store1 (hgd : o.guard = none) {T : TypeId} {x y : Operand} (ho : o.op = .store T x y) {g i : Nat} {t : TypeId} {cs : List Value} {v : Value} (hb : Blk w g t cs) (hx : a.eval x = .pointer (some ⟨g, i, none⟩)) (hy : a.eval y = v)
  (hT : (P.info? T).map (·.size) = some 1) (hv : v.cells = #[v]) (h1 : v.oneCell' = true) (hi : i < cs.length)
  (h : ∀ w', Blk w' g t (cs.set i v) → w.grownBy w' (some g) → w'.heap.size = w.heap.size → wpList P ops Q rest (a.put o.dst undef) w') : wpList P ops Q (o :: rest) a w := by
 refine wpList_plain hgd fun K hK => ?_
 have hc := hb.at_ (List.getElem?_eq_getElem hi);have hf := hb.frozen i
 have hrun : (Instr.storeAt T (.pointer (some ⟨g, i, none⟩)) v).run P w = .ok () (w.setCell ⟨g, i, none⟩ v) := by
  obtain ⟨inf, hi2, hs⟩ := Option.map_eq_some_iff.1 hT;have e0 : Addr.add ⟨g, i, none⟩ 0 = ⟨g, i, none⟩ := by rw [Addr.add_lit]; rfl
  have e1 : (store ⟨g, i, none⟩ v).run P w = .ok () (w.setCell ⟨g, i, none⟩ v) := by rw [run_store _ _ _ _ _ h1]; simp [stored, hc, hf]
  simp [Instr.storeAt, Instr.sureAddr, storeVar, sizeOf, typeInfo, hi2, hs, hv, storeCells, e0, e1]
 unfold Oper.wp execOp;simp only [ho, hx, hy, Sem.run_bind, hrun, Result.andThen_ok, Sem.run_pure];exact hK _ _ (h _ (hb.set_ i v) (grown_set w g i v) (by simp))
end
theorem run_row1 {P : Program} {w : World} {t e : TypeId} {sz bytes : Nat} (HE : ElemT P t e sz bytes) {ys : List Value} (hl : ys.length = sz) (h24 : sz ≤ 16777216) :
  (Instr.buildSlice t 1 #[(0, .agg ys.toArray)]).run P w = .ok (.slice (some ⟨w.heap.size, 0, none⟩) 1 1) (w.alloc (.cells ys.toArray e)) := by
 obtain ⟨i, z, hi, hz, hsz, hby, hzs, h0⟩ := HE.hi;have h1 : ¬ (16777216 < i.size) := by omega
 have h2 : ¬ (i.size = 0) := by omega
 have hf : Instr.fill (fun k => some (k * i.size, i.size)) ((Array.range i.size).map fun k => z.cells[k % z.cells.size]!) [(0, .agg ys.toArray)] = some ys.toArray := by
  obtain ⟨cs, hcs⟩ : ∃ cs : List Value, cs = ((Array.range i.size).map fun k => z.cells[k % z.cells.size]!).toList := ⟨_, rfl⟩;have e1 : ((Array.range i.size).map fun k => z.cells[k % z.cells.size]!) = cs.toArray := by rw [hcs]
  have hcl : cs.length = i.size := by rw [hcs]; simp
  rw [e1, fill_cons (off := 0) (s := i.size) (cs := ys) (by simp) rfl (by omega) (by omega), fill_nil]
  congr 2
  unfold splice;rw [List.drop_of_length_le (by omega)]; simp
 simp [Instr.buildSlice, run_underlying HE.ht, sizeOf, typeInfo, zeroValue, hi, hz, h1, h2, hf, newRow]
theorem wpl_row1 {P : Program} {w : World} {ops : Array Oper} {rest : List Oper} {o : Oper} {a : Act} {Q : Exit → Act → World → Prop} (hgd : o.guard = none) {t : TypeId} {x : Operand} (ho : o.op = .buildSlice t 1 #[(0, x)]) {e : TypeId} {sz bytes : Nat} (HE : ElemT P t e sz bytes) {ys : List Value}
  (hx : a.eval x = .agg ys.toArray) (hl : ys.length = sz) (h24 : sz ≤ 16777216)
  (h : ∀ w', Blk w' w.heap.size e ys → Grow w w' → w'.heap.size = w.heap.size + 1 → wpList P ops Q rest (a.put o.dst (.slice (some ⟨w.heap.size, 0, none⟩) 1 1)) w') : wpList P ops Q (o :: rest) a w := by
 refine wpList_plain hgd fun K hK => ?_
 have hr := run_row1 (P := P) (w := w) HE hl h24;obtain ⟨n1, n2, n3⟩ := alloc_new w ys.toArray e;unfold Oper.wp execOp;simp only [ho, List.map_toArray, List.map_cons, List.map_nil, hx, Sem.run_bind, hr, Result.andThen_ok, Sem.run_pure];exact hK _ _ (h _ n1 n2 n3)
theorem wpl_loadmw {P : Program} {ops : Array Oper} {rest : List Oper} {o : Oper} {a : Act} {w : World} {Q : Exit → Act → World → Prop} (hw : Region.wanted o (yielded ops a.tmps) = true) {T : TypeId} {x : Operand} (ho : o.op = .load T x) {n : Nat} (hT : RowT P T n) {b off : Nat} {cs : List Value} (hc : ∀ j u, cs[j]? = some u → w.cell? ⟨b, off + j, none⟩ = some u) (hx : a.eval x = .pointer (some ⟨b, off, none⟩)) (hn : cs.length = n)
  (h : wpList P ops Q rest (a.put o.dst (.agg cs.toArray)) w) : wpList P ops Q (o :: rest) a w := by
 refine wpl_wanted hw fun K hK => ?_
 obtain ⟨d, hu, hd, hi⟩ := hT;have hrun := run_loadVar_mid (P := P) w b off T cs d hc hu (by cases d <;> simp_all) (by rw [hi, hn]);unfold Oper.wp execOp;simp only [ho, hx, Instr.loadAt, Instr.sureAddr, Sem.run_bind, Sem.run_pure, Result.andThen_ok, hrun];exact hK _ _ h
theorem wlw {P : Program} {ops : Array Oper} {rest : List Oper} {a : Act} {w : World} {Q : Exit → Act → World → Prop} {ty : TypeId} {ps : String} {af : Array Edge} {gd : Option (Nat × Bool)} (s : Nat) {T : TypeId} {x : Operand} {n : Nat} (hT : RowT P T n) {b off : Nat} {cs : List Value} (hc : ∀ j u, cs[j]? = some u → w.cell? ⟨b, off + j, none⟩ = some u) (hn : cs.length = n) (h : wpList P ops Q rest (a.put (some s) (.agg cs.toArray)) w) (hw : Region.wanted ⟨some s, .load T x, ty, ps, af, gd⟩ (yielded ops a.tmps) = true := by first | rfl | (go_simp; done) | fail) (hx : a.eval x = .pointer (some ⟨b, off, none⟩) := by with_unfolding_all exact rfl) : wpList P ops Q (⟨some s, .load T x, ty, ps, af, gd⟩ :: rest) a w := wpl_loadmw hw rfl hT hc hx hn h
end Go.Proofs.Ytobmldegjajocaa
namespace Go.Proofs.Ytobmldegjajocaa
open Go.RowKit Go.Shelf
theorem len_id {v : Value} : (List.replicate 32 v).length = 32 := by simp
def OwnAt (w : World) (base : Nat) (A : Option Addr) (n c : Nat) (xs : List Value) : Prop := w.ownsRow base 5 1 (.slice A n c) n xs
theorem wrap64_in (x : Int) (h : -9223372036854775808 ≤ x ∧ x ≤ 9223372036854775807) : RowKit.wrap64 x = x := by unfold RowKit.wrap64; omega
def leB (n : Nat) : List UInt8 := if h : n = 0 then [] else UInt8.ofNat n :: leB (n / 256)
termination_by n
decreasing_by exact Nat.div_lt_self (Nat.pos_of_ne_zero h) (by omega)
theorem leB_zero : leB 0 = [] := by rw [leB]; rfl
theorem leB_pos {n : Nat} (h : n ≠ 0) : leB n = UInt8.ofNat n :: leB (n / 256) := by rw [leB, dif_neg h]
def lenB (n : Nat) : Nat := (leB n).length
theorem lenB_zero : lenB 0 = 0 := by rw [lenB, leB_zero]; rfl
theorem lenB_pos {n : Nat} (h : n ≠ 0) : lenB n = lenB (n / 256) + 1 := by rw [lenB, leB_pos h]; rfl
theorem lenB_le : ∀ (k n : Nat), n < 256 ^ k → lenB n ≤ k
 | 0, n, h => by obtain rfl : n = 0 := by simpa using h
                 rw [lenB_zero]; omega
 | k + 1, n, h => by
  by_cases hn : n = 0
  ·rw [hn, lenB_zero]; omega
  ·rw [lenB_pos hn];have := lenB_le k (n / 256) (by rw [Nat.pow_succ] at h; omega);omega
theorem lenB_64 {n : Nat} (h : n ≤ 18446744073709551615) : lenB n ≤ 8 := lenB_le 8 n (by omega)
def numB (n : Nat) : List UInt8 := UInt8.ofNat (lenB n) :: (leB n).reverse
theorem numB_len (n : Nat) : (numB n).length = lenB n + 1 := by rw [numB, List.length_cons, List.length_reverse]; rfl
theorem numB_le {n : Nat} (h : n ≤ 18446744073709551615) : (numB n).length ≤ 9 := by rw [numB_len]; have := lenB_64 h; omega
theorem leB_len (n : Nat) : (leB n).length = lenB n := rfl
theorem take_snoc {α : Type} {l : List α} {t : Nat} {x : α} (h : l[t]? = some x) : l.take (t + 1) = l.take t ++ [x] := by
 rw [List.take_add_one, h]; rfl
theorem b8_ofNat (n : Nat) : b8 (UInt8.ofNat n) = ((n % 256 : Nat) : Int) := by unfold b8; rw [UInt8.toNat_ofNat']
attribute [irreducible] lenB numB
structure Kept (K : Nat → Prop) (w w' : World) : Prop where
 os : w'.os = w.os
 tape : w'.tape = w.tape
 output : w'.output = w.output
 size : w.heap.size ≤ w'.heap.size
 block : ∀ k, K k → w'.heap[k]? = w.heap[k]?
section
variable {K : Nat → Prop} {w w1 w2 : World}
theorem Kept.refl (K : Nat → Prop) (w : World) : Kept K w w := ⟨rfl, rfl, rfl, Nat.le_refl _, fun _ _ => rfl⟩
theorem Kept.trans (h : Kept K w w1) (k : Kept K w1 w2) : Kept K w w2 := ⟨k.os.trans h.os, k.tape.trans h.tape, k.output.trans h.output, Nat.le_trans h.size k.size, fun i hi => (k.block i hi).trans (h.block i hi)⟩
theorem Kept.of_grow (h : Grow w w1) (hK : ∀ k, K k → k < w.heap.size) : Kept K w w1 := ⟨h.os, h.tape, h.output, h.size, fun k hk => h.block k (hK k hk)⟩
theorem Kept.of_grown {row : Option Nat} (h : w.grownBy w1 row) (hK : ∀ k, K k → k < w.heap.size ∧ row ≠ some k) : Kept K w w1 :=
 ⟨h.os, h.tape, h.output, h.size, fun k hk => h.block k (hK k hk).1 (fun e => (hK k hk).2 e.symm)⟩
theorem Kept.mono {K' : Nat → Prop} (h : Kept K w w1) (hK : ∀ k, K' k → K k) : Kept K' w w1 := ⟨h.os, h.tape, h.output, h.size, fun k hk => h.block k (hK k hk)⟩
theorem Kept.below {Bd : Nat} (h : Kept K w w1) (hB : ∀ k, k < Bd → K k) : Below Bd w w1 := ⟨h.os, h.tape, h.output, h.size, fun k hk => h.block k (hB k hk)⟩
theorem Kept.blk {g : Nat} {t : TypeId} {cs : List Value} (h : Kept K w w1) (hb : Blk w g t cs) (hg : K g) : Blk w1 g t cs := (h.block g hg).trans hb
def PenAt (w : World) (K : Nat → Prop) (g : Nat) (xs : List UInt8) : Prop :=
 ∃ A c, Blk w g 62 [.slice A xs.length c] ∧ w.ownsRow 0 5 1 (.slice A xs.length c) xs.length (xs.map B) ∧ (∀ k, K k → k < w.heap.size ∧ k ≠ g ∧ A.map Addr.block ≠ some k) ∧ A.map Addr.block ≠ some g
theorem own_lt {base : Nat} {e : TypeId} {sz n c : Nat} {A : Option Addr} {ys : List Value} (h : w.ownsRow base e sz (.slice A n c) n ys) : ∀ g, A.map Addr.block = some g → g < w.heap.size := by
 rcases h.2 with ⟨hv, _⟩ | ⟨g, cap, cur, hv, _, hh, _⟩
 ·injection hv with hA; subst hA; intro g hg; cases hg
 ·injection hv with hA; subst hA
  intro g' hg';obtain rfl : g = g' := by simpa using hg'
  exact (Array.getElem?_eq_some_iff.1 hh).1
theorem PenAt.grow {g : Nat} {xs : List UInt8} (h : PenAt w K g xs) (k : Grow w w1) : PenAt w1 K g xs := by
 obtain ⟨A, c, h1, h2, h3, h4⟩ := h;exact ⟨A, c, h1.grow k, h2.grow k, fun j hj => ⟨Nat.lt_of_lt_of_le (h3 j hj).1 k.size, (h3 j hj).2⟩, h4⟩
theorem PenAt.lt {g : Nat} {xs : List UInt8} (h : PenAt w K g xs) : g < w.heap.size := by obtain ⟨A, c, h1, _⟩ := h; exact h1.lt
theorem PenAt.less {K' : Nat → Prop} {g : Nat} {xs : List UInt8} (h : PenAt w K g xs) (hK : ∀ k, K' k → K k) : PenAt w K' g xs := by
 obtain ⟨A, c, h1, h2, h3, h4⟩ := h;exact ⟨A, c, h1, h2, fun j hj => h3 j (hK j hj), h4⟩
theorem PenAt.more {K' : Nat → Prop} {g : Nat} {xs : List UInt8} (h : PenAt w K g xs) (k : Grow w w1) (hK : ∀ j, K' j → K j ∨ (w.heap.size ≤ j ∧ j < w1.heap.size)) : PenAt w1 K' g xs := by
 have hlt := h.lt;obtain ⟨A, c, h1, h2, h3, h4⟩ := h;refine ⟨A, c, h1.grow k, h2.grow k, fun j hj => ?_, h4⟩;rcases hK j hj with hk | ⟨ha, hb⟩
 ·exact ⟨Nat.lt_of_lt_of_le (h3 j hk).1 k.size, (h3 j hk).2⟩
 ·exact ⟨hb, by omega, fun e => by have := own_lt h2 j e; omega⟩
theorem PenAt.new {g : Nat} (h : Blk w g 62 [.slice none 0 0]) (hK : ∀ k, K k → k < w.heap.size ∧ k ≠ g) : PenAt w K g [] :=
 ⟨none, 0, h, World.ownsRow_nil w _ _ _, fun k hk => ⟨(hK k hk).1, (hK k hk).2, by simp⟩, by simp⟩
theorem pen_app {g c c' : Nat} {A A' : Option Addr} {xs ys : List UInt8} (h1 : Blk w g 62 [.slice A xs.length c]) (h2 : w.ownsRow 0 5 1 (.slice A xs.length c) xs.length (xs.map B))
  (h3 : ∀ k, K k → k < w.heap.size ∧ k ≠ g ∧ A.map Addr.block ≠ some k) (h4 : A.map Addr.block ≠ some g)
  (ho : w1.ownsRow 0 5 1 (.slice A' ys.length c') ys.length (ys.map B)) (hg : w.grownBy w1 (A.map Addr.block)) (hA : ∀ b, A'.map Addr.block = some b → A.map Addr.block = some b ∨ w.heap.size ≤ b) :
  PenAt (w1.setCell ⟨g, 0, none⟩ (.slice A' ys.length c')) K g ys ∧ Kept K w (w1.setCell ⟨g, 0, none⟩ (.slice A' ys.length c')) := by
 have hlt := h1.lt;have hne : A'.map Addr.block ≠ some g := fun e => by rcases hA g e with h | h <;> first | exact h4 h | omega
 have hk : Kept K w w1 := Kept.of_grown hg (fun k hk => ⟨(h3 k hk).1, (h3 k hk).2.2⟩);have hs := grown_set w1 g 0 (.slice A' ys.length c');refine ⟨⟨A', c', ?_, own_kept ho hs (fun k e => by rw [e] at hne; intro e2; injection e2 with e3; exact hne (by simp [e3])), fun k hkk => ⟨?_, (h3 k hkk).2.1, fun e => ?_⟩, hne⟩, hk.trans (Kept.of_grown hs (fun k hkk => ⟨Nat.lt_of_lt_of_le (h3 k hkk).1 hk.size, fun e => (h3 k hkk).2.1 (by injection e with e; exact e.symm)⟩))⟩
 ·have := (h1.grown hg (fun e => h4 e.symm)).set_ 0 (.slice A' ys.length c');simpa using this
 ·exact Nat.lt_of_lt_of_le (Nat.lt_of_lt_of_le (h3 k hkk).1 hk.size) hs.size
 ·rcases hA k e with h | h
  ·exact (h3 k hkk).2.2 h
  ·have := (h3 k hkk).1; omega
end
end Go.Proofs.Ytobmldegjajocaa
namespace Go.Proofs.Ytobmldegjajocaa
open Go.RowKit Go.Shelf
theorem back_any (A : Option Addr) (n c : Nat) (w : World) :
  Calls Try.prog 59 #[.slice A n c] w fun e w' => e = .returned (.func (.func 102) #[] #[.pointer (some ⟨w.heap.size, 0, none⟩)]) ∧
   w'.cell? ⟨w.heap.size, 0, none⟩ = some (.slice A n c) ∧ w'.heap.size = w.heap.size + 1 ∧ Below w.heap.size w w' := by
 go_enter Try.func59, Try.ntmps59
 go_wp2_with fail;go_ret
 exact ⟨rfl, by simp, by simp, (Below.refl _ _).alloc (Nat.le_refl _) _⟩
def nthB (ys : List UInt8) (k : Nat) : UInt8 := ys.getD (ys.length - 1 - k) 0
theorem back1_any (m : Nat) (hm : 1 ≤ m) (l Bs bl n c : Nat) (A : Option Addr) (ys : List UInt8) (hA : 1 ≤ n → A = some ⟨bl, 0, none⟩) (hn : ys.length = n) (hc : n ≤ c) (hnb : n ≤ 1000000) (Kp : World → World → Prop) (hKd : ∀ W n, Kp W (World.drewN W n)) (hKt : ∀ A B C : World, Kp A B → Kp B C → Kp A C)
  (hKs : ∀ W W', Kp W W' → W'.cell? ⟨Bs, 0, none⟩ = W.cell? ⟨Bs, 0, none⟩) (hKb : ∀ W W', Kp W W' → 1 ≤ n → ∀ j, W'.cell? ⟨bl, j, none⟩ = W.cell? ⟨bl, j, none⟩) (J Jx : List (Fin n) → World → Prop) (hJd : ∀ pre W1 n, J pre W1 → J pre (W1.drewN n))
  (hY : ∀ pre x W, J pre W → pre.length < n → YieldAt Fence.wide (m - 1) Try.prog l #[.int .i64 ((n : Int) - 1 - (x.val : Int)), .int .u8 (b8 (nthB ys x.val))] W fun e W' =>
    (e = .returned (.bool true) ∧ J (pre ++ [x]) W' ∧ Kp W W') ∨ (e = .returned (.bool false) ∧ Jx (pre ++ [x]) W'))
  (W : World) (hBs : W.cell? ⟨Bs, 0, none⟩ = some (.slice A n c)) (hRe : ∀ j y, ys[j]? = some y → W.cell? ⟨bl, j, none⟩ = some (B y)) (h0 : J [] W) :
  Calls Try.prog 102 #[.func (.yield l) #[] #[], .pointer (some ⟨Bs, 0, none⟩)] W fun e W' => (∃ v, e = .returned v) ∧
   ((∃ zs, zs.map Fin.val = List.range n ∧ J zs W') ∨ (∃ pre, True ∧ Jx pre W')) := by
 have HY := kp hY; clear hY;have HKD := kp hKd; clear hKd;have HKT := kp hKt; clear hKt;have HKS := kp hKs; clear hKs;have HKB := kp hKb; clear hKb;have HJD := kp hJd; clear hJd;have H0 := kp h0; clear h0;have HBS := kp hBs; clear hBs;have HRD := kp hRe; clear hRe;have HA := kp hA; clear hA;have HN := kp hn; clear hn
 go_enter Try.func102, Try.ntmps102
 have c0 := HBS.o;go_wp2_with fail;clear c0;go_loopw [3] (fun i wr => ∃ k : Nat, k ≤ n ∧ i = .int .i64 ((n : Int) - 1 - (k : Int)) ∧ Hid (∃ pre, pre.map Fin.val = List.range k ∧ J pre wr) ∧ Hid (Kp W wr)) (fun i _ => (intOf i + 1).toNat)
 case atStart => exact ⟨0, Nat.zero_le _, by simp, ⟨[], rfl, H0.o⟩, HKD.o W 0⟩
 case round =>
  obtain ⟨k, hk, rfl, hJ, hbw⟩ := hrel;by_cases hlt : k < n
  ·obtain rfl := HA.o (by omega);have c0 := (HKS.o _ _ hbw.o).trans HBS.o;obtain ⟨j, hj1, hj2⟩ : ∃ j : Nat, (n : Int) - 1 - (k : Int) = (j : Int) ∧ j = n - 1 - k := ⟨n - 1 - k, by omega, rfl⟩;have hjn : j < n := by omega
   have hyj : ys[j]? = some (nthB ys k) := by
    unfold nthB;rw [HN.o, ← hj2, List.getD_eq_getElem?_getD, List.getElem?_eq_getElem (by rw [HN.o]; exact hjn)]; rfl
   have c1 : wr.cell? ⟨bl, j, none⟩ = some (.int .u8 (b8 (nthB ys k))) := (HKB.o _ _ hbw.o (by omega) j).trans (HRD.o j _ hyj);obtain ⟨pre, hpre, hJp⟩ := hJ.o;have HPRE := kp hpre;have hlen : pre.length = k := by have := congrArg List.length hpre; simpa using this
   obtain ⟨fn, tmps, assign, body, hy, hR⟩ := HY.o pre ⟨k, hlt⟩ wr hJp (by rw [hlen]; exact hlt);have HR := kp hR;clear hR hJp hpre hlen hJ hyj
   dsimp only at hy
   rw [hj1] at hy ⊢;have HJ1 := kp hj1;have HJ2 := kp hj2;have hg0 : decide (0 ≤ (j : Int)) = true := by simp
   clear hj1 hj2;repeat' (first | (with_reducible refine (wpIn_wide (n := m) (c := Code.region 3 _ _)).1 ?_) | go_values | go_skip | go_guarded | go_step | go_upon | go_back)
   gi_wp2
   refine HR.o.mono ?_;rintro e W3 (⟨rfl, hJ3, hk3⟩ | ⟨rfl, hJx3⟩)
   ·have HJ3 := kp hJ3;have HK3 := kp (HKT.o _ _ _ hbw.o hk3);clear hJ3 hk3
    gi_wp2
    repeat' (first | go_values | go_skip | go_guarded | go_step | go_upon | go_back)
    go_roundw
    case rel =>
     have h1 := HJ1.o;refine ⟨k + 1, by omega, ?_, ⟨pre ++ [⟨k, hlt⟩], by rw [List.map_append, HPRE.o, List.range_succ]; rfl, HJ3.o⟩, HK3⟩
     congr 1; omega
    case measure => simp [intOf]
   ·have HJX := kp hJx3;clear hJx3
    gi_wp2
    repeat' (first | go_values | go_skip | go_guarded | go_step | go_upon | go_back)
    refine bodyPost_ret (results_none rfl _ _ _) rfl ?_;exact ⟨⟨_, rfl⟩, .inr ⟨_, trivial, HJX.o⟩⟩
  ·obtain rfl : k = n := by omega
   have hg0 : decide (0 ≤ (k : Int) - 1 - (k : Int)) = false := by simp only [decide_eq_false_iff_not]; omega
   go_wp2_with fail
   go_end0
   exact ⟨⟨_, rfl⟩, .inl hJ.o⟩
def Kp2 (a b : Nat) (W W' : World) : Prop := W'.heap[a]? = W.heap[a]? ∧ W'.heap[b]? = W.heap[b]?
theorem back1_stops (m : Nat) (hm : 1 ≤ m) (Bs bl n c : Nat) (A : Option Addr) (ys : List UInt8) (w : World) (hA : 1 ≤ n → A = some ⟨bl, 0, none⟩) (hn : ys.length = n) (hc : n ≤ c) (hnb : n ≤ 1000000) (hbs : Bs < w.heap.size) (hbl : bl < w.heap.size)
  (hBs : w.cell? ⟨Bs, 0, none⟩ = some (.slice A n c)) (hRe : ∀ j y, ys[j]? = some y → w.cell? ⟨bl, j, none⟩ = some (B y)) :
  SeqStopsK Fence.wide m Try.prog 102 #[.pointer (some ⟨Bs, 0, none⟩)] (fun x : Fin n => #[.int .i64 ((n : Int) - 1 - (x.val : Int)), .int .u8 (b8 (nthB ys x.val))]) (Kp2 Bs bl) (fun xs => xs.map Fin.val = List.range n) (fun _ => True) n w := by
 intro l J Jx W hW hJ hJx hY h0;refine callsIn_wide.2 (back1_any m hm l Bs bl n c A ys hA hn hc hnb (Kp2 Bs bl) (fun W n => ⟨rfl, rfl⟩) (fun A B C h1 h2 => ⟨h2.1.trans h1.1, h2.2.trans h1.2⟩) (fun W W' h => World.cell?_of_block h.1) (fun W W' h _ j => World.cell?_of_block h.2) J Jx ?_ hY W ?_ ?_ h0)
 ·intro pre W1 n h;exact hJ pre W1 _ none h ⟨rfl, rfl, rfl, Nat.le_refl _, fun _ _ _ => rfl⟩ (fun r e => by cases e)
 ·exact (hW.cell (p := ⟨Bs, 0, none⟩) (by show Bs < _; omega)).trans hBs
 ·intro j y hj;exact (hW.cell (p := ⟨bl, j, none⟩) (by show bl < _; omega)).trans (hRe j y hj)
open Go.RowKit
section
variable {P : Program} {md : Region.Mode} {ops : Array Oper} {Fut : World → World → Prop} {cl : List Nat} {Q : Exit → Act → World → Prop} {l n : Nat}
theorem oper_wpIn_round {o : Oper} {a : Act} {w : World} {K : Act → World → Prop} (hd : ∀ c, o.op ≠ .defer c) (h : o.wp P a w K Q) : o.wpIn (Fence.wide.inRound l) n P a w K Q := by
 refine ⟨fun _ _ => trivial, ?_⟩;rw [Oper.semAt_eq _ _ _ hd];unfold Oper.wp at h;generalize (execOp a.eval o).run P w = r at *;cases r with
 | ok x w' =>
  cases x with
  | enter f args => exact ⟨fun hd => (by cases hd), (callsIn_wide.2 h).inRound l⟩
  | row row args => exact ⟨fun hd => (by cases hd), fun c cs _ => let ⟨v, w', r, s⟩ := h c cs; ⟨v, w', r, stepsIn_wide.2 s⟩⟩
  | round l f tmps assign body => exact (show False from h).elim
  | _ => exact h
 | halt x w' => cases x <;> exact h
def noDefer (o : Oper) : Bool := match o.op with | .defer _ => false | _ => true
theorem noDefer_ne {o : Oper} (h : noDefer o = true) : ∀ c, o.op ≠ .defer c := by
 intro c hc; unfold noDefer at h; rw [hc] at h; cases h
theorem wpOpIn_of_F {i : Nat} {K : Act → World → Prop} {a : Act} {w : World} (hnd : ∀ (i : Nat) (o : Oper), ops[i]? = some o → noDefer o = true) (hh : wpOpF P ops Fut cl i K a w) : wpOpIn (Fence.wide.inRound l) n P ops Q i K a w := by
 unfold wpOpF at hh;unfold wpOpIn;cases ho : ops[i]? with
 | none => rw [ho] at hh; exact hh.elim
 | some o =>
  rw [ho] at hh;simp only at hh ⊢;split
  ·rename_i hw;rw [if_pos hw] at hh;refine oper_wpIn_round (noDefer_ne (hnd i o ho)) ?_;split at hh
   ·obtain ⟨v, h1, h2⟩ := hh;unfold Oper.wp; rw [h1]; exact h2
   ·exact oper_wp_no (fun a w h1 => h1.2) hh
  ·rename_i hw; rw [if_neg hw] at hh; exact ⟨fun _ _ => trivial, hh⟩
theorem wpAnyIn_of_F (hnd : ∀ (i : Nat) (o : Oper), ops[i]? = some o → noDefer o = true) : ∀ (f : Nat) (listed : Array Bool) (a : Act) (w : World), wpAnyF P md ops Fut cl Q f listed a w → wpAnyIn (Fence.wide.inRound l) n P md ops Q f listed a w
 | 0, _, _, _, h => h
 | f + 1, _, _, _, h => ⟨h.1, fun i hi => wpOpIn_of_F hnd (wpOpF_mono (fun a w h1 => wpAnyIn_of_F hnd f _ a w h1) (h.2 i hi))⟩
end
theorem wpIn_plan {P : Program} {Q : Exit → Act → World → Prop} {lp n : Nat} {id : Nat} {a : Act} {w : World} {l : List Oper} (Fut : World → World → Prop) (cl : List Nat) (p : Plan) (hm : P.follows .mixedOrders = true) (hB : planOf l cl p = true) (hnd : l.all noDefer = true) (hrefl : ∀ w, Fut w w) (htr : ∀ w1 w2 w3, Fut w1 w2 → Fut w2 w3 → Fut w1 w3)
  (h : ∀ w2, Drawn w w2 → wpS P l.toArray Fut cl Q p a w2) : (Code.region id l.toArray true).wpIn (Fence.wide.inRound lp) n P Q a w := by
 replace h := h w.drew (Drawn.one w);simp only [planOf, Bool.and_eq_true] at hB
 refine wpIn_region_any hm (wpAnyIn_of_F (Fut := Fut) (cl := cl) (fun i o ho => by
  rw [List.getElem?_toArray] at ho
  exact List.all_eq_true.1 hnd o (List.mem_of_getElem? ho)) _ _ _ _ ?_)
 have h0 := wpAnyF_of_plan (Q := Q) (md := .any) hB.1 hrefl htr p l.length [] (Array.replicate l.length false) a w.drew (fun j oj _ hj => by
  rw [Array.getD_eq_getD_getElem?, Array.getElem?_replicate] at hj
  split at hj <;> simp at hj) hB.2 (fun j hj => by cases hj) h
 simpa using h0
end Go.Proofs.Ytobmldegjajocaa

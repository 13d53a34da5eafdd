/- Contracts of sha.bytes, sha.step. -/
import Derived.Test.YtofhohofaedokaaMarksPlayB6
import Derived.RangeFuncNested
import Derived.RangeFuncBound
import Derived.RangeFuncCalls
import Derived.RangeFuncLeaves
import Derived.Shelf.Abstract
import Derived.Shelf.RegionOpen
import Derived.OwnWalkIn
import Derived.TacticsInMore
import Derived.LoopNIn
import Derived.LoopIn
import Derived.Laws.CopyOwn
import Derived.Deep.RegionWith
import Derived.Deep.MidRow
import Derived.Deep.CutRange
import Derived.Deep.CutBlock
import Derived.Test.YtofhohofaedokaaMarksPlayB1
import Derived.Laws.IdiomStrings
import Derived.Lib.SlBytesConst
import Derived.Stop.BytesEq
import Derived.Test.YtofhohofaedokaaMarksPlayB2
import Derived.CallsIn
import Derived.OrdersIn
set_option linter.unusedSimpArgs false
/- Contracts of sha.bytes, sha.step. -/
namespace Go.Proofs.Ytofhohofaedokaa
open Go.RowKit
attribute [local go_sem ↓ high] add_w
attribute [local go_sem high] xor_w and_w or_w not_w shr_w shl_w wrap_b8
set_option linter.unusedVariables false

theorem info_u8 : (Try.prog.info? 5).map (fun i => (i.zero, i.size, i.bytes)) = some (some (.int .u8 0), 1, 1) := by kernel_rfl
theorem el_u8 : ElemT Try.prog 70 5 1 1 := elemT Try.underlying70 info_u8 rfl (by omega)

/-- A program without the tables: nothing is asked of them. -/
def Tabs (w : World) : Prop := w = w
theorem Tabs.below {w w' : World} (h : Tabs w) (hb : Below w.heap.size w w') : Tabs w' := rfl
theorem one8 {a b c d e f g h : Int} : ∀ u ∈ [Value.int .u32 a, .int .u32 b, .int .u32 c, .int .u32 d, .int .u32 e, .int .u32 f, .int .u32 g, .int .u32 h], u.oneCell' = true := by
  intro u hu
  simp at hu
  rcases hu with rfl | rfl | rfl | rfl | rfl | rfl | rfl | rfl <;> rfl
theorem len8 {a b c d e f g h : Value} : [a, b, c, d, e, f, g, h].length = 8 := rfl

end Go.Proofs.Ytofhohofaedokaa

/- Contracts of slices.Grow, slices.Concat at []byte. -/
namespace Go.Proofs.Ytofhohofaedokaa
open Go.RowKit
set_option linter.unusedVariables false

/-- 'append(s[:0], make([]T, n)...)' on nil. -/
theorem run_append_zeros {P : Program} (w : World) (t ti ty e : TypeId) (i : TypeInfo) (z : Value) (ht : P.underlying t = some (.slice e)) (hti : P.underlying ti = some (.int .i64)) (hi : P.info? e = some i) (hz : i.zero = some z)
    (hs : i.size = 1) (hzs : z.cells.size = 1) (n : Nat) (h0 : 0 < n) (hb : n * i.bytes ≤ 140737488355328) (hn : n ≤ 140737488355328) :
    (Builtin.append_ #[t, ti] ty #[.slice none 0 0, .int .i64 (n : Int)]).run P w = .ok (.slice (some ⟨w.heap.size, 0, none⟩) n (grownCap w n 0 e)) (w.drew.alloc (.cells (Builtin.zeroCells z.cells n ++ Builtin.zeroCells z.cells (grownCap w n 0 e - n)) e)) := by
  have h1 : IntKind.i64.wrap (n : Int) = n := IntWalk.i64_in _ (by omega)
  have h2 : ¬ ((n : Int) < 0) := by omega
  have h3 : ¬ (281474976710656 < (n : Int) * (i.bytes : Int)) := by
    have : ((n * i.bytes : Nat) : Int) ≤ 140737488355328 := by omega
    rw [Int.natCast_mul] at this
    omega
  have h4 : ¬ (9223372036854775807 < (n : Int)) := by omega
  have h5 : n ≠ 0 := by omega
  have h6 : ¬ (281474976710656 < Builtin.nextslicecap n 0 * i.bytes) := by rw [nextslicecap_zero h0]; omega
  simp [Builtin.append_, run_underlying ht, run_underlying hti, sizeOf, typeInfo, zeroValue, hi, hz, hs, asInt, asIntOf, h1, h2, h3, h4, h5, h6, Question.forced, run_firstCells_none, newRow, grownCap]

theorem wpl_zeros {P : Program} {w : World} {ops : Array Oper} {rest : List Oper} {o : Oper} {a : Act} {Q : Exit → Act → World → Prop} (hgd : o.guard = none) {s x : Operand} {t ti : TypeId}
    (ho : o.op = .call { callee := .builtin .append, args := #[s, x], argTypes := #[t, ti] }) (hti : P.underlying ti = some (.int .i64))
    {e : TypeId} {bytes : Nat} (HE : ElemT P t e 1 bytes) (hs : a.eval s = .slice none 0 0) {n : Nat} (hx : a.eval x = .int .i64 (n : Int)) (h0 : 0 < n) (hb : n * bytes ≤ 140737488355328) (hn : n ≤ 140737488355328)
    (h : ∀ c w', w'.ownsRow w.heap.size e 1 (.slice (some ⟨w.heap.size, 0, none⟩) 0 c) 0 [] → n ≤ c → Below w.heap.size w w' → wpList P ops Q rest (a.put o.dst (.slice (some ⟨w.heap.size, 0, none⟩) n c)) w') : wpList P ops Q (o :: rest) a w := by
  refine wpList_plain hgd fun K hK => ?_
  obtain ⟨i, z, hi, hz, hsz, hby, hzs, _⟩ := HE.hi
  have hrun := run_append_zeros (P := P) w t ti o.type e i z HE.ht hti hi hz hsz hzs n h0 (by rw [hby]; exact hb) hn
  unfold Oper.wp execOp
  simp only [ho, resolve, invoke, builtin, Sem.run_bind, Sem.run_pure, Result.andThen_ok, List.map_toArray, List.map_cons, List.map_nil, hs, hx, hrun]
  have hge := grownCap_ge w n 0 e
  refine hK _ _ (h _ _ ?_ hge ?_)
  · refine World.ownsRow_made w.drew _ _ (Nat.le_refl _) (grownCap_le_maxLen w n 0 e (by simp only [maxLen]; omega)) ?_
    simp [Builtin.zeroCells, hzs]; omega
  · exact (Below.drew (Below.refl _ _)).alloc (Nat.le_refl _) _

/-- A slice of slices of bytes. -/
def Parts (w : World) (Bd : Nat) (A : Option Addr) (n : Nat) (ps : List (Value × List UInt8)) : Prop :=
  Sl w Bd 1 A n (ps.map Prod.fst) ∧ ∀ p ∈ ps, ∃ A c, p.1 = .slice A p.2.length c ∧ p.2.length ≤ c ∧ Sl w Bd 1 A p.2.length (p.2.map B)

theorem Parts.below {w w' : World} {Bd : Nat} {A : Option Addr} {n : Nat} {ps : List (Value × List UInt8)} (h : Parts w Bd A n ps) (hb : Below Bd w w') : Parts w' Bd A n ps :=
  ⟨h.1.below hb, fun p hp => let ⟨A, c, e, hc, hs⟩ := h.2 p hp; ⟨A, c, e, hc, hs.below hb⟩⟩
theorem Parts.more {w : World} {Bd B' : Nat} {A : Option Addr} {n : Nat} {ps : List (Value × List UInt8)} (h : Parts w Bd A n ps) (hB : Bd ≤ B') : Parts w B' A n ps :=
  ⟨h.1.more hB, fun p hp => let ⟨A, c, e, hc, hs⟩ := h.2 p hp; ⟨A, c, e, hc, hs.more hB⟩⟩
theorem Parts.len {w : World} {Bd : Nat} {A : Option Addr} {n : Nat} {ps : List (Value × List UInt8)} (h : Parts w Bd A n ps) : ps.length = n := by
  have := h.1.len; simpa using this
theorem Parts.at_ {w : World} {Bd : Nat} {A : Option Addr} {n : Nat} {ps : List (Value × List UInt8)} (h : Parts w Bd A n ps) {k : Nat} (hk : k < n) :
    ∃ b off A2 c2 bs, A = some ⟨b, off, none⟩ ∧ ps[k]? = some (.slice A2 bs.length c2, bs) ∧ w.cell? ⟨b, off + k, none⟩ = some (.slice A2 bs.length c2) ∧ bs.length ≤ c2 ∧ Sl w Bd 1 A2 bs.length (bs.map B) := by
  obtain ⟨b, off, u, e, hb, hu, hc⟩ := h.1.at_ hk
  rw [List.getElem?_map] at hu
  obtain ⟨p, h1, rfl⟩ := Option.map_eq_some_iff.1 hu
  obtain ⟨A2, c2, he, hcc, hs⟩ := h.2 p (List.mem_of_getElem? h1)
  exact ⟨b, off, A2, c2, p.2, e, by rw [h1, ← he], by rw [hc, he], hcc, hs⟩

def cat (ps : List (Value × List UInt8)) : List UInt8 := (ps.map Prod.snd).flatten
theorem cat_take (ps : List (Value × List UInt8)) (k : Nat) (p : Value × List UInt8) (h : ps[k]? = some p) : cat (ps.take (k + 1)) = cat (ps.take k) ++ p.2 := by
  unfold cat
  rw [List.take_add_one, h]
  simp
theorem cat_le (ps : List (Value × List UInt8)) (k : Nat) : (cat (ps.take k)).length ≤ (cat ps).length := by
  unfold cat
  conv => rhs; rw [← List.take_append_drop k ps]
  simp only [List.map_append, List.flatten_append, List.length_append]
  omega
attribute [irreducible] cat
theorem bytes_one (bs : List UInt8) : ∀ u ∈ bs.map B, u.oneCell' = true := fun u hu => by obtain ⟨x, _, rfl⟩ := List.mem_map.1 hu; rfl

end Go.Proofs.Ytofhohofaedokaa

/- Contract of slices.Chunk at []byte: the iterator that it hands back. -/
namespace Go.Proofs.Ytofhohofaedokaa
open Go.RowKit Go.Shelf
set_option linter.unusedVariables false

/-- Below n₀ all blocks but gv are as they were. -/
def KeepX (gv n₀ : Nat) (W W' : World) : Prop := ∀ k, k < n₀ → k ≠ gv → W'.heap[k]? = W.heap[k]?

end Go.Proofs.Ytofhohofaedokaa

/- Contract of sha.Sum. -/
namespace Go.Proofs.Ytofhohofaedokaa
open Go.RowKit Go.Shelf
set_option linter.unusedVariables false

theorem i128 : Value.int .u8 128 = B 128 := rfl
theorem i0 : Value.int .u8 0 = B 0 := rfl
theorem zeros_lt (L j : Nat) (h : j < zerosFor L) : (L + 1 + j) % 64 ≠ 56 := by unfold zerosFor at h; omega
theorem zeros_eq (L : Nat) : (L + 1 + zerosFor L) % 64 = 56 := by unfold zerosFor; omega

attribute [local go_sem] Oper.semAt_some

theorem row_ne_blk {V : World} {Bd g : Nat} {t : TypeId} {cs : List Value} {row : Option Nat} (hb : Blk V g t cs) (hr : ∀ r, row = some r → Bd ≤ r ∧ ∃ o : Obj, V.heap[r]? = some o ∧ o.isCells = false) : some g ≠ row := by
  intro e
  obtain ⟨_, o, ho, hc⟩ := hr g e.symm
  unfold Blk at hb
  rw [hb] at ho
  cases ho
  cases hc
theorem row_ne_own {V : World} {Bd base : Nat} {e : TypeId} {sz n c g : Nat} {xs : List Value} {row : Option Nat} (h : V.ownsRow base e sz (.slice (some ⟨g, 0, none⟩) n c) n xs) (hr : ∀ r, row = some r → Bd ≤ r ∧ ∃ o : Obj, V.heap[r]? = some o ∧ o.isCells = false) : some g ≠ row := by
  intro he
  obtain ⟨_, o, ho, hc⟩ := hr g he.symm
  rcases h.2 with ⟨hv, _⟩ | ⟨g', cap, cur, hv, _, hg, _⟩
  · cases hv
  · injection hv with hA
    cases hA
    rw [hg] at ho
    cases ho
    cases hc
theorem keeps_of_below {V V' : World} (h : Below V.heap.size V V') : KeepsOthers V V' :=
  ⟨h.size, fun k o hk _ => (h.block k (Array.getElem?_eq_some_iff.1 hk).1).trans hk⟩

theorem run_copy_blk {P : Program} {w : World} {dT sT ty elem t : TypeId} {go o dl dc gq base : Nat} {xs cs : List Value} {m : Nat} (hu : P.underlying dT = some (.slice elem)) (hs : (P.info? elem).map (·.size) = some 1)
    (hb : Blk w go t xs) (hq : w.ownsRow base elem 1 (.slice (some ⟨gq, 0, none⟩) m m) m cs) (hm : m ≤ dl) (hfit : o + m ≤ xs.length) (h1 : ∀ v ∈ cs, v.oneCell' = true) :
    (Builtin.copy_ #[dT, sT] ty #[.slice (some ⟨go, o, none⟩) dl dc, .slice (some ⟨gq, 0, none⟩) m m]).run P w = .ok (goInt m) (w.setRow go (splice xs o cs).toArray) := by
  have hl : cs.length = m := by have := hq.1; omega
  have h := run_copy_row (P := P) w dT sT ty elem go o dl dc ⟨gq, 0, none⟩ m m xs.toArray t cs hu hs hb (by rw [hl]; exact (Nat.min_eq_left hm).symm) (fun j v hv => by
    have h1 := hq.cellAt j (by have := (List.getElem?_eq_some_iff.1 hv).1; omega)
    rw [hv] at h1
    have e : (Addr.add ⟨gq, 0, none⟩ j) = ⟨gq, j, none⟩ := by simp [Addr.add]; omega
    rw [e]; exact h1) (by simp; omega) h1
  rw [hl] at h
  rw [h]
  simp [splice, hl]
theorem splice_take {α : Type} (xs cs : List α) (o : Nat) (h : o ≤ xs.length) : (splice xs o cs).take (o + cs.length) = xs.take o ++ cs := by
  have hl : (xs.take o ++ cs).length = o + cs.length := by simp; omega
  rw [splice, ← List.append_assoc, ← hl]
  exact List.take_left' rfl
theorem blk_setRow {w : World} {g : Nat} {t : TypeId} {cs xs : List Value} (h : Blk w g t cs) : Blk (w.setRow g xs.toArray) g t xs := setRow_heap w g _ _ t _ h
theorem row_32 : RowT Try.prog 28 32 := ⟨_, Try.underlying28, by kernel_rfl, by kernel_rfl⟩
theorem len32 {v : Value} : (List.replicate 32 v).length = 32 := by simp

end Go.Proofs.Ytofhohofaedokaa

/- Contracts of seisinref03: right, First, Rounds. -/
namespace Go.Proofs.Ytofhohofaedokaa
open Go.RowKit Go.Shelf
set_option linter.unusedVariables false

attribute [local go_sem ↓ high] add_w
attribute [local go_sem high] xor_w and_w or_w not_w shr_w shl_w wrap_b8

theorem info_u32 : (Try.prog.info? 129).map (fun i => (i.zero, i.size, i.bytes)) = some (some (.int .u32 0), 1, 4) := by kernel_rfl
theorem first_vals : (firstSt.toList.map W) = [.int .u32 1779033703, .int .u32 3144134277, .int .u32 1013904242, .int .u32 2773480762, .int .u32 1359893119, .int .u32 2600822924, .int .u32 528734635, .int .u32 1541459225] := by
  simp [firstSt, St.toList, W, w32]
theorem round_vals : (roundKs.map W) = [
    .int .u32 1116352408, .int .u32 1899447441, .int .u32 3049323471, .int .u32 3921009573, .int .u32 961987163, .int .u32 1508970993, .int .u32 2453635748, .int .u32 2870763221, .int .u32 3624381080, .int .u32 310598401, .int .u32 607225278, .int .u32 1426881987, .int .u32 1925078388, .int .u32 2162078206, .int .u32 2614888103, .int .u32 3248222580,
    .int .u32 3835390401, .int .u32 4022224774, .int .u32 264347078, .int .u32 604807628, .int .u32 770255983, .int .u32 1249150122, .int .u32 1555081692, .int .u32 1996064986, .int .u32 2554220882, .int .u32 2821834349, .int .u32 2952996808, .int .u32 3210313671, .int .u32 3336571891, .int .u32 3584528711, .int .u32 113926993, .int .u32 338241895,
    .int .u32 666307205, .int .u32 773529912, .int .u32 1294757372, .int .u32 1396182291, .int .u32 1695183700, .int .u32 1986661051, .int .u32 2177026350, .int .u32 2456956037, .int .u32 2730485921, .int .u32 2820302411, .int .u32 3259730800, .int .u32 3345764771, .int .u32 3516065817, .int .u32 3600352804, .int .u32 4094571909, .int .u32 275423344,
    .int .u32 430227734, .int .u32 506948616, .int .u32 659060556, .int .u32 883997877, .int .u32 958139571, .int .u32 1322822218, .int .u32 1537002063, .int .u32 1747873779, .int .u32 1955562222, .int .u32 2024104815, .int .u32 2227730452, .int .u32 2361852424, .int .u32 2428436474, .int .u32 2756734187, .int .u32 3204031479, .int .u32 3329325298] := by
  simp [roundKs, W, w32]
end Go.Proofs.Ytofhohofaedokaa

/- Contracts of seisinref01.Pick and sha.Same. -/
namespace Go.Proofs.Ytofhohofaedokaa
open Go.RowKit Go.Shelf
set_option linter.unusedVariables false

attribute [local go_sem ↓ high] add_w
attribute [local go_sem high] xor_w and_w or_w not_w shr_w shl_w wrap_b8

theorem tmod_emod (k n : Int) (hn : 0 < n) : -n < k.tmod n ∧ k.tmod n < n ∧ k % n = if k.tmod n < 0 then k.tmod n + n else k.tmod n := by
  have h1 : k.tmod n < n := Int.tmod_lt_of_pos k hn
  have h2 : -n < k.tmod n := by
    have := Int.tmod_lt_of_pos (-k) hn
    rw [Int.neg_tmod] at this
    omega
  have h3 := Int.mul_tdiv_add_tmod k n
  have h4 : k % n = (k.tmod n) % n := by
    conv => lhs; rw [← h3]
    rw [Int.add_comm, Int.add_mul_emod_self_left]
  refine ⟨h2, h1, ?_⟩
  rw [h4]
  split
  · have : k.tmod n % n = (k.tmod n + n) % n := by simp
    rw [this]
    exact Int.emod_eq_of_lt (by omega) (by omega)
  · exact Int.emod_eq_of_lt (by omega) (by omega)

/-- The bytes so far are the same. -/
def orUpto (a b : List UInt8) (k : Nat) : UInt8 := (List.range k).foldl (fun x i => x ||| ((a[i]?.getD 0) ^^^ (b[i]?.getD 0))) 0
theorem orUpto_succ (a b : List UInt8) (k : Nat) : orUpto a b (k + 1) = orUpto a b k ||| ((a[k]?.getD 0) ^^^ (b[k]?.getD 0)) := by
  unfold orUpto; rw [List.range_succ, List.foldl_append]; rfl
theorem or_zero {x y : UInt8} : x ||| y = 0 ↔ x = 0 ∧ y = 0 := by
  constructor
  · intro h
    have h1 : x.toBitVec ||| y.toBitVec = 0 := by have := congrArg UInt8.toBitVec h; simpa using this
    have h2 := BitVec.or_eq_zero_iff.1 h1
    exact ⟨UInt8.toBitVec_inj.1 h2.1, UInt8.toBitVec_inj.1 h2.2⟩
  · rintro ⟨rfl, rfl⟩; rfl
theorem xor_zero {x y : UInt8} : x ^^^ y = 0 ↔ x = y := by
  constructor
  · intro h
    have h1 : x.toBitVec ^^^ y.toBitVec = 0 := by have := congrArg UInt8.toBitVec h; simpa using this
    exact UInt8.toBitVec_inj.1 (BitVec.xor_eq_zero_iff.1 h1)
  · rintro rfl; simp
theorem orUpto_zero (a b : List UInt8) (k : Nat) : orUpto a b k = 0 ↔ ∀ i, i < k → a[i]?.getD 0 = b[i]?.getD 0 := by
  induction k with
  | zero => exact ⟨fun _ i hi => absurd hi (by omega), fun _ => rfl⟩
  | succ k ih =>
    rw [orUpto_succ, or_zero, ih, xor_zero]
    constructor
    · rintro ⟨h1, h2⟩ i hi
      by_cases h : i = k
      · subst h; exact h2
      · exact h1 i (by omega)
    · intro h; exact ⟨fun i hi => h i (by omega), h k (by omega)⟩
theorem orUpto_all {a b : List UInt8} (ha : a.length = 32) (hb : b.length = 32) : (orUpto a b 32 = 0) ↔ a = b := by
  rw [orUpto_zero]
  constructor
  · intro h
    apply List.ext_getElem (by omega)
    intro i h1 h2
    have := h i (by omega)
    rw [List.getElem?_eq_getElem h1, List.getElem?_eq_getElem h2] at this
    exact this
  · rintro rfl _ _; rfl
attribute [irreducible] orUpto

attribute [local go_sem high] xor_b or_b
end Go.Proofs.Ytofhohofaedokaa

/- A region that draws its order: a move first, then reads, then a tail in one order: 'x = append(x, ..reads..)'. -/
namespace Go.Proofs.Ytofhohofaedokaa
open Go.RowKit

/-- The same operation, that waits for operation 0 besides. -/
def addEdge (o : Oper) : Oper := { o with after := o.after.push ⟨0, .data⟩ }
def withE (l : List Oper) (n : Nat) : List Oper := l.modify n addEdge
def start0 (l : List Oper) : Array Bool := (Array.replicate l.length false).setIfInBounds 0 true
def noAfter (l : List Oper) : Bool := match l[0]? with | some o => o.after.isEmpty | none => false
def tail0B (l : List Oper) (n : Nat) : Bool :=
  Region.noSelect l.toArray && Region.free .any l.toArray (Array.replicate l.length false) 0 && (Region.ready .any l.toArray (Array.replicate l.length false)).contains 0
  && Region.noSelect (withE l n).toArray && decide (n < l.length) && decide (1 ≤ n) && Region.sinkB .any (withE l n).toArray n && Region.chainB .any (withE l n).toArray n
  && Region.lexHead .any (withE l n).toArray (l.length - n) (n - 1) 1 (start0 l) && noAfter l

section
variable {P : Program} {l : List Oper} {n : Nat}
theorem withE_at (l : List Oper) (n i : Nat) : (withE l n)[i]? = if i = n then (l[i]?).map addEdge else l[i]? := by
  unfold withE
  rw [List.getElem?_modify]
  by_cases h : n = i
  · subst h; simp
  · rw [if_neg (fun e => h e.symm)]; cases l[i]? <;> simp [h]
theorem withE_length (l : List Oper) (n : Nat) : (withE l n).length = l.length := by simp [withE]
theorem yielded_withE (l : List Oper) (n : Nat) (t : Array Value) : yielded (withE l n).toArray t = yielded l.toArray t := by
  funext j
  have h : (((withE l n).toArray[j]?).bind (·.dst)) = ((l.toArray[j]?).bind (·.dst)) := by
    simp only [List.getElem?_toArray, withE_at]
    split
    · cases l[j]? <;> rfl
    · rfl
  unfold yielded
  rw [h]
theorem ready_withE {listed : Array Bool} (h0 : listed.getD 0 false = true) (md : Region.Mode) : Region.ready md (withE l n).toArray listed = Region.ready md l.toArray listed := by
  unfold Region.ready
  simp only [List.size_toArray, withE_length, List.getElem?_toArray, withE_at]
  apply List.filter_congr
  intro i _
  by_cases h : i = n
  · subst h
    rw [if_pos rfl]
    cases l[i]? with
    | none => rfl
    | some o => simp only [Option.map_some, addEdge, Option.getD_some, Array.all_push, h0, Bool.or_true, Bool.and_true]
  · rw [if_neg h]
theorem wp_addE (o : Oper) (a : Act) (w : World) (K : Act → World → Prop) (Q : Exit → Act → World → Prop) : (addEdge o).wp P a w K Q = o.wp P a w K Q := rfl
theorem asks_addE (o : Oper) (a : Act) (w : World) : (addEdge o).asks P a w = o.asks P a w := rfl
theorem wpOp_withE (Q : Exit → Act → World → Prop) (i : Nat) (K : Act → World → Prop) (a : Act) (w : World) : wpOp P (withE l n).toArray Q i K a w = wpOp P l.toArray Q i K a w := by
  unfold wpOp
  simp only [List.getElem?_toArray, withE_at, yielded_withE]
  by_cases h : i = n
  · rw [if_pos h]; cases l[i]? <;> rfl
  · rw [if_neg h]
theorem set_keeps {listed : Array Bool} (h0 : listed.getD 0 false = true) (i : Nat) : (listed.setIfInBounds i true).getD 0 false = true := getD_set_true h0
theorem wpAny_withE (Q : Exit → Act → World → Prop) (md : Region.Mode) : ∀ (f : Nat) (listed : Array Bool) (a : Act) (w : World), listed.getD 0 false = true → wpAny P md (withE l n).toArray Q f listed a w → wpAny P md l.toArray Q f listed a w
  | 0, listed, a, w, h0, h => by unfold wpAny at h ⊢; rw [ready_withE h0] at h; exact h
  | f + 1, listed, a, w, h0, h => by
    unfold wpAny at h ⊢
    rw [ready_withE h0] at h
    refine ⟨h.1, fun i hi => ?_⟩
    have h2 := h.2 i hi
    rw [wpOp_withE] at h2
    exact wpOp_mono (fun a' w' h3 => wpAny_withE Q md f _ a' w' (set_keeps h0 i) h3) h2
theorem wpList_withE (Q : Exit → Act → World → Prop) : ∀ (m : List Oper) (a : Act) (w : World), wpList P l.toArray Q m a w → wpList P (withE l n).toArray Q m a w
  | [], a, w, h => h
  | o :: m, a, w, h => by
    unfold wpList at h ⊢
    rw [yielded_withE]
    split
    · rename_i hw
      rw [if_pos hw] at h
      rcases h with h | h
      · exact .inl (Oper.wp_mono (fun a w h => wpList_withE Q m a w h) h)
      · exact .inr h
    · rename_i hw
      rw [if_neg hw] at h
      exact wpList_withE Q m _ w h
theorem wpStill_withE {w : World} {Q : Act → Prop} : ∀ (m : List Oper) (a : Act), wpStill P l.toArray w Q m a → wpStill P (withE l n).toArray w Q m a
  | [], a, h => h
  | o :: m, a, h => by
    unfold wpStill at h ⊢
    rw [yielded_withE]
    split
    · rename_i hw
      rw [if_pos hw] at h
      exact Oper.still_mono (fun a h => wpStill_withE m a h) h
    · rename_i hw
      rw [if_neg hw] at h
      exact wpStill_withE m _ h
theorem wpList_drop (Q : Exit → Act → World → Prop) (a : Act) (w : World) (ops : Array Oper) (h : wpList P ops Q (l.drop n) a w) : wpList P ops Q ((withE l n).drop n) a w := by
  have e : (withE l n).drop n = match l.drop n with | [] => [] | o :: m => addEdge o :: m := by
    apply List.ext_getElem?
    intro i
    rw [List.getElem?_drop, withE_at]
    cases hd : l.drop n with
    | nil =>
      have : l[n + i]? = none := by rw [← List.getElem?_drop, hd]; rfl
      rw [this]; split <;> rfl
    | cons o m =>
      have h2 : l[n + i]? = (o :: m)[i]? := by rw [← List.getElem?_drop, hd]
      rw [h2]
      cases i with
      | zero => simp
      | succ i => rw [if_neg (by omega)]; rfl
  rw [e]
  cases hd : l.drop n with
  | nil => rw [hd] at h; exact h
  | cons o m => rw [hd] at h; exact h

theorem wp_tail0 {id : Nat} {Q : Exit → Act → World → Prop} {a : Act} {w : World} {o0 : Oper} {x : Operand} (n : Nat) (hm : P.follows .mixedOrders = true) (h0 : l[0]? = some o0) (hg : o0.guard = none) (hop : o0.op = .move x) (hB : tail0B l n = true)
    (h : ∀ w2, Drawn w w2 → wpStill P l.toArray w2 (fun a' => wpList P l.toArray (NormalOnly Q) (l.drop n) a' w2) ((l.take n).drop 1) (a.put o0.dst (a.eval x))) : (Code.region id l.toArray true).wp P Q a w := by
  refine wp_normal ?_
  simp only [tail0B, Bool.and_eq_true, decide_eq_true_eq] at hB
  obtain ⟨⟨⟨⟨⟨⟨⟨⟨⟨hsel, hfree⟩, hready⟩, hsel'⟩, hn⟩, hn1⟩, hs⟩, hc⟩, hlex⟩, hna⟩ := hB
  have hH := h { w with drawn := w.drawn + 1 } ⟨1, rfl⟩
  generalize hw2 : { w with drawn := w.drawn + 1 } = w2 at hH
  refine wp_region_any hm ?_
  rw [hw2, List.size_toArray]
  have hy : Yields P l.toArray o0 (a.eval x) a := .inl ⟨by simp [Region.wanted, hg], fun w => by simp [execOp, hop]⟩
  obtain ⟨f, hf⟩ : ∃ f, l.length = f + 1 := ⟨l.length - 1, by omega⟩
  rw [hf]
  refine wpAny_take (i := 0) (by simpa using h0) hsel (by rw [← hf]; exact hfree) (by rw [← hf]; exact hready) (fun _ _ _ h => h) hy ?_
  have hst : (start0 l).getD 0 false = true := by
    unfold start0
    simp [show 0 < l.length by omega]
  rw [← hf]
  refine wpAny_withE (n := n) _ _ _ _ _ _ hst ?_
  have htl : (((withE l n).take n).drop 1).length = n - 1 := by simp [withE_length]; omega
  have hdl : ((withE l n).drop n).length = l.length - n := by simp [withE_length]
  have inv0 : HeadInv .any (withE l n).toArray n (start0 l) := by
    refine ⟨by simp [start0, withE_length], fun j oj hj hl e he _ => ?_, fun t ht ht2 => ?_⟩
    · by_cases hj0 : j = 0
      · subst hj0
        rw [List.getElem?_toArray, withE_at, if_neg (by omega), h0] at hj
        cases hj
        unfold noAfter at hna
        rw [h0] at hna
        simp only [Array.isEmpty_iff] at hna
        rw [hna] at he; simp at he
      · exfalso
        unfold start0 at hl
        rw [getD_set_ne false (by omega), getD_replicate_false] at hl
        cases hl
    · unfold start0
      rw [getD_set_ne true (by omega)]
      exact getD_in (by simp; simp [withE_length] at ht2; omega) (getD_replicate_false _ _)
  have hhead : ((withE l n).take n).drop 1 = (l.take n).drop 1 := by
    apply List.ext_getElem?
    intro i
    rw [List.getElem?_drop, List.getElem?_drop, List.getElem?_take, List.getElem?_take, withE_at]
    split
    · rw [if_neg (by omega)]
    · rfl
  have H := wpAnyL_lex (P := P) (md := .any) (g := l.length - n) hsel' hs hc (by simpa [withE_length] using hn) (((withE l n).take n).drop 1) 1 (start0 l) (a.put o0.dst (a.eval x)) (fun j hj => by
    rw [htl] at hj
    rw [List.getElem?_drop, List.getElem?_take, if_pos (by omega), List.getElem?_toArray]) (by rw [htl]; omega) inv0 (by rw [htl]; exact hlex) (by
      rw [hhead]
      exact wpStill_withE (n := n) _ _ hH)
  have := wpAny_of_head (Q' := NormalOnly Q) (g := l.length - n) (fun listed a' hL => by
    have := wpAny_of_seq (P := P) (md := .any) (Q' := NormalOnly Q) ((withE l n).drop n) n listed a' w2 (fun j => by simp [List.getElem?_drop]) (by rw [hdl]; exact hL.1) (wpList_withE (n := n) _ _ _ _ (wpList_drop (n := n) _ _ _ _ hL.2))
    rwa [hdl] at this) _ _ _ H
  rw [htl, show n - 1 + (l.length - n) = f by omega] at this
  exact this
end
end Go.Proofs.Ytofhohofaedokaa

/- Contract of sha.Hex. -/
namespace Go.Proofs.Ytofhohofaedokaa
open Go.RowKit Go.Shelf
set_option linter.unusedVariables false

def digB (n : Nat) : UInt8 := if n < 10 then UInt8.ofNat (48 + n) else UInt8.ofNat (87 + n)
def hexB (bs : List UInt8) : List UInt8 := bs.flatMap fun x => [digB (x.toNat / 16), digB (x.toNat % 16)]
theorem hexB_length (bs : List UInt8) : (hexB bs).length = 2 * bs.length := by
  unfold hexB
  induction bs with
  | nil => rfl
  | cons x xs ih => simp only [List.flatMap_cons, List.length_append, ih]; simp; omega
theorem hexB_snoc (bs : List UInt8) (k : Nat) (hk : k < bs.length) : hexB (bs.take (k + 1)) = hexB (bs.take k) ++ [digB ((bs[k]?.getD 0).toNat / 16), digB ((bs[k]?.getD 0).toNat % 16)] := by
  unfold hexB
  rw [List.take_add_one, List.flatMap_append, List.getElem?_eq_getElem hk]
  rfl
def digStr : ByteArray := ⟨#[48, 49, 50, 51, 52, 53, 54, 55, 56, 57, 97, 98, 99, 100, 101, 102]⟩
theorem digStr_size : digStr.size = 16 := by decide +kernel
theorem fold_digStr : (⟨#[48, 49, 50, 51, 52, 53, 54, 55, 56, 57, 97, 98, 99, 100, 101, 102]⟩ : ByteArray) = digStr := rfl
theorem digStr_at : ∀ i : Fin 16, (digStr[i.val]?).getD 0 = digB i.val := by decide +kernel
theorem run_index_digits {P : Program} (w : World) (t : TypeId) (k : IntKind) (i : Int) (h : P.underlying t = some .string) (h0 : 0 ≤ i) (h1 : i ≤ 15) :
    (Instr.index t (.string digStr) (.int k i)).run P w = .ok (.int .u8 (b8 (digB i.toNat))) w := by
  have hi : 0 ≤ i ∧ i < (digStr.size : Int) := by rw [digStr_size]; omega
  have h2 : i.toNat < digStr.size := by rw [digStr_size]; omega
  rw [run_index_string w t digStr k i h, dif_pos hi]
  have := digStr_at ⟨i.toNat, by omega⟩
  simp only [ByteArray.getElem?_lt' _ _ h2, Option.getD_some] at this
  rw [this]; rfl
theorem digit_at (i : Nat) (h : i < 16) : (#[48, 49, 50, 51, 52, 53, 54, 55, 56, 57, 97, 98, 99, 100, 101, 102] : Array UInt8)[i]? = some (digB i) := by
  revert h; revert i; decide

attribute [irreducible] hexB digB digStr
attribute [local go_sem high] fold_digStr run_index_digits
end Go.Proofs.Ytofhohofaedokaa

/- seisinlaw03.awake. -/
namespace Go.Proofs.Ytofhohofaedokaa
open Go.RowKit Go.Shelf
set_option linter.unusedVariables false

theorem abc_hex : hexB (sha [97, 98, 99]) = [98, 97, 55, 56, 49, 54, 98, 102, 56, 102, 48, 49, 99, 102, 101, 97, 52, 49, 52, 49, 52, 48, 100, 101, 53, 100, 97, 101, 50, 50, 50, 51, 98, 48, 48, 51, 54, 49, 97, 51, 57, 54, 49, 55, 55, 97, 57, 99, 98, 52, 49, 48, 102, 102, 54, 49, 102, 50, 48, 48, 49, 53, 97, 100] := by decide +kernel

theorem Sl.litm {sz : Nat} (w : World) (cs : Array Value) (t : TypeId) (fr : Nat × Nat) (n : Nat) (h : cs.size = n * sz) : Sl (w.alloc (.cells cs t fr)) (w.heap.size + 1) sz (some ⟨w.heap.size, 0, none⟩) n cs.toList :=
  ⟨by simpa using h, fun _ => ⟨_, _, rfl, by omega, fun j u hu => by rw [Nat.zero_add, World.cell?_alloc_mark]; simpa using hu⟩⟩
theorem conv_abc (w : World) : (convert 70 70 (.slice (some ⟨w.heap.size, 0, none⟩) 3 3)).run Try.prog (w.alloc (.cells #[.int .u8 97, .int .u8 98, .int .u8 99] 5)) = .ok (.slice (some ⟨w.heap.size, 0, none⟩) 3 3) (w.alloc (.cells #[.int .u8 97, .int .u8 98, .int .u8 99] 5 (3, 4))) :=
  Go.Lib.run_convert_bytes_const w 70 5 #[.int .u8 97, .int .u8 98, .int .u8 99] 3 3 Try.underlying70 (by kernel_rfl)
attribute [local go_sem high] conv_abc
end Go.Proofs.Ytofhohofaedokaa

/- The contracts of layer 3, ready for the laws: facts that last while memory grows; equality of digests. -/
namespace Go.Proofs.Ytofhohofaedokaa
open Go.RowKit Go.Shelf
set_option linter.unusedVariables false
theorem Tabs.grow {w w' : World} (h : Tabs w) (k : Grow w w') : Tabs w' := h.below k
theorem Parts.grow {w w' : World} {A : Option Addr} {n : Nat} {ps : List (Value × List UInt8)} (h : Parts w w.heap.size A n ps) (k : Grow w w') : Parts w' w'.heap.size A n ps := (h.below k).more k.size
theorem eql_ids (a b : List UInt8) (ha : a.length = 32) (hb : b.length = 32) (w : World) : (binOp .eql 28 (.agg (a.map B).toArray) (.agg (b.map B).toArray)).run Try.prog w = .ok (.bool (a == b)) w :=
  run_eql_bytes w 28 5 32 Try.underlying28 (by kernel_rfl) (fun w => by
    obtain ⟨i, hi, hs⟩ := Option.map_eq_some_iff.1 (show (Try.prog.info? 5).map (·.size) = some 1 by kernel_rfl)
    simp [sizeOf, typeInfo, hi, hs]) a b ha hb
/-- A digest's cells. -/
def Dig (xs : List Value) (d : List UInt8) : Prop := xs = d.map B ∧ d.length = 32
theorem Dig.sha (bs : List UInt8) : Dig ((sha bs).map B) (sha bs) := ⟨rfl, sha_length bs⟩
theorem Dig.len {xs : List Value} {d : List UInt8} (h : Dig xs d) : xs.length = 32 := by rw [h.1, List.length_map, h.2]
theorem Dig.one {xs : List Value} {d : List UInt8} (h : Dig xs d) : ∀ u ∈ xs, u.oneCell' = true := by rw [h.1]; exact all_bytes d
theorem Dig.eql {xs ys : List Value} {a b : List UInt8} (h : Dig xs a) (k : Dig ys b) (w : World) : (binOp .eql 28 (.agg xs.toArray) (.agg ys.toArray)).run Try.prog w = .ok (.bool (a == b)) w := by
  rw [h.1, k.1]; exact eql_ids a b h.2 k.2 w
theorem Dig.self {xs : List Value} {a : List UInt8} (h : Dig xs a) (w : World) : (binOp .eql 28 (.agg xs.toArray) (.agg xs.toArray)).run Try.prog w = .ok (.bool true) w := by
  rw [h.eql h]; simp
theorem Dig.neq {xs ys : List Value} {a b : List UInt8} (h : Dig xs a) (k : Dig ys b) (w : World) : (binOp .neq 28 (.agg xs.toArray) (.agg ys.toArray)).run Try.prog w = .ok (.bool (a != b)) w := by
  have e := h.eql k w
  unfold binOp at e ⊢
  simp only [Sem.run_bind] at e ⊢
  generalize (Op.equal 28 (.agg xs.toArray) (.agg ys.toArray)).run Try.prog w = r at *
  cases r with
  | ok v w' =>
    simp only [Result.andThen_ok, Sem.run_pure, Result.ok.injEq, Value.bool.injEq] at e ⊢
    obtain ⟨rfl, rfl⟩ := e
    exact ⟨rfl, rfl⟩
  | halt x w' => simp [Result.andThen] at e
/-- A list of slices of bytes. -/
def PartOK (w : World) (Bd : Nat) (p : Value × List UInt8) : Prop := ∃ A c, p.1 = .slice A p.2.length c ∧ p.2.length ≤ c ∧ Sl w Bd 1 A p.2.length (p.2.map B)
theorem part_mk {w : World} {Bd n c : Nat} {A : Option Addr} {bs : List UInt8} (h : Sl w Bd 1 A n (bs.map B)) (hc : n ≤ c) : PartOK w Bd (.slice A n c, bs) := by
  have e : bs.length = n := by have := h.len; simpa using this
  refine ⟨A, c, by rw [e], by rw [e]; exact hc, by rw [e]; exact h⟩
theorem parts_mk {w : World} {Bd n : Nat} {A : Option Addr} {ps : List (Value × List UInt8)} (h : Sl w Bd 1 A n (ps.map Prod.fst)) (hp : ∀ p ∈ ps, PartOK w Bd p) : Parts w Bd A n ps := ⟨h, hp⟩
theorem parts_blk {w : World} {g n : Nat} {t : TypeId} {ps : List (Value × List UInt8)} (h : Blk w g t (ps.map Prod.fst)) (hn : ps.length = n) (hp : ∀ p ∈ ps, PartOK w w.heap.size p) : Parts w w.heap.size (some ⟨g, 0, none⟩) n ps :=
  parts_mk (h.sl (by simp [hn])) hp
end Go.Proofs.Ytofhohofaedokaa

/- Variables that hold whole arrays: facts that last while memory grows. -/
namespace Go.Proofs.Ytofhohofaedokaa
open Go.RowKit Go.Shelf
set_option linter.unusedVariables false
theorem len_id {v : Value} : (List.replicate 32 v).length = 32 := by simp
theorem Dig.bytes {w : World} {A : Option Addr} {n : Nat} {xs : List Value} {d : List UInt8} (h : Dig xs d) (hs : Sl w w.heap.size 1 A n xs) : Sl w w.heap.size 1 A n (d.map B) := by rw [← h.1]; exact hs
/-- A row of this call's own, appended to: what lay below the call's base stays. -/
theorem app_below {w0 w w2 : World} {A : Option Addr} {e : TypeId} {sz n c : Nat} {xs : List Value} (h : Below w0.heap.size w0 w) (ho : w.ownsRow w0.heap.size e sz (.slice A n c) n xs) (k : w.grownBy w2 (A.map Addr.block)) : Below w0.heap.size w0 w2 :=
  below_grown h k h.size (own_from ho)
end Go.Proofs.Ytofhohofaedokaa

/- Rows of the call's own, in facts that last. -/
namespace Go.Proofs.Ytofhohofaedokaa
open Go.RowKit Go.Shelf
theorem own_blk {w : World} {base g n : Nat} {e : TypeId} {cs : List Value} (h : Blk w g e cs) (hn : cs.length = n) (hb : base ≤ g) (hm : n ≤ maxLen) : w.ownsRow base e 1 (.slice (some ⟨g, 0, none⟩) n n) n cs :=
  ⟨by omega, .inr ⟨g, n, cs.toArray, rfl, hb, h, Nat.le_refl _, hm, by simp; omega, List.take_of_length_le (by simp; omega)⟩⟩
theorem shl_b (s : Nat) (h : s < 8) : IntKind.u8.wrap ((1 : Int) * 2 ^ s) = b8 (1 <<< UInt8.ofNat s) := by
  have : s = 0 ∨ s = 1 ∨ s = 2 ∨ s = 3 ∨ s = 4 ∨ s = 5 ∨ s = 6 ∨ s = 7 := by omega
  rcases this with rfl | rfl | rfl | rfl | rfl | rfl | rfl | rfl <;> rfl
theorem Sl.up {w w' : World} {A : Option Addr} {n : Nat} {xs : List Value} (h : Sl w w.heap.size 1 A n xs) (hb : Below w.heap.size w w') : Sl w' w'.heap.size 1 A n xs := (h.below hb).more hb.size
/-- A row of this call's own. -/
def OwnAt (w : World) (base : Nat) (A : Option Addr) (n c : Nat) (xs : List Value) : Prop := w.ownsRow base 5 1 (.slice A n c) n xs
theorem OwnAt.grow {w w' : World} {base n c : Nat} {A : Option Addr} {xs : List Value} (h : OwnAt w base A n c xs) (k : Grow w w') : OwnAt w' base A n c xs := own_below h k
theorem own_frozen {w : World} {base g n c : Nat} {e : TypeId} {sz : Nat} {xs : List Value} (h : w.ownsRow base e sz (.slice (some ⟨g, 0, none⟩) n c) n xs) (k : Nat) : w.frozen? ⟨g, k, none⟩ = false := by
  rcases h.2 with ⟨hv, _⟩ | ⟨g2, cap, cur, hv, hb, hg, _⟩
  · cases hv
  · cases hv; exact frozen_of_row w g k cur e hg
theorem wrap64_in (x : Int) (h : -9223372036854775808 ≤ x ∧ x ≤ 9223372036854775807) : RowKit.wrap64 x = x := by unfold RowKit.wrap64; omega
end Go.Proofs.Ytofhohofaedokaa

/- A number's bytes (plain). No program in sight. -/
namespace Go.Proofs.Ytofhohofaedokaa
set_option linter.unusedVariables false

/-- The bytes of n, the least first. -/
def leB (n : Nat) : List UInt8 := if h : n = 0 then [] else UInt8.ofNat n :: leB (n / 256)
termination_by n
decreasing_by exact Nat.div_lt_self (Nat.pos_of_ne_zero h) (by omega)
theorem leB_zero : leB 0 = [] := by rw [leB]; rfl
theorem leB_pos {n : Nat} (h : n ≠ 0) : leB n = UInt8.ofNat n :: leB (n / 256) := by rw [leB, dif_neg h]
def lenB (n : Nat) : Nat := (leB n).length
theorem lenB_zero : lenB 0 = 0 := by rw [lenB, leB_zero]; rfl
theorem lenB_pos {n : Nat} (h : n ≠ 0) : lenB n = lenB (n / 256) + 1 := by rw [lenB, leB_pos h]; rfl
theorem lenB_le : ∀ (k n : Nat), n < 256 ^ k → lenB n ≤ k
  | 0, n, h => by obtain rfl : n = 0 := by simpa using h
                  rw [lenB_zero]; omega
  | k + 1, n, h => by
    by_cases hn : n = 0
    · rw [hn, lenB_zero]; omega
    · rw [lenB_pos hn]
      have := lenB_le k (n / 256) (by rw [Nat.pow_succ] at h; omega)
      omega
theorem lenB_64 {n : Nat} (h : n ≤ 18446744073709551615) : lenB n ≤ 8 := lenB_le 8 n (by omega)
theorem leB_at : ∀ (i n : Nat), i < lenB n → (leB n)[i]? = some (UInt8.ofNat (n / 256 ^ i))
  | 0, n, h => by
    have hn : n ≠ 0 := by rintro rfl; rw [lenB_zero] at h; omega
    rw [leB_pos hn]; simp
  | i + 1, n, h => by
    have hn : n ≠ 0 := by rintro rfl; rw [lenB_zero] at h; omega
    rw [lenB_pos hn] at h
    rw [leB_pos hn, List.getElem?_cons_succ, leB_at i (n / 256) (by omega), Nat.div_div_eq_div_mul, Nat.pow_succ, Nat.mul_comm 256]
/-- A number's form: how many bytes, then these, the greatest first. -/
def numB (n : Nat) : List UInt8 := UInt8.ofNat (lenB n) :: (leB n).reverse
theorem numB_len (n : Nat) : (numB n).length = lenB n + 1 := by rw [numB, List.length_cons, List.length_reverse]; rfl
theorem numB_le {n : Nat} (h : n ≤ 18446744073709551615) : (numB n).length ≤ 9 := by rw [numB_len]; have := lenB_64 h; omega
theorem leB_len (n : Nat) : (leB n).length = lenB n := rfl
theorem numB_zero (n : Nat) : (numB n).take 1 = [UInt8.ofNat (lenB n)] := rfl
theorem numB_at {n t : Nat} (h : t < lenB n) : (numB n)[t + 1]? = some (UInt8.ofNat (n / 256 ^ (lenB n - 1 - t))) := by
  unfold numB
  rw [List.getElem?_cons_succ, List.getElem?_reverse (by rw [leB_len]; exact h), leB_len, leB_at _ _ (by omega)]
theorem take_snoc {α : Type} {l : List α} {t : Nat} {x : α} (h : l[t]? = some x) : l.take (t + 1) = l.take t ++ [x] := by
  rw [List.take_add_one, h]; rfl
theorem numB_step {n t : Nat} (h : t < lenB n) : (numB n).take (t + 1 + 1) = (numB n).take (t + 1) ++ [UInt8.ofNat (n / 256 ^ (lenB n - 1 - t))] := take_snoc (numB_at h)
theorem numB_all (n : Nat) : (numB n).take (lenB n + 1) = numB n := List.take_of_length_le (by rw [numB_len]; exact Nat.le_refl _)
theorem leB_rev {n t : Nat} (h : t < lenB n) : (leB n)[lenB n - 1 - t]? = some (UInt8.ofNat (n / 256 ^ (lenB n - 1 - t))) := leB_at _ _ (by omega)
theorem lenB_div : ∀ (j n : Nat), j ≤ lenB n → lenB (n / 256 ^ j) + j = lenB n
  | 0, n, _ => by simp
  | j + 1, n, h => by
    have hn : n ≠ 0 := by rintro rfl; rw [lenB_zero] at h; omega
    rw [lenB_pos hn] at h ⊢
    have := lenB_div j (n / 256) (by omega)
    rw [Nat.pow_succ, Nat.mul_comm, ← Nat.div_div_eq_div_mul]; omega
theorem lenB_eq0 {n : Nat} (h : lenB n = 0) : n = 0 := by
  by_cases hn : n = 0
  · exact hn
  · rw [lenB_pos hn] at h; omega
theorem b8_ofNat (n : Nat) : b8 (UInt8.ofNat n) = ((n % 256 : Nat) : Int) := by unfold b8; rw [UInt8.toNat_ofNat']
attribute [irreducible] lenB numB
end Go.Proofs.Ytofhohofaedokaa

/- What a pen holds; what is kept beside it. -/
namespace Go.Proofs.Ytofhohofaedokaa
open Go.RowKit Go.Shelf
set_option linter.unusedVariables false

/-- What K names lies as it lay. -/
structure Kept (K : Nat → Prop) (w w' : World) : Prop where
  os : w'.os = w.os
  tape : w'.tape = w.tape
  output : w'.output = w.output
  size : w.heap.size ≤ w'.heap.size
  block : ∀ k, K k → w'.heap[k]? = w.heap[k]?
section
variable {K : Nat → Prop} {w w1 w2 : World}
theorem Kept.refl (K : Nat → Prop) (w : World) : Kept K w w := ⟨rfl, rfl, rfl, Nat.le_refl _, fun _ _ => rfl⟩
theorem Kept.trans (h : Kept K w w1) (k : Kept K w1 w2) : Kept K w w2 := ⟨k.os.trans h.os, k.tape.trans h.tape, k.output.trans h.output, Nat.le_trans h.size k.size, fun i hi => (k.block i hi).trans (h.block i hi)⟩
theorem Kept.of_grow (h : Grow w w1) (hK : ∀ k, K k → k < w.heap.size) : Kept K w w1 := ⟨h.os, h.tape, h.output, h.size, fun k hk => h.block k (hK k hk)⟩
theorem Kept.of_grown {row : Option Nat} (h : w.grownBy w1 row) (hK : ∀ k, K k → k < w.heap.size ∧ row ≠ some k) : Kept K w w1 :=
  ⟨h.os, h.tape, h.output, h.size, fun k hk => h.block k (hK k hk).1 (fun e => (hK k hk).2 e.symm)⟩
theorem Kept.mono {K' : Nat → Prop} (h : Kept K w w1) (hK : ∀ k, K' k → K k) : Kept K' w w1 := ⟨h.os, h.tape, h.output, h.size, fun k hk => h.block k (hK k hk)⟩
theorem Kept.below {Bd : Nat} (h : Kept K w w1) (hB : ∀ k, k < Bd → K k) : Below Bd w w1 := ⟨h.os, h.tape, h.output, h.size, fun k hk => h.block k (hB k hk)⟩
theorem Kept.blk {g : Nat} {t : TypeId} {cs : List Value} (h : Kept K w w1) (hb : Blk w g t cs) (hg : K g) : Blk w1 g t cs := (h.block g hg).trans hb

/-- The pen in block g has written xs; its row is none that K names. -/
def PenAt (w : World) (K : Nat → Prop) (g : Nat) (xs : List UInt8) : Prop :=
  ∃ A c, Blk w g 72 [.slice A xs.length c] ∧ w.ownsRow 0 5 1 (.slice A xs.length c) xs.length (xs.map B) ∧ (∀ k, K k → k < w.heap.size ∧ k ≠ g ∧ A.map Addr.block ≠ some k) ∧ A.map Addr.block ≠ some g
theorem own_lt {base : Nat} {e : TypeId} {sz n c : Nat} {A : Option Addr} {ys : List Value} (h : w.ownsRow base e sz (.slice A n c) n ys) : ∀ g, A.map Addr.block = some g → g < w.heap.size := by
  rcases h.2 with ⟨hv, _⟩ | ⟨g, cap, cur, hv, _, hh, _⟩
  · injection hv with hA; subst hA; intro g hg; cases hg
  · injection hv with hA; subst hA
    intro g' hg'
    obtain rfl : g = g' := by simpa using hg'
    exact (Array.getElem?_eq_some_iff.1 hh).1
theorem PenAt.grow {g : Nat} {xs : List UInt8} (h : PenAt w K g xs) (k : Grow w w1) : PenAt w1 K g xs := by
  obtain ⟨A, c, h1, h2, h3, h4⟩ := h
  exact ⟨A, c, h1.grow k, h2.grow k, fun j hj => ⟨Nat.lt_of_lt_of_le (h3 j hj).1 k.size, (h3 j hj).2⟩, h4⟩
theorem PenAt.lt {g : Nat} {xs : List UInt8} (h : PenAt w K g xs) : g < w.heap.size := by obtain ⟨A, c, h1, _⟩ := h; exact h1.lt
theorem PenAt.less {K' : Nat → Prop} {g : Nat} {xs : List UInt8} (h : PenAt w K g xs) (hK : ∀ k, K' k → K k) : PenAt w K' g xs := by
  obtain ⟨A, c, h1, h2, h3, h4⟩ := h
  exact ⟨A, c, h1, h2, fun j hj => h3 j (hK j hj), h4⟩
/-- New blocks are none of the pen's. -/
theorem PenAt.more {K' : Nat → Prop} {g : Nat} {xs : List UInt8} (h : PenAt w K g xs) (k : Grow w w1) (hK : ∀ j, K' j → K j ∨ (w.heap.size ≤ j ∧ j < w1.heap.size)) : PenAt w1 K' g xs := by
  have hlt := h.lt
  obtain ⟨A, c, h1, h2, h3, h4⟩ := h
  refine ⟨A, c, h1.grow k, h2.grow k, fun j hj => ?_, h4⟩
  rcases hK j hj with hk | ⟨ha, hb⟩
  · exact ⟨Nat.lt_of_lt_of_le (h3 j hk).1 k.size, (h3 j hk).2⟩
  · exact ⟨hb, by omega, fun e => by have := own_lt h2 j e; omega⟩
theorem PenAt.new {g : Nat} (h : Blk w g 72 [.slice none 0 0]) (hK : ∀ k, K k → k < w.heap.size ∧ k ≠ g) : PenAt w K g [] :=
  ⟨none, 0, h, World.ownsRow_nil w _ _ _, fun k hk => ⟨(hK k hk).1, (hK k hk).2, by simp⟩, by simp⟩
/-- 'p.b = append(p.b, ..)'. -/
theorem pen_app {g c c' : Nat} {A A' : Option Addr} {xs ys : List UInt8} (h1 : Blk w g 72 [.slice A xs.length c]) (h2 : w.ownsRow 0 5 1 (.slice A xs.length c) xs.length (xs.map B))
    (h3 : ∀ k, K k → k < w.heap.size ∧ k ≠ g ∧ A.map Addr.block ≠ some k) (h4 : A.map Addr.block ≠ some g)
    (ho : w1.ownsRow 0 5 1 (.slice A' ys.length c') ys.length (ys.map B)) (hg : w.grownBy w1 (A.map Addr.block)) (hA : ∀ b, A'.map Addr.block = some b → A.map Addr.block = some b ∨ w.heap.size ≤ b) :
    PenAt (w1.setCell ⟨g, 0, none⟩ (.slice A' ys.length c')) K g ys ∧ Kept K w (w1.setCell ⟨g, 0, none⟩ (.slice A' ys.length c')) := by
  have hlt := h1.lt
  have hne : A'.map Addr.block ≠ some g := fun e => by rcases hA g e with h | h <;> first | exact h4 h | omega
  have hk : Kept K w w1 := Kept.of_grown hg (fun k hk => ⟨(h3 k hk).1, (h3 k hk).2.2⟩)
  have hs := grown_set w1 g 0 (.slice A' ys.length c')
  refine ⟨⟨A', c', ?_, own_kept ho hs (fun k e => by rw [e] at hne; intro e2; injection e2 with e3; exact hne (by simp [e3])), fun k hkk => ⟨?_, (h3 k hkk).2.1, fun e => ?_⟩, hne⟩, hk.trans (Kept.of_grown hs (fun k hkk => ⟨Nat.lt_of_lt_of_le (h3 k hkk).1 hk.size, fun e => (h3 k hkk).2.1 (by injection e with e; exact e.symm)⟩))⟩
  · have := (h1.grown hg (fun e => h4 e.symm)).set_ 0 (.slice A' ys.length c')
    simpa using this
  · exact Nat.lt_of_lt_of_le (Nat.lt_of_lt_of_le (h3 k hkk).1 hk.size) hs.size
  · rcases hA k e with h | h
    · exact (h3 k hkk).2.2 h
    · have := (h3 k hkk).1; omega
end
end Go.Proofs.Ytofhohofaedokaa

/- Contracts of slices.Backward at []byte: the iterator that it hands back. -/
namespace Go.Proofs.Ytofhohofaedokaa
open Go.RowKit Go.Shelf
set_option linter.unusedVariables false

theorem back_any (A : Option Addr) (n c : Nat) (w : World) :
    Calls Try.prog 58 #[.slice A n c] w fun e w' => e = .returned (.func (.func 68) #[] #[.pointer (some ⟨w.heap.size, 0, none⟩)]) ∧
      w'.cell? ⟨w.heap.size, 0, none⟩ = some (.slice A n c) ∧ w'.heap.size = w.heap.size + 1 ∧ Below w.heap.size w w' := by
  go_enter Try.func58, Try.ntmps58
  go_wp2_with fail
  go_ret
  exact ⟨rfl, by simp, by simp, (Below.refl _ _).alloc (Nat.le_refl _) _⟩

def nthB (ys : List UInt8) (k : Nat) : UInt8 := ys.getD (ys.length - 1 - k) 0
set_option maxRecDepth 100000 in
set_option maxHeartbeats 1000000 in
theorem back1_any (m : Nat) (hm : 1 ≤ m) (l Bs bl n c : Nat) (A : Option Addr) (ys : List UInt8) (hA : 1 ≤ n → A = some ⟨bl, 0, none⟩) (hn : ys.length = n) (hc : n ≤ c) (hnb : n ≤ 1000000) (Kp : World → World → Prop) (hKd : ∀ W n, Kp W (World.drewN W n)) (hKt : ∀ A B C : World, Kp A B → Kp B C → Kp A C)
    (hKs : ∀ W W', Kp W W' → W'.cell? ⟨Bs, 0, none⟩ = W.cell? ⟨Bs, 0, none⟩) (hKb : ∀ W W', Kp W W' → 1 ≤ n → ∀ j, W'.cell? ⟨bl, j, none⟩ = W.cell? ⟨bl, j, none⟩) (J Jx : List (Fin n) → World → Prop) (hJd : ∀ pre W1 n, J pre W1 → J pre (W1.drewN n))
    (hY : ∀ pre x W, J pre W → pre.length < n → YieldAt Fence.wide (m - 1) Try.prog l #[.int .i64 ((n : Int) - 1 - (x.val : Int)), .int .u8 (b8 (nthB ys x.val))] W fun e W' =>
      (e = .returned (.bool true) ∧ J (pre ++ [x]) W' ∧ Kp W W') ∨ (e = .returned (.bool false) ∧ Jx (pre ++ [x]) W'))
    (W : World) (hBs : W.cell? ⟨Bs, 0, none⟩ = some (.slice A n c)) (hRd : ∀ j y, ys[j]? = some y → W.cell? ⟨bl, j, none⟩ = some (B y)) (h0 : J [] W) :
    Calls Try.prog 68 #[.func (.yield l) #[] #[], .pointer (some ⟨Bs, 0, none⟩)] W fun e W' => (∃ v, e = .returned v) ∧
      ((∃ zs, zs.map Fin.val = List.range n ∧ J zs W') ∨ (∃ pre, True ∧ Jx pre W')) := by
  have HY := Lib.hid hY; clear hY
  have HKD := Lib.hid hKd; clear hKd
  have HKT := Lib.hid hKt; clear hKt
  have HKS := Lib.hid hKs; clear hKs
  have HKB := Lib.hid hKb; clear hKb
  have HJD := Lib.hid hJd; clear hJd
  have H0 := Lib.hid h0; clear h0
  have HBS := Lib.hid hBs; clear hBs
  have HRD := Lib.hid hRd; clear hRd
  have HA := Lib.hid hA; clear hA
  have HN := Lib.hid hn; clear hn
  go_enter Try.func68, Try.ntmps68
  have c0 := HBS.out
  go_wp2_with fail
  clear c0
  go_loopw [3] (fun i wr => ∃ k : Nat, k ≤ n ∧ i = .int .i64 ((n : Int) - 1 - (k : Int)) ∧ Hid (∃ pre, pre.map Fin.val = List.range k ∧ J pre wr) ∧ Hid (Kp W wr)) (fun i _ => (intOf i + 1).toNat)
  case atStart => exact ⟨0, Nat.zero_le _, by simp, ⟨[], rfl, H0.out⟩, HKD.out W 0⟩
  case round =>
    obtain ⟨k, hk, rfl, hJ, hbw⟩ := hrel
    by_cases hlt : k < n
    · obtain rfl := HA.out (by omega)
      have c0 := (HKS.out _ _ hbw.out).trans HBS.out
      obtain ⟨j, hj1, hj2⟩ : ∃ j : Nat, (n : Int) - 1 - (k : Int) = (j : Int) ∧ j = n - 1 - k := ⟨n - 1 - k, by omega, rfl⟩
      have hjn : j < n := by omega
      have hyj : ys[j]? = some (nthB ys k) := by
        unfold nthB
        rw [HN.out, ← hj2, List.getD_eq_getElem?_getD, List.getElem?_eq_getElem (by rw [HN.out]; exact hjn)]; rfl
      have c1 : wr.cell? ⟨bl, j, none⟩ = some (.int .u8 (b8 (nthB ys k))) := (HKB.out _ _ hbw.out (by omega) j).trans (HRD.out j _ hyj)
      obtain ⟨pre, hpre, hJp⟩ := hJ.out
      have HPRE := Lib.hid hpre
      have hlen : pre.length = k := by have := congrArg List.length hpre; simpa using this
      obtain ⟨fn, tmps, assign, body, hy, hR⟩ := HY.out pre ⟨k, hlt⟩ wr hJp (by rw [hlen]; exact hlt)
      have HR := Lib.hid hR
      clear hR hJp hpre hlen hJ hyj
      dsimp only at hy
      rw [hj1] at hy ⊢
      have HJ1 := Lib.hid hj1
      have HJ2 := Lib.hid hj2
      have hg0 : decide (0 ≤ (j : Int)) = true := by simp
      clear hj1 hj2
      repeat' (first | (with_reducible refine (wpIn_wide (n := m) (c := Code.region 3 _ _)).1 ?_) | go_values | go_skip | go_guarded | go_step | go_upon | go_back)
      gi_wp2
      refine HR.out.mono ?_
      rintro e W3 (⟨rfl, hJ3, hk3⟩ | ⟨rfl, hJx3⟩)
      · have HJ3 := Lib.hid hJ3
        have HK3 := Lib.hid (HKT.out _ _ _ hbw.out hk3)
        clear hJ3 hk3
        gi_wp2
        repeat' (first | go_values | go_skip | go_guarded | go_step | go_upon | go_back)
        go_roundw
        case rel =>
          have h1 := HJ1.out
          refine ⟨k + 1, by omega, ?_, ⟨pre ++ [⟨k, hlt⟩], by rw [List.map_append, HPRE.out, List.range_succ]; rfl, HJ3.out⟩, HK3⟩
          congr 1; omega
        case measure => simp [intOf]
      · have HJX := Lib.hid hJx3
        clear hJx3
        gi_wp2
        repeat' (first | go_values | go_skip | go_guarded | go_step | go_upon | go_back)
        refine bodyPost_ret (results_none rfl _ _ _) rfl ?_
        exact ⟨⟨_, rfl⟩, .inr ⟨_, trivial, HJX.out⟩⟩
    · obtain rfl : k = n := by omega
      have hg0 : decide (0 ≤ (k : Int) - 1 - (k : Int)) = false := by simp only [decide_eq_false_iff_not]; omega
      go_wp2_with fail
      go_end0
      exact ⟨⟨_, rfl⟩, .inl hJ.out⟩
/-- What a round of Backward keeps. -/
def Kp2 (a b : Nat) (W W' : World) : Prop := W'.heap[a]? = W.heap[a]? ∧ W'.heap[b]? = W.heap[b]?
theorem back1_stops (m : Nat) (hm : 1 ≤ m) (Bs bl n c : Nat) (A : Option Addr) (ys : List UInt8) (w : World) (hA : 1 ≤ n → A = some ⟨bl, 0, none⟩) (hn : ys.length = n) (hc : n ≤ c) (hnb : n ≤ 1000000) (hbs : Bs < w.heap.size) (hbl : bl < w.heap.size)
    (hBs : w.cell? ⟨Bs, 0, none⟩ = some (.slice A n c)) (hRd : ∀ j y, ys[j]? = some y → w.cell? ⟨bl, j, none⟩ = some (B y)) :
    SeqStopsK Fence.wide m Try.prog 68 #[.pointer (some ⟨Bs, 0, none⟩)] (fun x : Fin n => #[.int .i64 ((n : Int) - 1 - (x.val : Int)), .int .u8 (b8 (nthB ys x.val))]) (Kp2 Bs bl) (fun xs => xs.map Fin.val = List.range n) (fun _ => True) n w := by
  intro l J Jx W hW hJ hJx hY h0
  refine callsIn_wide.2 (back1_any m hm l Bs bl n c A ys hA hn hc hnb (Kp2 Bs bl) (fun W n => ⟨rfl, rfl⟩) (fun A B C h1 h2 => ⟨h2.1.trans h1.1, h2.2.trans h1.2⟩) (fun W W' h => World.cell?_of_block h.1) (fun W W' h _ j => World.cell?_of_block h.2) J Jx ?_ hY W ?_ ?_ h0)
  · intro pre W1 n h
    exact hJ pre W1 _ none h ⟨rfl, rfl, rfl, Nat.le_refl _, fun _ _ _ => rfl⟩ (fun r e => by cases e)
  · exact (hW.cell (p := ⟨Bs, 0, none⟩) (by show Bs < _; omega)).trans hBs
  · intro j y hj
    exact (hW.cell (p := ⟨bl, j, none⟩) (by show bl < _; omega)).trans (hRd j y hj)
end Go.Proofs.Ytofhohofaedokaa

/- A drawn region in the round of a range over a function: the plan's law there. No program in sight. -/
namespace Go.Proofs.Ytofhohofaedokaa
open Go.RowKit
set_option linter.unusedVariables false
section
variable {P : Program} {md : Region.Mode} {ops : Array Oper} {Fut : World → World → Prop} {cl : List Nat} {Q : Exit → Act → World → Prop} {l n : Nat}
theorem oper_wpIn_round {o : Oper} {a : Act} {w : World} {K : Act → World → Prop} (hd : ∀ c, o.op ≠ .defer c) (h : o.wp P a w K Q) : o.wpIn (Fence.wide.inRound l) n P a w K Q := by
  refine ⟨fun _ _ => trivial, ?_⟩
  rw [Oper.semAt_eq _ _ _ hd]
  unfold Oper.wp at h
  generalize (execOp a.eval o).run P w = r at *
  cases r with
  | ok x w' =>
    cases x with
    | enter f args => exact ⟨fun hd => (by cases hd), (callsIn_wide.2 h).inRound l⟩
    | row row args => exact ⟨fun hd => (by cases hd), fun c cs _ => let ⟨v, w', r, s⟩ := h c cs; ⟨v, w', r, stepsIn_wide.2 s⟩⟩
    | round l f tmps assign body => exact (show False from h).elim
    | _ => exact h
  | halt x w' => cases x <;> exact h
def noDefer (o : Oper) : Bool := match o.op with | .defer _ => false | _ => true
theorem noDefer_ne {o : Oper} (h : noDefer o = true) : ∀ c, o.op ≠ .defer c := by
  intro c hc; unfold noDefer at h; rw [hc] at h; cases h
theorem wpOpIn_of_F {i : Nat} {K : Act → World → Prop} {a : Act} {w : World} (hnd : ∀ (i : Nat) (o : Oper), ops[i]? = some o → noDefer o = true) (hh : wpOpF P ops Fut cl i K a w) : wpOpIn (Fence.wide.inRound l) n P ops Q i K a w := by
  unfold wpOpF at hh
  unfold wpOpIn
  cases ho : ops[i]? with
  | none => rw [ho] at hh; exact hh.elim
  | some o =>
    rw [ho] at hh
    simp only at hh ⊢
    split
    · rename_i hw
      rw [if_pos hw] at hh
      refine oper_wpIn_round (noDefer_ne (hnd i o ho)) ?_
      split at hh
      · obtain ⟨v, h1, h2⟩ := hh
        unfold Oper.wp; rw [h1]; exact h2
      · exact oper_wp_no (fun a w h1 => h1.2) hh
    · rename_i hw; rw [if_neg hw] at hh; exact ⟨fun _ _ => trivial, hh⟩
theorem wpAnyIn_of_F (hnd : ∀ (i : Nat) (o : Oper), ops[i]? = some o → noDefer o = true) : ∀ (f : Nat) (listed : Array Bool) (a : Act) (w : World), wpAnyF P md ops Fut cl Q f listed a w → wpAnyIn (Fence.wide.inRound l) n P md ops Q f listed a w
  | 0, _, _, _, h => h
  | f + 1, _, _, _, h => ⟨h.1, fun i hi => wpOpIn_of_F hnd (wpOpF_mono (fun a w h1 => wpAnyIn_of_F hnd f _ a w h1) (h.2 i hi))⟩
end
/-- The law, in a round. -/
theorem wpIn_plan {P : Program} {Q : Exit → Act → World → Prop} {lp n : Nat} {id : Nat} {a : Act} {w : World} {l : List Oper} (Fut : World → World → Prop) (cl : List Nat) (p : Plan) (hm : P.follows .mixedOrders = true) (hB : planOf l cl p = true) (hnd : l.all noDefer = true) (hrefl : ∀ w, Fut w w) (htr : ∀ w1 w2 w3, Fut w1 w2 → Fut w2 w3 → Fut w1 w3)
    (h : ∀ w2, Drawn w w2 → wpS P l.toArray Fut cl Q p a w2) : (Code.region id l.toArray true).wpIn (Fence.wide.inRound lp) n P Q a w := by
  replace h := h w.drew (Drawn.one w)
  simp only [planOf, Bool.and_eq_true] at hB
  refine wpIn_region_any hm (wpAnyIn_of_F (Fut := Fut) (cl := cl) (fun i o ho => by
    rw [List.getElem?_toArray] at ho
    exact List.all_eq_true.1 hnd o (List.mem_of_getElem? ho)) _ _ _ _ ?_)
  have h0 := wpAnyF_of_plan (Q := Q) (md := .any) hB.1 hrefl htr p l.length [] (Array.replicate l.length false) a w.drew (fun j oj _ hj => by
    rw [Array.getD_eq_getD_getElem?, Array.getElem?_replicate] at hj
    split at hj <;> simp at hj) hB.2 (fun j hj => by cases hj) h
  simpa using h0
end Go.Proofs.Ytofhohofaedokaa

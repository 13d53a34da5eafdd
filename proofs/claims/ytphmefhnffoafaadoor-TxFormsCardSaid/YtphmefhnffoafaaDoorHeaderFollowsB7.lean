/- The contracts of layer 3, ready for the laws: facts that last while memory grows; equality of digests. -/
import Derived.Test.YtphmefhnffoafaaDoorHeaderFollowsB5
import Derived.Test.YtphmefhnffoafaaDoorHeaderFollowsB6
import Derived.Stop.BytesEq
import Derived.Test.YtphmefhnffoafaaDoorHeaderFollowsB4
import Derived.Test.YtphmefhnffoafaaDoorHeaderFollowsB1
import Derived.CallsIn
import Derived.OrdersIn
import Derived.RangeFuncCalls
/- The contracts of layer 3, ready for the laws: facts that last while memory grows; equality of digests. -/
namespace Go.Proofs.YtphmefhnffoafaaDoor
open Go.RowKit Go.Shelf
set_option linter.unusedVariables false
theorem Tabs.grow {w w' : World} (h : Tabs w) (k : Grow w w') : Tabs w' := h.below k
theorem Parts.grow {w w' : World} {A : Option Addr} {n : Nat} {ps : List (Value × List UInt8)} (h : Parts w w.heap.size A n ps) (k : Grow w w') : Parts w' w'.heap.size A n ps := (h.below k).more k.size
theorem eql_ids (a b : List UInt8) (ha : a.length = 32) (hb : b.length = 32) (w : World) : (binOp .eql 23 (.agg (a.map B).toArray) (.agg (b.map B).toArray)).run Tryd.prog w = .ok (.bool (a == b)) w :=
  run_eql_bytes w 23 5 32 Tryd.underlying23 (by kernel_rfl) (fun w => by
    obtain ⟨i, hi, hs⟩ := Option.map_eq_some_iff.1 (show (Tryd.prog.info? 5).map (·.size) = some 1 by kernel_rfl)
    simp [sizeOf, typeInfo, hi, hs]) a b ha hb
/-- A digest's cells. -/
def Dig (xs : List Value) (d : List UInt8) : Prop := xs = d.map B ∧ d.length = 32
theorem Dig.sha (bs : List UInt8) : Dig ((sha bs).map B) (sha bs) := ⟨rfl, sha_length bs⟩
theorem Dig.len {xs : List Value} {d : List UInt8} (h : Dig xs d) : xs.length = 32 := by rw [h.1, List.length_map, h.2]
theorem Dig.one {xs : List Value} {d : List UInt8} (h : Dig xs d) : ∀ u ∈ xs, u.oneCell' = true := by rw [h.1]; exact all_bytes d
theorem Dig.eql {xs ys : List Value} {a b : List UInt8} (h : Dig xs a) (k : Dig ys b) (w : World) : (binOp .eql 23 (.agg xs.toArray) (.agg ys.toArray)).run Tryd.prog w = .ok (.bool (a == b)) w := by
  rw [h.1, k.1]; exact eql_ids a b h.2 k.2 w
theorem Dig.self {xs : List Value} {a : List UInt8} (h : Dig xs a) (w : World) : (binOp .eql 23 (.agg xs.toArray) (.agg xs.toArray)).run Tryd.prog w = .ok (.bool true) w := by
  rw [h.eql h]; simp
theorem Dig.neq {xs ys : List Value} {a b : List UInt8} (h : Dig xs a) (k : Dig ys b) (w : World) : (binOp .neq 23 (.agg xs.toArray) (.agg ys.toArray)).run Tryd.prog w = .ok (.bool (a != b)) w := by
  have e := h.eql k w
  unfold binOp at e ⊢
  simp only [Sem.run_bind] at e ⊢
  generalize (Op.equal 23 (.agg xs.toArray) (.agg ys.toArray)).run Tryd.prog w = r at *
  cases r with
  | ok v w' =>
    simp only [Result.andThen_ok, Sem.run_pure, Result.ok.injEq, Value.bool.injEq] at e ⊢
    obtain ⟨rfl, rfl⟩ := e
    exact ⟨rfl, rfl⟩
  | halt x w' => simp [Result.andThen] at e
/-- A list of slices of bytes. -/
def PartOK (w : World) (Bd : Nat) (p : Value × List UInt8) : Prop := ∃ A c, p.1 = .slice A p.2.length c ∧ p.2.length ≤ c ∧ Sl w Bd 1 A p.2.length (p.2.map B)
theorem part_mk {w : World} {Bd n c : Nat} {A : Option Addr} {bs : List UInt8} (h : Sl w Bd 1 A n (bs.map B)) (hc : n ≤ c) : PartOK w Bd (.slice A n c, bs) := by
  have e : bs.length = n := by have := h.len; simpa using this
  refine ⟨A, c, by rw [e], by rw [e]; exact hc, by rw [e]; exact h⟩
theorem parts_mk {w : World} {Bd n : Nat} {A : Option Addr} {ps : List (Value × List UInt8)} (h : Sl w Bd 1 A n (ps.map Prod.fst)) (hp : ∀ p ∈ ps, PartOK w Bd p) : Parts w Bd A n ps := ⟨h, hp⟩
theorem parts_blk {w : World} {g n : Nat} {t : TypeId} {ps : List (Value × List UInt8)} (h : Blk w g t (ps.map Prod.fst)) (hn : ps.length = n) (hp : ∀ p ∈ ps, PartOK w w.heap.size p) : Parts w w.heap.size (some ⟨g, 0, none⟩) n ps :=
  parts_mk (h.sl (by simp [hn])) hp
theorem dsum_any (A : Option Addr) (n c : Nat) (ps : List (Value × List UInt8)) {bs : List UInt8} {xs : List Value} (hx : Dig xs (sha bs)) (hcat : cat ps = bs) (w : World) (hp : Parts w w.heap.size A n ps) (hn : n ≤ 1000000) (hl : bs.length ≤ 1099511627776) (ht : Tabs w) :
    Calls Tryd.prog 119 #[.slice A n c] w fun e w' => e = .returned (.agg xs.toArray) ∧ Below w.heap.size w w' := by
  rw [hx.1, ← hcat]
  exact sum_any A n c ps w hp hn (by rw [hcat]; exact hl) ht
end Go.Proofs.YtphmefhnffoafaaDoor

/- Arguments opened: bytes, lists of bytes, lists of digests. -/
namespace Go.Proofs.YtphmefhnffoafaaDoor
open Go.RowKit Go.ChangeShapes Go.WideShapes
set_option linter.unusedVariables false
set_option maxRecDepth 100000
section
variable {H : Type} {enc : TypeId × Value → H} {w : World} {r : Reach} {b0 base : Nat} {spare : Nat → Bool} {held : Bool}
theorem open_b {v : Value} {d : DataW H} {ps : List MemPlace} (hval : Value.okWide Tryd.prog w r b0 26 v) (h : DataW.Trod enc Tryd.prog w base spare held 26 v d ps) :
    ∃ A n c, ∃ bs : List UInt8, v = .slice A n c ∧ Sl w w.heap.size 1 A n (bs.map B) ∧ n ≤ c ∧ c ≤ maxLen := open_u8s Tryd.underlying26 Tryd.underlying5 (by kernel_rfl) hval h
/-- A list of lists of bytes that came in. -/
theorem open_bb {v : Value} {d : DataW H} {ps : List MemPlace} (hval : Value.okWide Tryd.prog w r b0 31 v) (h : DataW.Trod enc Tryd.prog w base spare held 31 v d ps) :
    ∃ A n c, ∃ l : List (Value × List UInt8), v = .slice A n c ∧ Parts w w.heap.size A n l ∧ n ≤ c ∧ c ≤ maxLen := by
  obtain ⟨A, n, c, l, h1, h2, h3, h4, h5, h6, _⟩ := open_list (fun x : Value × List UInt8 => [x.1]) (fun p => ∃ A c, p.1 = .slice A p.2.length c ∧ p.2.length ≤ c ∧ Sl w w.heap.size 1 A p.2.length (p.2.map B)) Tryd.underlying31 (by kernel_rfl) (show 0 < 1 by omega) (fun fuel cs y hl ht => by
    obtain ⟨A', n', c', bs, e, hs, hn, _, hbl⟩ := open_u8s0 Tryd.underlying26 Tryd.underlying5 (by kernel_rfl) ht
    exact ⟨(.slice A' n' c', bs), e, A', c', by rw [hbl], by rw [hbl]; exact hn, by rw [hbl]; exact hs⟩) hval h
  exact ⟨A, n, c, l, h1, ⟨by rw [← flat_one]; exact h5, h6⟩, h3, h4⟩
end
end Go.Proofs.YtphmefhnffoafaaDoor

/- Arguments opened: headers and entries. -/
namespace Go.Proofs.YtphmefhnffoafaaDoor
open Go.RowKit Go.ChangeShapes Go.WideShapes
set_option linter.unusedVariables false
set_option maxRecDepth 100000
section
variable {H : Type} {enc : TypeId × Value → H} {w : World} {r : Reach} {b0 base : Nat} {spare : Nat → Bool} {held : Bool}
theorem i64_of {z : Int} (h : (Lit.int .i64 z).wf = true) : I64 z := bounds_i64 h
theorem u64_of {z : Int} (h : (Lit.int .u64 z).wf = true) : U64 z := by
  simp [Lit.wf, IntKind.min, IntKind.max, IntKind.signed, IntKind.bits] at h; exact ⟨by omega, by omega⟩
theorem got {α : Type} {o : Option α} {xs : List α} {i : Nat} (h : o = xs[i]?) (hi : i < xs.length) : ∃ y, o = some y := ⟨_, h.trans (List.getElem?_eq_getElem hi)⟩
theorem cut_eq {xs : List Value} {o n : Nat} {l rest : List Value} (h : (xs.drop o).take n = l) (hr : xs.drop (o + n) = rest) : xs.drop o = l ++ rest := by
  rw [← List.take_append_drop n (xs.drop o), h, List.drop_drop, hr]
theorem open_hdr {v : Value} {d : DataW H} {ps : List MemPlace} (hval : Value.okWide Tryd.prog w r b0 25 v) (h : DataW.Trod enc Tryd.prog w base spare held 25 v d ps) :
    ∃ x : Hdr, v = .agg (hdrV x).toArray ∧ x.ok := by
  obtain ⟨cs, rfl, hsz⟩ := okWide_struct Tryd.underlying25 hval
  obtain ⟨fuel, hf⟩ := h
  rw [cells_header] at hsz
  obtain ⟨xs, n, _, _, hl, hxs, hg⟩ := DataW.trod_struct Tryd.underlying25 hf
  replace hg := fun i f h => hg i f h
  have hxs5 : xs.length = 5 := hxs
  obtain ⟨y0, h0⟩ := got (hg 0 _ rfl) (by omega)
  obtain ⟨y1, h1⟩ := got (hg 1 _ rfl) (by omega)
  obtain ⟨y2, h2⟩ := got (hg 2 _ rfl) (by omega)
  obtain ⟨y3, h3⟩ := got (hg 3 _ rfl) (by omega)
  obtain ⟨y4, h4⟩ := got (hg 4 _ rfl) (by omega)
  replace h0 : DataW.trod enc Tryd.prog w base spare held n 3 ((cs.toList.drop 0).take (Tryd.prog.cellsOf 3)) = some y0 := h0
  replace h1 : DataW.trod enc Tryd.prog w base spare held n 3 ((cs.toList.drop 1).take (Tryd.prog.cellsOf 3)) = some y1 := h1
  replace h2 : DataW.trod enc Tryd.prog w base spare held n 3 ((cs.toList.drop 2).take (Tryd.prog.cellsOf 3)) = some y2 := h2
  replace h3 : DataW.trod enc Tryd.prog w base spare held n 23 ((cs.toList.drop 3).take (Tryd.prog.cellsOf 23)) = some y3 := h3
  replace h4 : DataW.trod enc Tryd.prog w base spare held n 23 ((cs.toList.drop 35).take (Tryd.prog.cellsOf 23)) = some y4 := h4
  rw [cells_int] at h0
  rw [cells_int] at h1
  rw [cells_int] at h2
  rw [cells_id] at h3
  rw [cells_id] at h4
  obtain ⟨z0, e0, _, w0⟩ := DataW.trod_int Tryd.underlying3 h0
  obtain ⟨z1, e1, _, w1⟩ := DataW.trod_int Tryd.underlying3 h1
  obtain ⟨z2, e2, _, w2⟩ := DataW.trod_int Tryd.underlying3 h2
  obtain ⟨d3, e3, l3⟩ := trod_bytes Tryd.underlying23 Tryd.underlying5 cells_u8 cells_id h3
  obtain ⟨d4, e4, l4⟩ := trod_bytes Tryd.underlying23 Tryd.underlying5 cells_u8 cells_id h4
  refine ⟨⟨z0, z1, z2, d3, d4⟩, ?_, i64_of w0, i64_of w1, i64_of w2, l3, l4⟩
  have hls : cs.toList.length = 67 := by simpa using hsz
  have : cs.toList = hdrV ⟨z0, z1, z2, d3, d4⟩ := by
    have a5 : cs.toList.drop 67 = [] := List.drop_of_length_le (by omega)
    have a4 := cut_eq e4 a5
    have a3 := cut_eq e3 a4
    have a2 := cut_eq e2 a3
    have a1 := cut_eq e1 a2
    have a0 := cut_eq e0 a1
    rw [List.drop_zero] at a0
    rw [a0]; simp [hdrV]
  rw [← this]
theorem open_ent {v : Value} {d : DataW H} {ps : List MemPlace} (hval : Value.okWide Tryd.prog w r b0 29 v) (h : DataW.Trod enc Tryd.prog w base spare held 29 v d ps) :
    ∃ x : Ent, v = .agg (entV x).toArray ∧ x.ok := by
  obtain ⟨cs, rfl, hsz⟩ := okWide_struct Tryd.underlying29 hval
  obtain ⟨fuel, hf⟩ := h
  rw [cells_entry] at hsz
  obtain ⟨xs, n, _, _, hl, hxs, hg⟩ := DataW.trod_struct Tryd.underlying29 hf
  replace hg := fun i f h => hg i f h
  have hxs5 : xs.length = 6 := hxs
  obtain ⟨y0, h0⟩ := got (hg 0 _ rfl) (by omega)
  obtain ⟨y1, h1⟩ := got (hg 1 _ rfl) (by omega)
  obtain ⟨y2, h2⟩ := got (hg 2 _ rfl) (by omega)
  obtain ⟨y3, h3⟩ := got (hg 3 _ rfl) (by omega)
  obtain ⟨y4, h4⟩ := got (hg 4 _ rfl) (by omega)
  obtain ⟨y5, h5⟩ := got (hg 5 _ rfl) (by omega)
  replace h0 : DataW.trod enc Tryd.prog w base spare held n 3 ((cs.toList.drop 0).take (Tryd.prog.cellsOf 3)) = some y0 := h0
  replace h1 : DataW.trod enc Tryd.prog w base spare held n 3 ((cs.toList.drop 1).take (Tryd.prog.cellsOf 3)) = some y1 := h1
  replace h2 : DataW.trod enc Tryd.prog w base spare held n 23 ((cs.toList.drop 2).take (Tryd.prog.cellsOf 23)) = some y2 := h2
  replace h3 : DataW.trod enc Tryd.prog w base spare held n 27 ((cs.toList.drop 34).take (Tryd.prog.cellsOf 27)) = some y3 := h3
  replace h4 : DataW.trod enc Tryd.prog w base spare held n 3 ((cs.toList.drop 35).take (Tryd.prog.cellsOf 3)) = some y4 := h4
  replace h5 : DataW.trod enc Tryd.prog w base spare held n 3 ((cs.toList.drop 36).take (Tryd.prog.cellsOf 3)) = some y5 := h5
  rw [cells_int] at h0
  rw [cells_int] at h1
  rw [cells_id] at h2
  rw [cells_u64] at h3
  rw [cells_int] at h4
  rw [cells_int] at h5
  obtain ⟨z0, e0, _, w0⟩ := DataW.trod_int Tryd.underlying3 h0
  obtain ⟨z1, e1, _, w1⟩ := DataW.trod_int Tryd.underlying3 h1
  obtain ⟨d2, e2, l2⟩ := trod_bytes Tryd.underlying23 Tryd.underlying5 cells_u8 cells_id h2
  obtain ⟨z3, e3, _, w3⟩ := DataW.trod_int Tryd.underlying27 h3
  obtain ⟨z4, e4, _, w4⟩ := DataW.trod_int Tryd.underlying3 h4
  obtain ⟨z5, e5, _, w5⟩ := DataW.trod_int Tryd.underlying3 h5
  refine ⟨⟨z0, z1, d2, z3, z4, z5⟩, ?_, i64_of w0, i64_of w1, l2, u64_of w3, i64_of w4, i64_of w5⟩
  have hls : cs.toList.length = 37 := by simpa using hsz
  have : cs.toList = entV ⟨z0, z1, d2, z3, z4, z5⟩ := by
    have a6 : cs.toList.drop 37 = [] := List.drop_of_length_le (by omega)
    have a5 := cut_eq e5 a6
    have a4 := cut_eq e4 a5
    have a3 := cut_eq e3 a4
    have a2 := cut_eq e2 a3
    have a1 := cut_eq e1 a2
    have a0 := cut_eq e0 a1
    rw [List.drop_zero] at a0
    rw [a0]; simp [entV]
  rw [← this]
end
end Go.Proofs.YtphmefhnffoafaaDoor

/- Variables that hold whole arrays: facts that last while memory grows. -/
namespace Go.Proofs.YtphmefhnffoafaaDoor
open Go.RowKit Go.Shelf
set_option linter.unusedVariables false
theorem wanted_none {o : Oper} {y : Nat → Option Bool} (h : o.guard = none) : Region.wanted o y = true := by unfold Region.wanted; rw [h]
/-- A block that holds n cells. -/
def At (w : World) (g : Nat) (T : TypeId) (n : Nat) (xs : List Value) : Prop := Blk w g T xs ∧ xs.length = n
theorem at_mk {w : World} {g : Nat} {T : TypeId} {n : Nat} {xs : List Value} (h : Blk w g T xs) (hn : xs.length = n) : At w g T n xs := ⟨h, hn⟩
theorem At.blk {w : World} {g : Nat} {T : TypeId} {n : Nat} {xs : List Value} (h : At w g T n xs) : Blk w g T xs := h.1
theorem At.len {w : World} {g : Nat} {T : TypeId} {n : Nat} {xs : List Value} (h : At w g T n xs) : xs.length = n := h.2
theorem At.grow {w w' : World} {g : Nat} {T : TypeId} {n : Nat} {xs : List Value} (h : At w g T n xs) (k : Grow w w') : At w' g T n xs := ⟨h.1.grow k, h.2⟩
theorem At.sl {w : World} {g : Nat} {T : TypeId} {n : Nat} {xs : List Value} (h : At w g T n xs) : Sl w w.heap.size 1 (some ⟨g, 0, none⟩) n xs := h.1.sl (by rw [h.2]; omega)
theorem At.lt {w : World} {g : Nat} {T : TypeId} {n : Nat} {xs : List Value} (h : At w g T n xs) : g < w.heap.size := h.1.lt
theorem var_grow {w w1 w2 : World} (h1 : Below w.heap.size w w1) (hz : w1.heap.size = w.heap.size + 1) (hg : w1.grownBy w2 (some w.heap.size)) : Grow w w2 :=
  h1.grown hg (by omega) (by intro g hg; cases hg; exact Nat.le_refl _)
theorem put_below {w0 w w2 : World} {g : Nat} (h : Below w0.heap.size w0 w) (hg : w0.heap.size ≤ g) (k : w.grownBy w2 (some g)) : Below w0.heap.size w0 w2 :=
  h.grown k h.size (by intro q hq; cases hq; exact hg)
theorem len_id {v : Value} : (List.replicate 32 v).length = 32 := by simp
theorem Dig.bytes {w : World} {A : Option Addr} {n : Nat} {xs : List Value} {d : List UInt8} (h : Dig xs d) (hs : Sl w w.heap.size 1 A n xs) : Sl w w.heap.size 1 A n (d.map B) := by rw [← h.1]; exact hs
/-- A row of this call's own, appended to: what lay below the call's base stays. -/
theorem app_below {w0 w w2 : World} {A : Option Addr} {e : TypeId} {sz n c : Nat} {xs : List Value} (h : Below w0.heap.size w0 w) (ho : w.ownsRow w0.heap.size e sz (.slice A n c) n xs) (k : w.grownBy w2 (A.map Addr.block)) : Below w0.heap.size w0 w2 :=
  below_grown h k h.size (own_from ho)
end Go.Proofs.YtphmefhnffoafaaDoor

/- Rows of the call's own, in facts that last. -/
namespace Go.Proofs.YtphmefhnffoafaaDoor
open Go.RowKit Go.Shelf
theorem own_blk {w : World} {base g n : Nat} {e : TypeId} {cs : List Value} (h : Blk w g e cs) (hn : cs.length = n) (hb : base ≤ g) (hm : n ≤ maxLen) : w.ownsRow base e 1 (.slice (some ⟨g, 0, none⟩) n n) n cs :=
  ⟨by omega, .inr ⟨g, n, cs.toArray, rfl, hb, h, Nat.le_refl _, hm, by simp; omega, List.take_of_length_le (by simp; omega)⟩⟩
theorem shl_b (s : Nat) (h : s < 8) : IntKind.u8.wrap ((1 : Int) * 2 ^ s) = b8 (1 <<< UInt8.ofNat s) := by
  have : s = 0 ∨ s = 1 ∨ s = 2 ∨ s = 3 ∨ s = 4 ∨ s = 5 ∨ s = 6 ∨ s = 7 := by omega
  rcases this with rfl | rfl | rfl | rfl | rfl | rfl | rfl | rfl <;> rfl
theorem Sl.up {w w' : World} {A : Option Addr} {n : Nat} {xs : List Value} (h : Sl w w.heap.size 1 A n xs) (hb : Below w.heap.size w w') : Sl w' w'.heap.size 1 A n xs := (h.below hb).more hb.size
/-- A row of this call's own. -/
def OwnAt (w : World) (base : Nat) (A : Option Addr) (n c : Nat) (xs : List Value) : Prop := w.ownsRow base 5 1 (.slice A n c) n xs
theorem OwnAt.grow {w w' : World} {base n c : Nat} {A : Option Addr} {xs : List Value} (h : OwnAt w base A n c xs) (k : Grow w w') : OwnAt w' base A n c xs := own_below h k
theorem own_frozen {w : World} {base g n c : Nat} {e : TypeId} {sz : Nat} {xs : List Value} (h : w.ownsRow base e sz (.slice (some ⟨g, 0, none⟩) n c) n xs) (k : Nat) : w.frozen? ⟨g, k, none⟩ = false := by
  rcases h.2 with ⟨hv, _⟩ | ⟨g2, cap, cur, hv, hb, hg, _⟩
  · cases hv
  · cases hv; exact frozen_of_row w g k cur e hg
theorem wrap64_in (x : Int) (h : -9223372036854775808 ≤ x ∧ x ≤ 9223372036854775807) : RowKit.wrap64 x = x := by unfold RowKit.wrap64; omega
end Go.Proofs.YtphmefhnffoafaaDoor

/- A number's bytes (plain). No program in sight. -/
namespace Go.Proofs.YtphmefhnffoafaaDoor
set_option linter.unusedVariables false

/-- The bytes of n, the least first. -/
def leB (n : Nat) : List UInt8 := if h : n = 0 then [] else UInt8.ofNat n :: leB (n / 256)
termination_by n
decreasing_by exact Nat.div_lt_self (Nat.pos_of_ne_zero h) (by omega)
theorem leB_zero : leB 0 = [] := by rw [leB]; rfl
theorem leB_pos {n : Nat} (h : n ≠ 0) : leB n = UInt8.ofNat n :: leB (n / 256) := by rw [leB, dif_neg h]
def lenB (n : Nat) : Nat := (leB n).length
theorem lenB_zero : lenB 0 = 0 := by rw [lenB, leB_zero]; rfl
theorem lenB_pos {n : Nat} (h : n ≠ 0) : lenB n = lenB (n / 256) + 1 := by rw [lenB, leB_pos h]; rfl
theorem lenB_le : ∀ (k n : Nat), n < 256 ^ k → lenB n ≤ k
  | 0, n, h => by obtain rfl : n = 0 := by simpa using h
                  rw [lenB_zero]; omega
  | k + 1, n, h => by
    by_cases hn : n = 0
    · rw [hn, lenB_zero]; omega
    · rw [lenB_pos hn]
      have := lenB_le k (n / 256) (by rw [Nat.pow_succ] at h; omega)
      omega
theorem lenB_64 {n : Nat} (h : n ≤ 18446744073709551615) : lenB n ≤ 8 := lenB_le 8 n (by omega)
theorem leB_at : ∀ (i n : Nat), i < lenB n → (leB n)[i]? = some (UInt8.ofNat (n / 256 ^ i))
  | 0, n, h => by
    have hn : n ≠ 0 := by rintro rfl; rw [lenB_zero] at h; omega
    rw [leB_pos hn]; simp
  | i + 1, n, h => by
    have hn : n ≠ 0 := by rintro rfl; rw [lenB_zero] at h; omega
    rw [lenB_pos hn] at h
    rw [leB_pos hn, List.getElem?_cons_succ, leB_at i (n / 256) (by omega), Nat.div_div_eq_div_mul, Nat.pow_succ, Nat.mul_comm 256]
/-- A number's form: how many bytes, then these, the greatest first. -/
def numB (n : Nat) : List UInt8 := UInt8.ofNat (lenB n) :: (leB n).reverse
theorem numB_len (n : Nat) : (numB n).length = lenB n + 1 := by rw [numB, List.length_cons, List.length_reverse]; rfl
theorem numB_le {n : Nat} (h : n ≤ 18446744073709551615) : (numB n).length ≤ 9 := by rw [numB_len]; have := lenB_64 h; omega
theorem leB_len (n : Nat) : (leB n).length = lenB n := rfl
theorem numB_zero (n : Nat) : (numB n).take 1 = [UInt8.ofNat (lenB n)] := rfl
theorem numB_at {n t : Nat} (h : t < lenB n) : (numB n)[t + 1]? = some (UInt8.ofNat (n / 256 ^ (lenB n - 1 - t))) := by
  unfold numB
  rw [List.getElem?_cons_succ, List.getElem?_reverse (by rw [leB_len]; exact h), leB_len, leB_at _ _ (by omega)]
theorem take_snoc {α : Type} {l : List α} {t : Nat} {x : α} (h : l[t]? = some x) : l.take (t + 1) = l.take t ++ [x] := by
  rw [List.take_add_one, h]; rfl
theorem numB_step {n t : Nat} (h : t < lenB n) : (numB n).take (t + 1 + 1) = (numB n).take (t + 1) ++ [UInt8.ofNat (n / 256 ^ (lenB n - 1 - t))] := take_snoc (numB_at h)
theorem numB_all (n : Nat) : (numB n).take (lenB n + 1) = numB n := List.take_of_length_le (by rw [numB_len]; exact Nat.le_refl _)
theorem leB_rev {n t : Nat} (h : t < lenB n) : (leB n)[lenB n - 1 - t]? = some (UInt8.ofNat (n / 256 ^ (lenB n - 1 - t))) := leB_at _ _ (by omega)
theorem lenB_div : ∀ (j n : Nat), j ≤ lenB n → lenB (n / 256 ^ j) + j = lenB n
  | 0, n, _ => by simp
  | j + 1, n, h => by
    have hn : n ≠ 0 := by rintro rfl; rw [lenB_zero] at h; omega
    rw [lenB_pos hn] at h ⊢
    have := lenB_div j (n / 256) (by omega)
    rw [Nat.pow_succ, Nat.mul_comm, ← Nat.div_div_eq_div_mul]; omega
theorem lenB_eq0 {n : Nat} (h : lenB n = 0) : n = 0 := by
  by_cases hn : n = 0
  · exact hn
  · rw [lenB_pos hn] at h; omega
theorem b8_ofNat (n : Nat) : b8 (UInt8.ofNat n) = ((n % 256 : Nat) : Int) := by unfold b8; rw [UInt8.toNat_ofNat']
attribute [irreducible] lenB numB
end Go.Proofs.YtphmefhnffoafaaDoor

/- What a pen holds; what is kept beside it. -/
namespace Go.Proofs.YtphmefhnffoafaaDoor
open Go.RowKit Go.Shelf
set_option linter.unusedVariables false

/-- What K names lies as it lay. -/
structure Kept (K : Nat → Prop) (w w' : World) : Prop where
  os : w'.os = w.os
  tape : w'.tape = w.tape
  output : w'.output = w.output
  size : w.heap.size ≤ w'.heap.size
  block : ∀ k, K k → w'.heap[k]? = w.heap[k]?
section
variable {K : Nat → Prop} {w w1 w2 : World}
theorem Kept.refl (K : Nat → Prop) (w : World) : Kept K w w := ⟨rfl, rfl, rfl, Nat.le_refl _, fun _ _ => rfl⟩
theorem Kept.trans (h : Kept K w w1) (k : Kept K w1 w2) : Kept K w w2 := ⟨k.os.trans h.os, k.tape.trans h.tape, k.output.trans h.output, Nat.le_trans h.size k.size, fun i hi => (k.block i hi).trans (h.block i hi)⟩
theorem Kept.of_grow (h : Grow w w1) (hK : ∀ k, K k → k < w.heap.size) : Kept K w w1 := ⟨h.os, h.tape, h.output, h.size, fun k hk => h.block k (hK k hk)⟩
theorem Kept.of_grown {row : Option Nat} (h : w.grownBy w1 row) (hK : ∀ k, K k → k < w.heap.size ∧ row ≠ some k) : Kept K w w1 :=
  ⟨h.os, h.tape, h.output, h.size, fun k hk => h.block k (hK k hk).1 (fun e => (hK k hk).2 e.symm)⟩
theorem Kept.mono {K' : Nat → Prop} (h : Kept K w w1) (hK : ∀ k, K' k → K k) : Kept K' w w1 := ⟨h.os, h.tape, h.output, h.size, fun k hk => h.block k (hK k hk)⟩
theorem Kept.below {Bd : Nat} (h : Kept K w w1) (hB : ∀ k, k < Bd → K k) : Below Bd w w1 := ⟨h.os, h.tape, h.output, h.size, fun k hk => h.block k (hB k hk)⟩
theorem Kept.blk {g : Nat} {t : TypeId} {cs : List Value} (h : Kept K w w1) (hb : Blk w g t cs) (hg : K g) : Blk w1 g t cs := (h.block g hg).trans hb

/-- The pen in block g has written xs; its row is none that K names. -/
def PenAt (w : World) (K : Nat → Prop) (g : Nat) (xs : List UInt8) : Prop :=
  ∃ A c, Blk w g 93 [.slice A xs.length c] ∧ w.ownsRow 0 5 1 (.slice A xs.length c) xs.length (xs.map B) ∧ (∀ k, K k → k < w.heap.size ∧ k ≠ g ∧ A.map Addr.block ≠ some k) ∧ A.map Addr.block ≠ some g
theorem own_lt {base : Nat} {e : TypeId} {sz n c : Nat} {A : Option Addr} {ys : List Value} (h : w.ownsRow base e sz (.slice A n c) n ys) : ∀ g, A.map Addr.block = some g → g < w.heap.size := by
  rcases h.2 with ⟨hv, _⟩ | ⟨g, cap, cur, hv, _, hh, _⟩
  · injection hv with hA; subst hA; intro g hg; cases hg
  · injection hv with hA; subst hA
    intro g' hg'
    obtain rfl : g = g' := by simpa using hg'
    exact (Array.getElem?_eq_some_iff.1 hh).1
theorem PenAt.grow {g : Nat} {xs : List UInt8} (h : PenAt w K g xs) (k : Grow w w1) : PenAt w1 K g xs := by
  obtain ⟨A, c, h1, h2, h3, h4⟩ := h
  exact ⟨A, c, h1.grow k, h2.grow k, fun j hj => ⟨Nat.lt_of_lt_of_le (h3 j hj).1 k.size, (h3 j hj).2⟩, h4⟩
theorem PenAt.lt {g : Nat} {xs : List UInt8} (h : PenAt w K g xs) : g < w.heap.size := by obtain ⟨A, c, h1, _⟩ := h; exact h1.lt
theorem PenAt.less {K' : Nat → Prop} {g : Nat} {xs : List UInt8} (h : PenAt w K g xs) (hK : ∀ k, K' k → K k) : PenAt w K' g xs := by
  obtain ⟨A, c, h1, h2, h3, h4⟩ := h
  exact ⟨A, c, h1, h2, fun j hj => h3 j (hK j hj), h4⟩
/-- New blocks are none of the pen's. -/
theorem PenAt.more {K' : Nat → Prop} {g : Nat} {xs : List UInt8} (h : PenAt w K g xs) (k : Grow w w1) (hK : ∀ j, K' j → K j ∨ (w.heap.size ≤ j ∧ j < w1.heap.size)) : PenAt w1 K' g xs := by
  have hlt := h.lt
  obtain ⟨A, c, h1, h2, h3, h4⟩ := h
  refine ⟨A, c, h1.grow k, h2.grow k, fun j hj => ?_, h4⟩
  rcases hK j hj with hk | ⟨ha, hb⟩
  · exact ⟨Nat.lt_of_lt_of_le (h3 j hk).1 k.size, (h3 j hk).2⟩
  · exact ⟨hb, by omega, fun e => by have := own_lt h2 j e; omega⟩
theorem PenAt.new {g : Nat} (h : Blk w g 93 [.slice none 0 0]) (hK : ∀ k, K k → k < w.heap.size ∧ k ≠ g) : PenAt w K g [] :=
  ⟨none, 0, h, World.ownsRow_nil w _ _ _, fun k hk => ⟨(hK k hk).1, (hK k hk).2, by simp⟩, by simp⟩
/-- 'p.b = append(p.b, ..)'. -/
theorem pen_app {g c c' : Nat} {A A' : Option Addr} {xs ys : List UInt8} (h1 : Blk w g 93 [.slice A xs.length c]) (h2 : w.ownsRow 0 5 1 (.slice A xs.length c) xs.length (xs.map B))
    (h3 : ∀ k, K k → k < w.heap.size ∧ k ≠ g ∧ A.map Addr.block ≠ some k) (h4 : A.map Addr.block ≠ some g)
    (ho : w1.ownsRow 0 5 1 (.slice A' ys.length c') ys.length (ys.map B)) (hg : w.grownBy w1 (A.map Addr.block)) (hA : ∀ b, A'.map Addr.block = some b → A.map Addr.block = some b ∨ w.heap.size ≤ b) :
    PenAt (w1.setCell ⟨g, 0, none⟩ (.slice A' ys.length c')) K g ys ∧ Kept K w (w1.setCell ⟨g, 0, none⟩ (.slice A' ys.length c')) := by
  have hlt := h1.lt
  have hne : A'.map Addr.block ≠ some g := fun e => by rcases hA g e with h | h <;> first | exact h4 h | omega
  have hk : Kept K w w1 := Kept.of_grown hg (fun k hk => ⟨(h3 k hk).1, (h3 k hk).2.2⟩)
  have hs := grown_set w1 g 0 (.slice A' ys.length c')
  refine ⟨⟨A', c', ?_, own_kept ho hs (fun k e => by rw [e] at hne; intro e2; injection e2 with e3; exact hne (by simp [e3])), fun k hkk => ⟨?_, (h3 k hkk).2.1, fun e => ?_⟩, hne⟩, hk.trans (Kept.of_grown hs (fun k hkk => ⟨Nat.lt_of_lt_of_le (h3 k hkk).1 hk.size, fun e => (h3 k hkk).2.1 (by injection e with e; exact e.symm)⟩))⟩
  · have := (h1.grown hg (fun e => h4 e.symm)).set_ 0 (.slice A' ys.length c')
    simpa using this
  · exact Nat.lt_of_lt_of_le (Nat.lt_of_lt_of_le (h3 k hkk).1 hk.size) hs.size
  · rcases hA k e with h | h
    · exact (h3 k hkk).2.2 h
    · have := (h3 k hkk).1; omega
end
end Go.Proofs.YtphmefhnffoafaaDoor

/- Contracts of slices.Backward at []byte: the iterator that it hands back. -/
namespace Go.Proofs.YtphmefhnffoafaaDoor
open Go.RowKit Go.Shelf
set_option linter.unusedVariables false

theorem back_any (A : Option Addr) (n c : Nat) (w : World) :
    Calls Tryd.prog 110 #[.slice A n c] w fun e w' => e = .returned (.func (.func 140) #[] #[.pointer (some ⟨w.heap.size, 0, none⟩)]) ∧
      w'.cell? ⟨w.heap.size, 0, none⟩ = some (.slice A n c) ∧ w'.heap.size = w.heap.size + 1 ∧ Below w.heap.size w w' := by
  go_enter Tryd.func110, Tryd.ntmps110
  go_wp2_with fail
  go_ret
  exact ⟨rfl, by simp, by simp, (Below.refl _ _).alloc (Nat.le_refl _) _⟩

def nthB (ys : List UInt8) (k : Nat) : UInt8 := ys.getD (ys.length - 1 - k) 0
set_option maxRecDepth 100000 in
set_option maxHeartbeats 1000000 in
theorem back1_any (m : Nat) (hm : 1 ≤ m) (l Bs bl n c : Nat) (A : Option Addr) (ys : List UInt8) (hA : 1 ≤ n → A = some ⟨bl, 0, none⟩) (hn : ys.length = n) (hc : n ≤ c) (hnb : n ≤ 1000000) (Kp : World → World → Prop) (hKd : ∀ W n, Kp W (World.drewN W n)) (hKt : ∀ A B C : World, Kp A B → Kp B C → Kp A C)
    (hKs : ∀ W W', Kp W W' → W'.cell? ⟨Bs, 0, none⟩ = W.cell? ⟨Bs, 0, none⟩) (hKb : ∀ W W', Kp W W' → 1 ≤ n → ∀ j, W'.cell? ⟨bl, j, none⟩ = W.cell? ⟨bl, j, none⟩) (J Jx : List (Fin n) → World → Prop) (hJd : ∀ pre W1 n, J pre W1 → J pre (W1.drewN n))
    (hY : ∀ pre x W, J pre W → pre.length < n → YieldAt Fence.wide (m - 1) Tryd.prog l #[.int .i64 ((n : Int) - 1 - (x.val : Int)), .int .u8 (b8 (nthB ys x.val))] W fun e W' =>
      (e = .returned (.bool true) ∧ J (pre ++ [x]) W' ∧ Kp W W') ∨ (e = .returned (.bool false) ∧ Jx (pre ++ [x]) W'))
    (W : World) (hBs : W.cell? ⟨Bs, 0, none⟩ = some (.slice A n c)) (hRd : ∀ j y, ys[j]? = some y → W.cell? ⟨bl, j, none⟩ = some (B y)) (h0 : J [] W) :
    Calls Tryd.prog 140 #[.func (.yield l) #[] #[], .pointer (some ⟨Bs, 0, none⟩)] W fun e W' => (∃ v, e = .returned v) ∧
      ((∃ zs, zs.map Fin.val = List.range n ∧ J zs W') ∨ (∃ pre, True ∧ Jx pre W')) := by
  have HY := Lib.hid hY; clear hY
  have HKD := Lib.hid hKd; clear hKd
  have HKT := Lib.hid hKt; clear hKt
  have HKS := Lib.hid hKs; clear hKs
  have HKB := Lib.hid hKb; clear hKb
  have HJD := Lib.hid hJd; clear hJd
  have H0 := Lib.hid h0; clear h0
  have HBS := Lib.hid hBs; clear hBs
  have HRD := Lib.hid hRd; clear hRd
  have HA := Lib.hid hA; clear hA
  have HN := Lib.hid hn; clear hn
  go_enter Tryd.func140, Tryd.ntmps140
  have c0 := HBS.out
  go_wp2_with fail
  clear c0
  go_loopw [3] (fun i wr => ∃ k : Nat, k ≤ n ∧ i = .int .i64 ((n : Int) - 1 - (k : Int)) ∧ Hid (∃ pre, pre.map Fin.val = List.range k ∧ J pre wr) ∧ Hid (Kp W wr)) (fun i _ => (intOf i + 1).toNat)
  case atStart => exact ⟨0, Nat.zero_le _, by simp, ⟨[], rfl, H0.out⟩, HKD.out W 0⟩
  case round =>
    obtain ⟨k, hk, rfl, hJ, hbw⟩ := hrel
    by_cases hlt : k < n
    · obtain rfl := HA.out (by omega)
      have c0 := (HKS.out _ _ hbw.out).trans HBS.out
      obtain ⟨j, hj1, hj2⟩ : ∃ j : Nat, (n : Int) - 1 - (k : Int) = (j : Int) ∧ j = n - 1 - k := ⟨n - 1 - k, by omega, rfl⟩
      have hjn : j < n := by omega
      have hyj : ys[j]? = some (nthB ys k) := by
        unfold nthB
        rw [HN.out, ← hj2, List.getD_eq_getElem?_getD, List.getElem?_eq_getElem (by rw [HN.out]; exact hjn)]; rfl
      have c1 : wr.cell? ⟨bl, j, none⟩ = some (.int .u8 (b8 (nthB ys k))) := (HKB.out _ _ hbw.out (by omega) j).trans (HRD.out j _ hyj)
      obtain ⟨pre, hpre, hJp⟩ := hJ.out
      have HPRE := Lib.hid hpre
      have hlen : pre.length = k := by have := congrArg List.length hpre; simpa using this
      obtain ⟨fn, tmps, assign, body, hy, hR⟩ := HY.out pre ⟨k, hlt⟩ wr hJp (by rw [hlen]; exact hlt)
      have HR := Lib.hid hR
      clear hR hJp hpre hlen hJ hyj
      dsimp only at hy
      rw [hj1] at hy ⊢
      have HJ1 := Lib.hid hj1
      have HJ2 := Lib.hid hj2
      have hg0 : decide (0 ≤ (j : Int)) = true := by simp
      clear hj1 hj2
      repeat' (first | (with_reducible refine (wpIn_wide (n := m) (c := Code.region 3 _ _)).1 ?_) | go_values | go_skip | go_guarded | go_step | go_upon | go_back)
      gi_wp2
      refine HR.out.mono ?_
      rintro e W3 (⟨rfl, hJ3, hk3⟩ | ⟨rfl, hJx3⟩)
      · have HJ3 := Lib.hid hJ3
        have HK3 := Lib.hid (HKT.out _ _ _ hbw.out hk3)
        clear hJ3 hk3
        gi_wp2
        repeat' (first | go_values | go_skip | go_guarded | go_step | go_upon | go_back)
        go_roundw
        case rel =>
          have h1 := HJ1.out
          refine ⟨k + 1, by omega, ?_, ⟨pre ++ [⟨k, hlt⟩], by rw [List.map_append, HPRE.out, List.range_succ]; rfl, HJ3.out⟩, HK3⟩
          congr 1; omega
        case measure => simp [intOf]
      · have HJX := Lib.hid hJx3
        clear hJx3
        gi_wp2
        repeat' (first | go_values | go_skip | go_guarded | go_step | go_upon | go_back)
        refine bodyPost_ret (results_none rfl _ _ _) rfl ?_
        exact ⟨⟨_, rfl⟩, .inr ⟨_, trivial, HJX.out⟩⟩
    · obtain rfl : k = n := by omega
      have hg0 : decide (0 ≤ (k : Int) - 1 - (k : Int)) = false := by simp only [decide_eq_false_iff_not]; omega
      go_wp2_with fail
      go_end0
      exact ⟨⟨_, rfl⟩, .inl hJ.out⟩
/-- What a round of Backward keeps. -/
def Kp2 (a b : Nat) (W W' : World) : Prop := W'.heap[a]? = W.heap[a]? ∧ W'.heap[b]? = W.heap[b]?
theorem back1_stops (m : Nat) (hm : 1 ≤ m) (Bs bl n c : Nat) (A : Option Addr) (ys : List UInt8) (w : World) (hA : 1 ≤ n → A = some ⟨bl, 0, none⟩) (hn : ys.length = n) (hc : n ≤ c) (hnb : n ≤ 1000000) (hbs : Bs < w.heap.size) (hbl : bl < w.heap.size)
    (hBs : w.cell? ⟨Bs, 0, none⟩ = some (.slice A n c)) (hRd : ∀ j y, ys[j]? = some y → w.cell? ⟨bl, j, none⟩ = some (B y)) :
    SeqStopsK Fence.wide m Tryd.prog 140 #[.pointer (some ⟨Bs, 0, none⟩)] (fun x : Fin n => #[.int .i64 ((n : Int) - 1 - (x.val : Int)), .int .u8 (b8 (nthB ys x.val))]) (Kp2 Bs bl) (fun xs => xs.map Fin.val = List.range n) (fun _ => True) n w := by
  intro l J Jx W hW hJ hJx hY h0
  refine callsIn_wide.2 (back1_any m hm l Bs bl n c A ys hA hn hc hnb (Kp2 Bs bl) (fun W n => ⟨rfl, rfl⟩) (fun A B C h1 h2 => ⟨h2.1.trans h1.1, h2.2.trans h1.2⟩) (fun W W' h => World.cell?_of_block h.1) (fun W W' h _ j => World.cell?_of_block h.2) J Jx ?_ hY W ?_ ?_ h0)
  · intro pre W1 n h
    exact hJ pre W1 _ none h ⟨rfl, rfl, rfl, Nat.le_refl _, fun _ _ _ => rfl⟩ (fun r e => by cases e)
  · exact (hW.cell (p := ⟨Bs, 0, none⟩) (by show Bs < _; omega)).trans hBs
  · intro j y hj
    exact (hW.cell (p := ⟨bl, j, none⟩) (by show bl < _; omega)).trans (hRd j y hj)
end Go.Proofs.YtphmefhnffoafaaDoor

/- A drawn region in the round of a range over a function: the plan's law there. No program in sight. -/
namespace Go.Proofs.YtphmefhnffoafaaDoor
open Go.RowKit
set_option linter.unusedVariables false
section
variable {P : Program} {md : Region.Mode} {ops : Array Oper} {Fut : World → World → Prop} {cl : List Nat} {Q : Exit → Act → World → Prop} {l n : Nat}
theorem oper_wpIn_round {o : Oper} {a : Act} {w : World} {K : Act → World → Prop} (hd : ∀ c, o.op ≠ .defer c) (h : o.wp P a w K Q) : o.wpIn (Fence.wide.inRound l) n P a w K Q := by
  refine ⟨fun _ _ => trivial, ?_⟩
  rw [Oper.semAt_eq _ _ _ hd]
  unfold Oper.wp at h
  generalize (execOp a.eval o).run P w = r at *
  cases r with
  | ok x w' =>
    cases x with
    | enter f args => exact ⟨fun hd => (by cases hd), (callsIn_wide.2 h).inRound l⟩
    | row row args => exact ⟨fun hd => (by cases hd), fun c cs _ => let ⟨v, w', r, s⟩ := h c cs; ⟨v, w', r, stepsIn_wide.2 s⟩⟩
    | round l f tmps assign body => exact (show False from h).elim
    | _ => exact h
  | halt x w' => cases x <;> exact h
def noDefer (o : Oper) : Bool := match o.op with | .defer _ => false | _ => true
theorem noDefer_ne {o : Oper} (h : noDefer o = true) : ∀ c, o.op ≠ .defer c := by
  intro c hc; unfold noDefer at h; rw [hc] at h; cases h
theorem wpOpIn_of_F {i : Nat} {K : Act → World → Prop} {a : Act} {w : World} (hnd : ∀ (i : Nat) (o : Oper), ops[i]? = some o → noDefer o = true) (hh : wpOpF P ops Fut cl i K a w) : wpOpIn (Fence.wide.inRound l) n P ops Q i K a w := by
  unfold wpOpF at hh
  unfold wpOpIn
  cases ho : ops[i]? with
  | none => rw [ho] at hh; exact hh.elim
  | some o =>
    rw [ho] at hh
    simp only at hh ⊢
    split
    · rename_i hw
      rw [if_pos hw] at hh
      refine oper_wpIn_round (noDefer_ne (hnd i o ho)) ?_
      split at hh
      · obtain ⟨v, h1, h2⟩ := hh
        unfold Oper.wp; rw [h1]; exact h2
      · exact oper_wp_no (fun a w h1 => h1.2) hh
    · rename_i hw; rw [if_neg hw] at hh; exact ⟨fun _ _ => trivial, hh⟩
theorem wpAnyIn_of_F (hnd : ∀ (i : Nat) (o : Oper), ops[i]? = some o → noDefer o = true) : ∀ (f : Nat) (listed : Array Bool) (a : Act) (w : World), wpAnyF P md ops Fut cl Q f listed a w → wpAnyIn (Fence.wide.inRound l) n P md ops Q f listed a w
  | 0, _, _, _, h => h
  | f + 1, _, _, _, h => ⟨h.1, fun i hi => wpOpIn_of_F hnd (wpOpF_mono (fun a w h1 => wpAnyIn_of_F hnd f _ a w h1) (h.2 i hi))⟩
end
/-- The law, in a round. -/
theorem wpIn_plan {P : Program} {Q : Exit → Act → World → Prop} {lp n : Nat} {id : Nat} {a : Act} {w : World} {l : List Oper} (Fut : World → World → Prop) (cl : List Nat) (p : Plan) (hm : P.follows .mixedOrders = true) (hB : planOf l cl p = true) (hnd : l.all noDefer = true) (hrefl : ∀ w, Fut w w) (htr : ∀ w1 w2 w3, Fut w1 w2 → Fut w2 w3 → Fut w1 w3)
    (h : ∀ w2, Drawn w w2 → wpS P l.toArray Fut cl Q p a w2) : (Code.region id l.toArray true).wpIn (Fence.wide.inRound lp) n P Q a w := by
  replace h := h w.drew (Drawn.one w)
  simp only [planOf, Bool.and_eq_true] at hB
  refine wpIn_region_any hm (wpAnyIn_of_F (Fut := Fut) (cl := cl) (fun i o ho => by
    rw [List.getElem?_toArray] at ho
    exact List.all_eq_true.1 hnd o (List.mem_of_getElem? ho)) _ _ _ _ ?_)
  have h0 := wpAnyF_of_plan (Q := Q) (md := .any) hB.1 hrefl htr p l.length [] (Array.replicate l.length false) a w.drew (fun j oj _ hj => by
    rw [Array.getD_eq_getD_getElem?, Array.getElem?_replicate] at hj
    split at hj <;> simp at hj) hB.2 (fun j hj => by cases hj) h
  simpa using h0
end Go.Proofs.YtphmefhnffoafaaDoor

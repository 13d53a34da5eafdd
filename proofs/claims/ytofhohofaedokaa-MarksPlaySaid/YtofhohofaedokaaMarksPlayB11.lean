/- Certificates: which are right, what they prove (plain). -/
import Derived.Test.YtofhohofaedokaaMarksPlayB10
import Derived.Test.YtofhohofaedokaaMarksPlayB7
import Derived.Test.YtofhohofaedokaaMarksPlayB5
import Derived.Test.YtofhohofaedokaaMarksPlayB4
import Derived.Test.YtofhohofaedokaaMarksPlayB9
set_option linter.unusedSimpArgs false
/- Certificates: which are right, what they prove (plain). -/
namespace Go.Proofs.Ytofhohofaedokaa
open Go.RowKit
set_option linter.unusedVariables false

structure Cer where
  e : Ent
  path : List (List UInt8)
  h : Hdr
  tag : List UInt8
def Cer.ok (c : Cer) : Prop := c.e.ok ∧ (∀ d ∈ c.path, d.length = 32) ∧ c.h.ok ∧ c.tag.length = 32
def keyS (seed : List UInt8) (s : Int) : List UInt8 := tagB seed [UInt8.ofNat s.toNat]
/-- Right but for the tag. -/
def midC (c : Cer) : Bool := rightE c.e && rightH c.h && decide (c.e.shard = c.h.shard) && decide (c.e.epoch = c.h.epoch)
def treeC (c : Cer) : Bool := decide (climbT (putEB c.e) 1 3 c.path = some c.h.root)
def tagC (seed : List UInt8) (n : Nat) (c : Cer) : Bool := decide (c.h.shard < n) && decide (tagB (keyS seed c.h.shard) (putHB c.h) = c.tag)
def isC (seed : List UInt8) (n : Nat) (c : Cer) : Bool := midC c && treeC c && tagC seed n c
def certV (v : Value) (c : Cer) : List Value := entV c.e ++ v :: (hdrV c.h ++ c.tag.map B)
theorem certV_len {v : Value} {c : Cer} (h : c.ok) : (certV v c).length = 137 := by
  simp only [certV, List.length_append, List.length_cons, entV_length h.1, hdrV_length h.2.2.1, List.length_map, h.2.2.2]
theorem app_at {xs ys : List Value} {j : Nat} {u : Value} (n : Nat) (hn : xs.length = n) (h : ys[j]? = some u) : (xs ++ ys)[n + j]? = some u := by
  rw [List.getElem?_append_right (by omega), hn, Nat.add_sub_cancel_left]; exact h
theorem app_lt {xs ys : List Value} {j : Nat} {u : Value} (h : xs[j]? = some u) : (xs ++ ys)[j]? = some u := by
  rw [List.getElem?_append_left (List.getElem?_eq_some_iff.1 h).1]; exact h
theorem cert_e {v : Value} {c : Cer} {j : Nat} {u : Value} (h : (entV c.e)[j]? = some u) : (certV v c)[j]? = some u := app_lt h
theorem cert_v {v : Value} {c : Cer} (h : c.ok) : (certV v c)[37]? = some v := app_at (j := 0) 37 (entV_length h.1) rfl
theorem cert_h {v : Value} {c : Cer} (hk : c.ok) {j : Nat} {u : Value} (h : (hdrV c.h)[j]? = some u) : (certV v c)[38 + j]? = some u := by
  rw [show 38 + j = 37 + (1 + j) by omega]
  refine app_at 37 (entV_length hk.1) ?_
  rw [Nat.add_comm 1 j, List.getElem?_cons_succ]; exact app_lt h
theorem cert_t {v : Value} {c : Cer} (hk : c.ok) {j : Nat} {u : Value} (h : (c.tag.map B)[j]? = some u) : (certV v c)[105 + j]? = some u := by
  rw [show 105 + j = 37 + (67 + j + 1) by omega]
  refine app_at 37 (entV_length hk.1) ?_
  rw [List.getElem?_cons_succ]; exact app_at 67 (hdrV_length hk.2.2.1) h
section
variable {c : Cer} {v : Value} {w : World} {g : Nat} {t : TypeId}
theorem midCE (hb : Blk w g t (certV v c)) : ∀ j u, (entV c.e)[j]? = some u → w.cell? ⟨g, 0 + j, none⟩ = some u := fun j u hu => by rw [Nat.zero_add]; exact hb.at_ (cert_e hu)
theorem midCH (h : c.ok) (hb : Blk w g t (certV v c)) : ∀ j u, (hdrV c.h)[j]? = some u → w.cell? ⟨g, 38 + j, none⟩ = some u := fun j u hu => hb.at_ (cert_h h hu)
theorem midCT (h : c.ok) (hb : Blk w g t (certV v c)) : ∀ j u, (c.tag.map B)[j]? = some u → w.cell? ⟨g, 105 + j, none⟩ = some u := fun j u hu => hb.at_ (cert_t h hu)
theorem root_at {x : Hdr} (h : x.ok) {j : Nat} {u : Value} (hu : (x.root.map B)[j]? = some u) : (hdrV x)[35 + j]? = some u := by
  unfold hdrV
  rw [show 35 + j = 32 + j + 1 + 1 + 1 by omega, List.getElem?_cons_succ, List.getElem?_cons_succ, List.getElem?_cons_succ]
  exact app_at 32 (by rw [List.length_map]; exact h.2.2.2.1) hu
theorem tx_at {x : Ent} {j : Nat} {u : Value} (hu : (x.tx.map B)[j]? = some u) : (entV x)[2 + j]? = some u := by
  unfold entV
  rw [show 2 + j = j + 1 + 1 by omega, List.getElem?_cons_succ, List.getElem?_cons_succ]
  exact app_lt hu
theorem midCR (h : c.ok) (hb : Blk w g t (certV v c)) : ∀ j u, (c.h.root.map B)[j]? = some u → w.cell? ⟨g, 73 + j, none⟩ = some u := fun j u hu => by
  rw [show 73 + j = 38 + (35 + j) by omega]; exact hb.at_ (cert_h h (root_at h.2.2.1 hu))
theorem midCX (h : c.ok) (hb : Blk w g t (certV v c)) : ∀ j u, (c.e.tx.map B)[j]? = some u → w.cell? ⟨g, 2 + j, none⟩ = some u := fun j u hu => hb.at_ (cert_e (tx_at hu))
end
theorem cert_one (v : Value) (hv : v.oneCell' = true) (c : Cer) : ∀ u ∈ certV v c, u.oneCell' = true := by
  intro u hu
  simp only [certV, entV, hdrV, List.mem_append, List.mem_cons, List.mem_map, List.not_mem_nil, or_false] at hu
  rcases hu with (rfl | rfl | ⟨x, _, rfl⟩ | rfl | rfl | rfl) | rfl | (rfl | rfl | rfl | ⟨x, _, rfl⟩ | ⟨x, _, rfl⟩) | ⟨x, _, rfl⟩ <;> first | rfl | exact hv
instance : DecidableEq Ent := fun a b => by
  refine decidable_of_iff (a.kind = b.kind ∧ a.shard = b.shard ∧ a.tx = b.tx ∧ a.amount = b.amount ∧ a.why = b.why ∧ a.epoch = b.epoch) ?_
  cases a; cases b; simp
instance : DecidableEq Hdr := fun a b => by
  refine decidable_of_iff (a.shard = b.shard ∧ a.height = b.height ∧ a.epoch = b.epoch ∧ a.prev = b.prev ∧ a.root = b.root) ?_
  cases a; cases b; simp
instance : DecidableEq Cer := fun a b => by
  refine decidable_of_iff (a.e = b.e ∧ a.path = b.path ∧ a.h = b.h ∧ a.tag = b.tag) ?_
  cases a; cases b; simp
/-- Two are the same. -/
def sameC (a b : Cer) : Bool := decide (a = b)
end Go.Proofs.Ytofhohofaedokaa

/- Arguments opened: bytes, lists of bytes, lists of digests. -/
namespace Go.Proofs.Ytofhohofaedokaa
open Go.RowKit Go.ChangeShapes Go.WideShapes
set_option linter.unusedVariables false
set_option maxRecDepth 100000
section
variable {H : Type} {enc : TypeId × Value → H} {w : World} {r : Reach} {b0 base : Nat} {spare : Nat → Bool} {held : Bool}
theorem open_b {v : Value} {d : DataW H} {ps : List MemPlace} (hval : Value.okWide Try.prog w r b0 70 v) (h : DataW.Trod enc Try.prog w base spare held 70 v d ps) :
    ∃ A n c, ∃ bs : List UInt8, v = .slice A n c ∧ Sl w w.heap.size 1 A n (bs.map B) ∧ n ≤ c ∧ c ≤ maxLen := open_u8s Try.underlying70 Try.underlying5 (by kernel_rfl) hval h
end
end Go.Proofs.Ytofhohofaedokaa

/- Arguments opened: headers and entries. -/
namespace Go.Proofs.Ytofhohofaedokaa
open Go.RowKit Go.ChangeShapes Go.WideShapes
set_option linter.unusedVariables false
set_option maxRecDepth 100000
section
variable {H : Type} {enc : TypeId × Value → H} {w : World} {r : Reach} {b0 base : Nat} {spare : Nat → Bool} {held : Bool}
theorem i64_of {z : Int} (h : (Lit.int .i64 z).wf = true) : I64 z := bounds_i64 h
theorem u64_of {z : Int} (h : (Lit.int .u64 z).wf = true) : U64 z := by
  simp [Lit.wf, IntKind.min, IntKind.max, IntKind.signed, IntKind.bits] at h; exact ⟨by omega, by omega⟩
theorem got {α : Type} {o : Option α} {xs : List α} {i : Nat} (h : o = xs[i]?) (hi : i < xs.length) : ∃ y, o = some y := ⟨_, h.trans (List.getElem?_eq_getElem hi)⟩
theorem cut_eq {xs : List Value} {o n : Nat} {l rest : List Value} (h : (xs.drop o).take n = l) (hr : xs.drop (o + n) = rest) : xs.drop o = l ++ rest := by
  rw [← List.take_append_drop n (xs.drop o), h, List.drop_drop, hr]
theorem open_hdr {v : Value} {d : DataW H} {ps : List MemPlace} (hval : Value.okWide Try.prog w r b0 34 v) (h : DataW.Trod enc Try.prog w base spare held 34 v d ps) :
    ∃ x : Hdr, v = .agg (hdrV x).toArray ∧ x.ok := by
  obtain ⟨cs, rfl, hsz⟩ := okWide_struct Try.underlying34 hval
  obtain ⟨fuel, hf⟩ := h
  rw [cells_header] at hsz
  obtain ⟨xs, n, _, _, hl, hxs, hg⟩ := DataW.trod_struct Try.underlying34 hf
  replace hg := fun i f h => hg i f h
  have hxs5 : xs.length = 5 := hxs
  obtain ⟨y0, h0⟩ := got (hg 0 _ rfl) (by omega)
  obtain ⟨y1, h1⟩ := got (hg 1 _ rfl) (by omega)
  obtain ⟨y2, h2⟩ := got (hg 2 _ rfl) (by omega)
  obtain ⟨y3, h3⟩ := got (hg 3 _ rfl) (by omega)
  obtain ⟨y4, h4⟩ := got (hg 4 _ rfl) (by omega)
  replace h0 : DataW.trod enc Try.prog w base spare held n 3 ((cs.toList.drop 0).take (Try.prog.cellsOf 3)) = some y0 := h0
  replace h1 : DataW.trod enc Try.prog w base spare held n 3 ((cs.toList.drop 1).take (Try.prog.cellsOf 3)) = some y1 := h1
  replace h2 : DataW.trod enc Try.prog w base spare held n 3 ((cs.toList.drop 2).take (Try.prog.cellsOf 3)) = some y2 := h2
  replace h3 : DataW.trod enc Try.prog w base spare held n 28 ((cs.toList.drop 3).take (Try.prog.cellsOf 28)) = some y3 := h3
  replace h4 : DataW.trod enc Try.prog w base spare held n 28 ((cs.toList.drop 35).take (Try.prog.cellsOf 28)) = some y4 := h4
  rw [cells_int] at h0
  rw [cells_int] at h1
  rw [cells_int] at h2
  rw [cells_id] at h3
  rw [cells_id] at h4
  obtain ⟨z0, e0, _, w0⟩ := DataW.trod_int Try.underlying3 h0
  obtain ⟨z1, e1, _, w1⟩ := DataW.trod_int Try.underlying3 h1
  obtain ⟨z2, e2, _, w2⟩ := DataW.trod_int Try.underlying3 h2
  obtain ⟨d3, e3, l3⟩ := trod_bytes Try.underlying28 Try.underlying5 cells_u8 cells_id h3
  obtain ⟨d4, e4, l4⟩ := trod_bytes Try.underlying28 Try.underlying5 cells_u8 cells_id h4
  refine ⟨⟨z0, z1, z2, d3, d4⟩, ?_, i64_of w0, i64_of w1, i64_of w2, l3, l4⟩
  have hls : cs.toList.length = 67 := by simpa using hsz
  have : cs.toList = hdrV ⟨z0, z1, z2, d3, d4⟩ := by
    have a5 : cs.toList.drop 67 = [] := List.drop_of_length_le (by omega)
    have a4 := cut_eq e4 a5
    have a3 := cut_eq e3 a4
    have a2 := cut_eq e2 a3
    have a1 := cut_eq e1 a2
    have a0 := cut_eq e0 a1
    rw [List.drop_zero] at a0
    rw [a0]; simp [hdrV]
  rw [← this]
theorem open_ent {v : Value} {d : DataW H} {ps : List MemPlace} (hval : Value.okWide Try.prog w r b0 31 v) (h : DataW.Trod enc Try.prog w base spare held 31 v d ps) :
    ∃ x : Ent, v = .agg (entV x).toArray ∧ x.ok := by
  obtain ⟨cs, rfl, hsz⟩ := okWide_struct Try.underlying31 hval
  obtain ⟨fuel, hf⟩ := h
  rw [cells_entry] at hsz
  obtain ⟨xs, n, _, _, hl, hxs, hg⟩ := DataW.trod_struct Try.underlying31 hf
  replace hg := fun i f h => hg i f h
  have hxs5 : xs.length = 6 := hxs
  obtain ⟨y0, h0⟩ := got (hg 0 _ rfl) (by omega)
  obtain ⟨y1, h1⟩ := got (hg 1 _ rfl) (by omega)
  obtain ⟨y2, h2⟩ := got (hg 2 _ rfl) (by omega)
  obtain ⟨y3, h3⟩ := got (hg 3 _ rfl) (by omega)
  obtain ⟨y4, h4⟩ := got (hg 4 _ rfl) (by omega)
  obtain ⟨y5, h5⟩ := got (hg 5 _ rfl) (by omega)
  replace h0 : DataW.trod enc Try.prog w base spare held n 3 ((cs.toList.drop 0).take (Try.prog.cellsOf 3)) = some y0 := h0
  replace h1 : DataW.trod enc Try.prog w base spare held n 3 ((cs.toList.drop 1).take (Try.prog.cellsOf 3)) = some y1 := h1
  replace h2 : DataW.trod enc Try.prog w base spare held n 28 ((cs.toList.drop 2).take (Try.prog.cellsOf 28)) = some y2 := h2
  replace h3 : DataW.trod enc Try.prog w base spare held n 29 ((cs.toList.drop 34).take (Try.prog.cellsOf 29)) = some y3 := h3
  replace h4 : DataW.trod enc Try.prog w base spare held n 3 ((cs.toList.drop 35).take (Try.prog.cellsOf 3)) = some y4 := h4
  replace h5 : DataW.trod enc Try.prog w base spare held n 3 ((cs.toList.drop 36).take (Try.prog.cellsOf 3)) = some y5 := h5
  rw [cells_int] at h0
  rw [cells_int] at h1
  rw [cells_id] at h2
  rw [cells_u64] at h3
  rw [cells_int] at h4
  rw [cells_int] at h5
  obtain ⟨z0, e0, _, w0⟩ := DataW.trod_int Try.underlying3 h0
  obtain ⟨z1, e1, _, w1⟩ := DataW.trod_int Try.underlying3 h1
  obtain ⟨d2, e2, l2⟩ := trod_bytes Try.underlying28 Try.underlying5 cells_u8 cells_id h2
  obtain ⟨z3, e3, _, w3⟩ := DataW.trod_int Try.underlying29 h3
  obtain ⟨z4, e4, _, w4⟩ := DataW.trod_int Try.underlying3 h4
  obtain ⟨z5, e5, _, w5⟩ := DataW.trod_int Try.underlying3 h5
  refine ⟨⟨z0, z1, d2, z3, z4, z5⟩, ?_, i64_of w0, i64_of w1, l2, u64_of w3, i64_of w4, i64_of w5⟩
  have hls : cs.toList.length = 37 := by simpa using hsz
  have : cs.toList = entV ⟨z0, z1, d2, z3, z4, z5⟩ := by
    have a6 : cs.toList.drop 37 = [] := List.drop_of_length_le (by omega)
    have a5 := cut_eq e5 a6
    have a4 := cut_eq e4 a5
    have a3 := cut_eq e3 a4
    have a2 := cut_eq e2 a3
    have a1 := cut_eq e1 a2
    have a0 := cut_eq e0 a1
    rw [List.drop_zero] at a0
    rw [a0]; simp [entV]
  rw [← this]
end
end Go.Proofs.Ytofhohofaedokaa

/- Arguments opened: digests, lists of digests. -/
namespace Go.Proofs.Ytofhohofaedokaa
open Go.RowKit Go.ChangeShapes Go.WideShapes
set_option linter.unusedVariables false
set_option maxRecDepth 100000
section
variable {H : Type} {enc : TypeId × Value → H} {w : World} {r : Reach} {b0 base : Nat} {spare : Nat → Bool} {held : Bool}
theorem open_dig {v : Value} {d : DataW H} {ps : List MemPlace} (hval : Value.okWide Try.prog w r b0 28 v) (h : DataW.Trod enc Try.prog w base spare held 28 v d ps) :
    ∃ ds : List UInt8, v = .agg (ds.map B).toArray ∧ ds.length = 32 :=
  open_arr32 Try.underlying28 Try.underlying5 (by kernel_rfl) (by kernel_rfl) hval h
theorem open_digs {v : Value} {d : DataW H} {ps : List MemPlace} (hval : Value.okWide Try.prog w r b0 32 v) (h : DataW.Trod enc Try.prog w base spare held 32 v d ps) :
    ∃ A n c, ∃ l : List (List UInt8), v = .slice A n c ∧ Sl w w.heap.size 32 A n (l.flatMap (·.map B)) ∧ l.length = n ∧ (∀ x ∈ l, x.length = 32) ∧ n ≤ c ∧ c ≤ maxLen := by
  obtain ⟨A, n, c, l, h1, h2, h3, h4, h5, h6, _⟩ := open_list (fun x : List UInt8 => x.map B) (fun x => x.length = 32) Try.underlying32 (by kernel_rfl) (show 0 < 32 by omega) (fun fuel cs y _ h => trod_bytes Try.underlying28 Try.underlying5 (by kernel_rfl) (by kernel_rfl) h) hval h
  exact ⟨A, n, c, l, h1, h5, h2, h6, h3, h4⟩
end
end Go.Proofs.Ytofhohofaedokaa

/- Certificates in memory; arguments opened. Printed by a program. -/
namespace Go.Proofs.Ytofhohofaedokaa
open Go.RowKit Go.ChangeShapes Go.WideShapes
set_option linter.unusedVariables false
set_option maxRecDepth 100000
theorem cells_cert : Try.prog.cellsOf 36 = 137 := by kernel_rfl
theorem cells_sid : Try.prog.cellsOf 32 = 1 := by kernel_rfl
theorem row_cert : RowT Try.prog 36 137 := ⟨_, Try.underlying36, by kernel_rfl, by kernel_rfl⟩
section
variable {H : Type} {enc : TypeId × Value → H} {w : World} {r : Reach} {b0 base : Nat} {spare : Nat → Bool} {held : Bool}
theorem trod_hdr {fuel : Nat} {cs : List Value} {y : DataW H × List MemPlace} (hl0 : cs.length = 67) (hf : DataW.trod enc Try.prog w base spare held fuel 34 cs = some y) :
    ∃ x : Hdr, cs = hdrV x ∧ x.ok := by
  obtain ⟨xs, n, _, _, hl, hxs, hg⟩ := DataW.trod_struct Try.underlying34 hf
  replace hg := fun i f h => hg i f h
  have hxs5 : xs.length = 5 := hxs
  obtain ⟨y0, h0⟩ := got (hg 0 _ rfl) (by omega)
  obtain ⟨y1, h1⟩ := got (hg 1 _ rfl) (by omega)
  obtain ⟨y2, h2⟩ := got (hg 2 _ rfl) (by omega)
  obtain ⟨y3, h3⟩ := got (hg 3 _ rfl) (by omega)
  obtain ⟨y4, h4⟩ := got (hg 4 _ rfl) (by omega)
  replace h0 : DataW.trod enc Try.prog w base spare held n 3 ((cs.drop 0).take (Try.prog.cellsOf 3)) = some y0 := h0
  replace h1 : DataW.trod enc Try.prog w base spare held n 3 ((cs.drop 1).take (Try.prog.cellsOf 3)) = some y1 := h1
  replace h2 : DataW.trod enc Try.prog w base spare held n 3 ((cs.drop 2).take (Try.prog.cellsOf 3)) = some y2 := h2
  replace h3 : DataW.trod enc Try.prog w base spare held n 28 ((cs.drop 3).take (Try.prog.cellsOf 28)) = some y3 := h3
  replace h4 : DataW.trod enc Try.prog w base spare held n 28 ((cs.drop 35).take (Try.prog.cellsOf 28)) = some y4 := h4
  rw [cells_int] at h0
  rw [cells_int] at h1
  rw [cells_int] at h2
  rw [cells_id] at h3
  rw [cells_id] at h4
  obtain ⟨z0, e0, _, w0⟩ := DataW.trod_int Try.underlying3 h0
  obtain ⟨z1, e1, _, w1⟩ := DataW.trod_int Try.underlying3 h1
  obtain ⟨z2, e2, _, w2⟩ := DataW.trod_int Try.underlying3 h2
  obtain ⟨d3, e3, l3⟩ := trod_bytes Try.underlying28 Try.underlying5 cells_u8 cells_id h3
  obtain ⟨d4, e4, l4⟩ := trod_bytes Try.underlying28 Try.underlying5 cells_u8 cells_id h4
  refine ⟨⟨z0, z1, z2, d3, d4⟩, ?_, i64_of w0, i64_of w1, i64_of w2, l3, l4⟩
  have a5 : cs.drop 67 = [] := List.drop_of_length_le (by omega)
  have a4 := cut_eq e4 a5
  have a3 := cut_eq e3 a4
  have a2 := cut_eq e2 a3
  have a1 := cut_eq e1 a2
  have a0 := cut_eq e0 a1
  rw [List.drop_zero] at a0
  rw [a0]; simp [hdrV]
theorem trod_ent {fuel : Nat} {cs : List Value} {y : DataW H × List MemPlace} (hl0 : cs.length = 37) (hf : DataW.trod enc Try.prog w base spare held fuel 31 cs = some y) :
    ∃ x : Ent, cs = entV x ∧ x.ok := by
  obtain ⟨xs, n, _, _, hl, hxs, hg⟩ := DataW.trod_struct Try.underlying31 hf
  replace hg := fun i f h => hg i f h
  have hxs5 : xs.length = 6 := hxs
  obtain ⟨y0, h0⟩ := got (hg 0 _ rfl) (by omega)
  obtain ⟨y1, h1⟩ := got (hg 1 _ rfl) (by omega)
  obtain ⟨y2, h2⟩ := got (hg 2 _ rfl) (by omega)
  obtain ⟨y3, h3⟩ := got (hg 3 _ rfl) (by omega)
  obtain ⟨y4, h4⟩ := got (hg 4 _ rfl) (by omega)
  obtain ⟨y5, h5⟩ := got (hg 5 _ rfl) (by omega)
  replace h0 : DataW.trod enc Try.prog w base spare held n 3 ((cs.drop 0).take (Try.prog.cellsOf 3)) = some y0 := h0
  replace h1 : DataW.trod enc Try.prog w base spare held n 3 ((cs.drop 1).take (Try.prog.cellsOf 3)) = some y1 := h1
  replace h2 : DataW.trod enc Try.prog w base spare held n 28 ((cs.drop 2).take (Try.prog.cellsOf 28)) = some y2 := h2
  replace h3 : DataW.trod enc Try.prog w base spare held n 29 ((cs.drop 34).take (Try.prog.cellsOf 29)) = some y3 := h3
  replace h4 : DataW.trod enc Try.prog w base spare held n 3 ((cs.drop 35).take (Try.prog.cellsOf 3)) = some y4 := h4
  replace h5 : DataW.trod enc Try.prog w base spare held n 3 ((cs.drop 36).take (Try.prog.cellsOf 3)) = some y5 := h5
  rw [cells_int] at h0
  rw [cells_int] at h1
  rw [cells_id] at h2
  rw [cells_u64] at h3
  rw [cells_int] at h4
  rw [cells_int] at h5
  obtain ⟨z0, e0, _, w0⟩ := DataW.trod_int Try.underlying3 h0
  obtain ⟨z1, e1, _, w1⟩ := DataW.trod_int Try.underlying3 h1
  obtain ⟨d2, e2, l2⟩ := trod_bytes Try.underlying28 Try.underlying5 cells_u8 cells_id h2
  obtain ⟨z3, e3, _, w3⟩ := DataW.trod_int Try.underlying29 h3
  obtain ⟨z4, e4, _, w4⟩ := DataW.trod_int Try.underlying3 h4
  obtain ⟨z5, e5, _, w5⟩ := DataW.trod_int Try.underlying3 h5
  refine ⟨⟨z0, z1, d2, z3, z4, z5⟩, ?_, i64_of w0, i64_of w1, l2, u64_of w3, i64_of w4, i64_of w5⟩
  have a6 : cs.drop 37 = [] := List.drop_of_length_le (by omega)
  have a5 := cut_eq e5 a6
  have a4 := cut_eq e4 a5
  have a3 := cut_eq e3 a4
  have a2 := cut_eq e2 a3
  have a1 := cut_eq e1 a2
  have a0 := cut_eq e0 a1
  rw [List.drop_zero] at a0
  rw [a0]; simp [entV]
theorem open_cert {v : Value} {d : DataW H} {ps : List MemPlace} (hval : Value.okWide Try.prog w r b0 36 v) (h : DataW.Trod enc Try.prog w base spare held 36 v d ps) :
    ∃ A n c, ∃ x : Cer, v = .agg (certV (.slice A n c) x).toArray ∧ x.ok ∧ Ids w A n c x.path ∧ c ≤ maxLen := by
  obtain ⟨cs, rfl, hsz⟩ := okWide_struct Try.underlying36 hval
  obtain ⟨fuel, hf⟩ := h
  rw [cells_cert] at hsz
  have hls : cs.toList.length = 137 := by simpa using hsz
  obtain ⟨xs, n, _, _, hl, hxs, hg⟩ := DataW.trod_struct Try.underlying36 hf
  replace hg := fun i f h => hg i f h
  have hxs5 : xs.length = 4 := hxs
  obtain ⟨y0, h0⟩ := got (hg 0 _ rfl) (by omega)
  obtain ⟨y1, h1⟩ := got (hg 1 _ rfl) (by omega)
  obtain ⟨y2, h2⟩ := got (hg 2 _ rfl) (by omega)
  obtain ⟨y3, h3⟩ := got (hg 3 _ rfl) (by omega)
  replace h0 : DataW.trod enc Try.prog w base spare held n 31 ((cs.toList.drop 0).take (Try.prog.cellsOf 31)) = some y0 := h0
  replace h1 : DataW.trod enc Try.prog w base spare held n 32 ((cs.toList.drop 37).take (Try.prog.cellsOf 32)) = some y1 := h1
  replace h2 : DataW.trod enc Try.prog w base spare held n 34 ((cs.toList.drop 38).take (Try.prog.cellsOf 34)) = some y2 := h2
  replace h3 : DataW.trod enc Try.prog w base spare held n 28 ((cs.toList.drop 105).take (Try.prog.cellsOf 28)) = some y3 := h3
  rw [cells_entry] at h0
  rw [cells_sid] at h1
  rw [cells_header] at h2
  rw [cells_id] at h3
  obtain ⟨xe, e0, k0⟩ := trod_ent (by rw [List.length_take, List.length_drop]; omega) h0
  obtain ⟨A, m, c, l, e1, l1, m1, x1, s1, k1, _⟩ := open_list0 (fun x : List UInt8 => x.map B) (fun x => x.length = 32) Try.underlying32 cells_id (show 0 < 32 by omega) (fun fuel cs y _ h => trod_bytes Try.underlying28 Try.underlying5 cells_u8 cells_id h) h1
  obtain ⟨xh, e2, k2⟩ := trod_hdr (by rw [List.length_take, List.length_drop]; omega) h2
  obtain ⟨d3, e3, l3⟩ := trod_bytes Try.underlying28 Try.underlying5 cells_u8 cells_id h3
  refine ⟨A, m, c, ⟨xe, l, xh, d3⟩, ?_, ⟨k0, k1, k2, l3⟩, ⟨s1, l1, k1, m1⟩, x1⟩
  have : cs.toList = certV (.slice A m c) ⟨xe, l, xh, d3⟩ := by
    have a4 : cs.toList.drop 137 = [] := List.drop_of_length_le (by omega)
    have a3 := cut_eq e3 a4
    have a2 := cut_eq e2 a3
    have a1 := cut_eq e1 a2
    have a0 := cut_eq e0 a1
    rw [List.drop_zero] at a0
    rw [a0]; simp [certV]
  rw [show cs = cs.toList.toArray from rfl, this]
end
end Go.Proofs.Ytofhohofaedokaa

/- The contract of header.Put. Printed by mkhdrb.py. -/
namespace Go.Proofs.Ytofhohofaedokaa
open Go.RowKit Go.Shelf
set_option linter.unusedVariables false

def numsB (s h p : Nat) (k : Nat) : List UInt8 := if k = 0 then [] else if k = 1 then numB s else if k = 2 then numB s ++ numB h else numB s ++ numB h ++ numB p
set_option maxRecDepth 100000 in
set_option maxHeartbeats 2000000 in
theorem hput_any (x : Hdr) (w : World) (hx : x.ok) : Calls Try.prog 60 #[.agg (hdrV x).toArray] w fun e w' => ∃ A c, e = .returned (.tuple #[.slice A (hformB x).length c, .bool (rightH x)]) ∧ Sl w' w'.heap.size 1 A (hformB x).length ((hformB x).map B) ∧ (hformB x).length ≤ c ∧ Grow w w' := by
  have HR := Lib.hid (fun w => hright_any x w hx)
  have HXO := Lib.hid hx
  have HL := Lib.hid (hdrV_length hx)
  obtain ⟨r, hr⟩ : ∃ r, r = rightH x := ⟨_, rfl⟩
  have HRR := Lib.hid hr
  unfold hformB
  rw [← hr] at HR ⊢
  clear hr hx
  obtain ⟨cs, hcs⟩ : ∃ cs, cs = hdrV x := ⟨_, rfl⟩
  have HCS := Lib.hid hcs
  rw [← hcs] at HR HL ⊢
  clear hcs
  obtain ⟨gh, hgh⟩ : ∃ gh, gh = w.heap.size := ⟨_, rfl⟩
  have HG := Lib.hid hgh
  go_enter Try.func60, Try.ntmps60
  go_wp2_with (first | (with_reducible refine wpl_box (o := ⟨some 1, _, _, _, _, _⟩) rfl rfl rfl ?_))
  intro w1 hb1 hbw1 hsz1
  rw [← hgh] at hb1 hbw1 hsz1 ⊢
  have HH := Lib.hid hb1
  have HB := Lib.hid (show Grow w w1 by rw [hgh] at hbw1; exact hbw1)
  clear hb1 hbw1 hsz1 hgh
  go_wp2_with (first | (with_reducible refine wpl_loadb (o := ⟨some 7, _, _, _, _, _⟩) rfl rfl row_header HH.out rfl HL.out ?_))
  refine (HR.out _).mono ?_
  rintro e w_ ⟨rfl, hb_⟩
  have HH_ := Lib.hid (HH.out.call hb_)
  have HB_ := Lib.hid (HB.out.grow' hb_)
  clear hb_ HH HB
  have HH := HH_; have HB := HB_
  clear HH_ HB_
  try clear w1
  cases r with
  | false =>
    go_wp2_with fail
    go_ret2
    exact ⟨none, ⟨0, rfl⟩, Sl.nil, HB.out⟩
  | true =>
    obtain ⟨⟨hs1, hs2⟩, ⟨hh1, hh2⟩, hp1, hp2⟩ := rightH_iff.1 HRR.out.symm
    obtain ⟨_, _, _, hpl, hrl⟩ := HXO.out
    obtain ⟨xs, xh, xp, prev, root⟩ := x
    obtain ⟨ns, rfl⟩ := nat_of hs1
    obtain ⟨nh, rfl⟩ := nat_of (show 0 ≤ xh by simp only at hh1; omega)
    obtain ⟨np, rfl⟩ := nat_of hp1
    simp only at hs2 hh1 hh2 hp2 hpl hrl
    have hDP := Lib.hid (dig_map hpl)
    have hDR := Lib.hid (dig_map hrl)
    have us := conv_u64 (n := ns) (by omega); have uh := conv_u64 (n := nh) (by omega); have up := conv_u64 (n := np) (by omega)
    have ls := numB_le (n := ns) (by omega); have lh := numB_le (n := nh) (by omega); have lp := numB_le (n := np) (by omega)
    have HFE := Lib.hid (show putHB ⟨(ns : Int), (nh : Int), (np : Int), prev, root⟩ = numB ns ++ numB nh ++ numB np ++ prev ++ root by unfold putHB; simp only [Int.toNat_natCast])
    go_wp2_with (first | (with_reducible refine wpl_alloc (o := ⟨some 4, _, _, _, _, _⟩) rfl rfl zero_pen ?_))
    intro w3 hb3 hbw3 hsz3
    obtain ⟨g, hg⟩ : ∃ g, g = w_.heap.size := ⟨_, rfl⟩
    rw [← hg] at hb3 hsz3 hbw3 ⊢
    have HHB := Lib.hid (HH.out.below hbw3 (by have := HH.out.lt; omega))
    have HB3 := Lib.hid (show Grow w w3 from HB.out.grow' (by rw [hg] at hbw3; exact hbw3))
    have hghlt := HH.out.lt
    have hwlt := HB.out.size
    rw [HCS.out] at HHB
    clear HH HB HR HRR HL HCS
    have HPB := Lib.hid hb3
    have c0 := HHB.out.at_ (hdr_at HXO.out).1
    have c1 := HHB.out.at_ (hdr_at HXO.out).2.1
    have c2 := HHB.out.at_ (hdr_at HXO.out).2.2
    clear hb3 hbw3
    go_wp2_with fail
    generalize hw4 : World.alloc w3 _ = w4
    obtain ⟨hX, hb, hs⟩ := alloc_eq hw4
    have hgr2 : w_.heap.size + 1 = w3.heap.size := by omega
    rw [hgr2]
    obtain ⟨gr, hgr⟩ : ∃ gr, gr = w3.heap.size := ⟨_, rfl⟩
    rw [← hg, ← hgr]
    rw [← hgr] at hX hs
    clear hgr2
    obtain ⟨K, hK⟩ : ∃ K : Nat → Prop, K = fun k => k < g ∨ k = gr := ⟨_, rfl⟩
    have hKI : ∀ k, K k ↔ (k < g ∨ k = gr) := fun k => by rw [hK]
    have HP := Lib.hid (PenAt.new (K := K) (HPB.out.grow hb) (fun k hk => by have := (hKI k).1 hk; omega))
    have HKH := Lib.hid (show K gh from (hKI gh).2 (.inl (by omega)))
    have HKG := Lib.hid (show K gr from (hKI gr).2 (.inr rfl))
    have HKW := Lib.hid (show ∀ k, k < w.heap.size → K k from fun k hk => (hKI k).2 (.inl (by omega)))
    have HB4 := Lib.hid (show Grow w w4 from HB3.out.grow' hb)
    have HH4 := Lib.hid (HHB.out.grow hb)
    have HRW := Lib.hid (show Blk w4 gr 3 [.int .i64 (ns : Int), .int .i64 (nh : Int), .int .i64 (np : Int)] from hX)
    clear hX hb hs hw4 hgr hK hKI HPB HHB HB3 c0 c1 c2 hghlt hwlt hsz3 hg
    go_loopw [18] (fun iv wr => ∃ k : Nat, k ≤ 3 ∧ iv = .int .i64 k ∧ Hid (PenAt wr K g (numsB ns nh np k)) ∧ Hid (Kept K w4 wr)) (fun iv _ => 3 - (intOf iv).toNat)
    case atStart => exact ⟨0, by omega, rfl, HP, Kept.refl _ _⟩
    case round =>
      obtain ⟨k, hk, rfl, hp, hkk⟩ := hrel
      have HRW2 := Lib.hid (hkk.out.blk HRW.out HKG.out)
      obtain rfl | rfl | rfl | rfl : k = 0 ∨ k = 1 ∨ k = 2 ∨ k = 3 := by omega
      · have cr := HRW2.out.at_ (i := 0) rfl
        go_wp2_with fail
        refine (num_any g ns K ([]) _ hp.out (by simp) (by omega)).mono ?_
        rintro e w5 ⟨rfl, hp5, hk5⟩
        have HP5 := Lib.hid (show PenAt w5 K g (numsB ns nh np 1) from hp5)
        have HK5 := Lib.hid (hkk.out.trans hk5)
        clear hp5 hk5 cr
        go_wp2_with fail
        go_roundw
        case rel => exact ⟨1, by omega, rfl, HP5, HK5⟩
        case measure => simp [intOf]
      · have cr := HRW2.out.at_ (i := 1) rfl
        go_wp2_with fail
        refine (num_any g nh K (numB ns) _ hp.out (by omega) (by omega)).mono ?_
        rintro e w5 ⟨rfl, hp5, hk5⟩
        have HP5 := Lib.hid (show PenAt w5 K g (numsB ns nh np 2) from hp5)
        have HK5 := Lib.hid (hkk.out.trans hk5)
        clear hp5 hk5 cr
        go_wp2_with fail
        go_roundw
        case rel => exact ⟨2, by omega, rfl, HP5, HK5⟩
        case measure => simp [intOf]
      · have cr := HRW2.out.at_ (i := 2) rfl
        go_wp2_with fail
        refine (num_any g np K (numB ns ++ numB nh) _ hp.out (by simp only [List.length_append]; omega) (by omega)).mono ?_
        rintro e w5 ⟨rfl, hp5, hk5⟩
        have HP5 := Lib.hid (show PenAt w5 K g (numsB ns nh np 3) from hp5)
        have HK5 := Lib.hid (hkk.out.trans hk5)
        clear hp5 hk5 cr
        go_wp2_with fail
        go_roundw
        case rel => exact ⟨3, by omega, rfl, HP5, HK5⟩
        case measure => simp [intOf]
      · have HP := Lib.hid (show PenAt wr K g (numB ns ++ numB nh ++ numB np) from hp.out)
        have HKK := hkk
        have HH := Lib.hid (hkk.out.blk HH4.out HKH.out)
        clear HRW2 hp hkk HRW HH4
        obtain ⟨w_, hw_⟩ : ∃ w_ : World, w_ = wr := ⟨_, rfl⟩
        subst hw_
        have hm_ := midP HXO.out HH.out
        go_wp2_with (first | (with_reducible refine wpl_loadm (o := ⟨some 27, _, _, _, _, _⟩) rfl rfl row_aid hm_ rfl (by rw [List.length_map]; exact hpl) ?_))
        refine (pid_any g K (numB ns ++ numB nh ++ numB np) hDP.out _ HP.out (by simp only [List.length_append]; omega)).mono ?_
        rintro e w2_ ⟨rfl, hp_, hk_⟩
        have HH_ := Lib.hid (hk_.blk HH.out HKH.out)
        have HKK_ := Lib.hid (HKK.out.trans hk_)
        have HP_ := Lib.hid hp_
        clear hp_ hk_ HH HKK HP
        have HH := HH_
        have HKK := HKK_
        have HP := HP_
        clear HH_ HKK_ HP_
        try clear w_
        rename World => w_
        try clear hm_
        have hm_ := midR HXO.out HH.out
        go_wp2_with (first | (with_reducible refine wpl_loadm (o := ⟨some 30, _, _, _, _, _⟩) rfl rfl row_aid hm_ rfl (by rw [List.length_map]; exact hrl) ?_))
        refine (pid_any g K (numB ns ++ numB nh ++ numB np ++ prev) hDR.out _ HP.out (by simp only [List.length_append]; omega)).mono ?_
        rintro e w2_ ⟨rfl, hp_, hk_⟩
        have HH_ := Lib.hid (hk_.blk HH.out HKH.out)
        have HKK_ := Lib.hid (HKK.out.trans hk_)
        have HP_ := Lib.hid hp_
        clear hp_ hk_ HH HKK HP
        have HH := HH_
        have HKK := HKK_
        have HP := HP_
        clear HH_ HKK_ HP_
        try clear w_
        rename World => w_
        try clear hm_
        go_wp2_with fail
        refine (pbytes_any g K (numB ns ++ numB nh ++ numB np ++ prev ++ root) _ HP.out (by simp only [List.length_append]; omega)).mono ?_
        rintro e w6 ⟨A', c', rfl, ho, hc, hg5⟩
        have HO := Lib.hid (Sl.of_own ho)
        have HC := Lib.hid hc
        have HB6 := Lib.hid (show Grow w w6 from (Below.trans (B := w.heap.size) HB4.out (HKK.out.below HKW.out)).grow' hg5)
        clear ho hc hg5
        go_wp2_with fail
        go_ret2
        rw [HFE.out]
        exact ⟨A', c', by simp [List.length_append, hpl, hrl], HO.out, HC.out, HB6.out⟩
end Go.Proofs.Ytofhohofaedokaa

/- Contracts of header.Id, and of the document's Right of headers and entries. Printed by mkhdrc.py. -/
namespace Go.Proofs.Ytofhohofaedokaa
open Go.RowKit Go.Shelf
set_option linter.unusedVariables false

theorem built_id0 : Try.prog.built 28 [] = some (zeroD.map B).toArray := by kernel_rfl
set_option maxRecDepth 100000 in
set_option maxHeartbeats 1000000 in
theorem rhright_any (x : Hdr) (w : World) (hx : x.ok) : Calls Try.prog 32 #[.agg (hdrV x).toArray] w fun e w' => e = .returned (.bool (rightH x)) ∧ Below w.heap.size w w' := by
  obtain ⟨res, hres⟩ : ∃ res, res = rightH x := ⟨_, rfl⟩
  rw [← hres]
  unfold rightH inB at hres
  have HA := Lib.hid (hdr_at hx)
  obtain ⟨cs, hcs⟩ : ∃ cs, cs = hdrV x := ⟨_, rfl⟩
  rw [← hcs] at HA ⊢
  clear hcs hx
  obtain ⟨k0, hk0⟩ : ∃ k, k = x.shard := ⟨_, rfl⟩
  obtain ⟨k1, hk1⟩ : ∃ k, k = x.height := ⟨_, rfl⟩
  obtain ⟨k2, hk2⟩ : ∃ k, k = x.epoch := ⟨_, rfl⟩
  rw [← hk0, ← hk1, ← hk2] at HA hres
  clear hk0 hk1 hk2
  obtain ⟨b0, hb0⟩ : ∃ b, decide (0 ≤ k0) = b := ⟨_, rfl⟩
  obtain ⟨b1, hb1⟩ : ∃ b, decide (k0 ≤ 63) = b := ⟨_, rfl⟩
  obtain ⟨b2, hb2⟩ : ∃ b, decide (1 ≤ k1) = b := ⟨_, rfl⟩
  obtain ⟨b3, hb3⟩ : ∃ b, decide (k1 ≤ 1099511627776) = b := ⟨_, rfl⟩
  obtain ⟨b4, hb4⟩ : ∃ b, decide (0 ≤ k2) = b := ⟨_, rfl⟩
  obtain ⟨b5, hb5⟩ : ∃ b, decide (k2 ≤ 1099511627776) = b := ⟨_, rfl⟩
  rw [hb0, hb1, hb2, hb3, hb4, hb5] at hres
  have HRES := Lib.hid hres
  clear hres
  obtain ⟨g, hg⟩ : ∃ g, g = w.heap.size := ⟨_, rfl⟩
  have HG := Lib.hid hg
  go_enter Try.func32, Try.ntmps32
  go_wp2_with (first | (with_reducible refine wpl_box (o := ⟨some 1, _, _, _, _, _⟩) rfl rfl rfl ?_))
  intro w1 hb1 hbw1 hsz1
  rw [← hg] at hb1 hbw1 hsz1 ⊢
  have HB := Lib.hid (show Grow w w1 by rw [hg] at hbw1; exact hbw1)
  have c0 := hb1.at_ HA.out.1
  have c1 := hb1.at_ HA.out.2.1
  have c2 := hb1.at_ HA.out.2.2
  clear hb1 hbw1 hsz1 hg
  cases b0
  · go_wp2_with fail
    go_ret
    exact ⟨ret_bool (by rw [HRES.out]; simp), HB.out⟩
  cases b1
  · go_wp2_with fail
    go_ret
    exact ⟨ret_bool (by rw [HRES.out]; simp), HB.out⟩
  cases b2
  · go_wp2_with fail
    go_ret
    exact ⟨ret_bool (by rw [HRES.out]; simp), HB.out⟩
  cases b3
  · go_wp2_with fail
    go_ret
    exact ⟨ret_bool (by rw [HRES.out]; simp), HB.out⟩
  cases b4
  · go_wp2_with fail
    go_ret
    exact ⟨ret_bool (by rw [HRES.out]; simp), HB.out⟩
  cases b5
  · go_wp2_with fail
    go_ret
    exact ⟨ret_bool (by rw [HRES.out]; simp), HB.out⟩
  go_wp2_with fail
  go_ret
  exact ⟨ret_bool (by rw [HRES.out]; rfl), HB.out⟩
set_option maxRecDepth 100000 in
set_option maxHeartbeats 1000000 in
theorem reright_any (x : Ent) (w : World) (hx : x.ok) : Calls Try.prog 31 #[.agg (entV x).toArray] w fun e w' => e = .returned (.bool (rightE x)) ∧ Below w.heap.size w w' := by
  obtain ⟨res, hres⟩ : ∃ res, res = rightE x := ⟨_, rfl⟩
  rw [← hres]
  unfold rightE inB at hres
  have HA := Lib.hid (ent_at hx)
  obtain ⟨cs, hcs⟩ : ∃ cs, cs = entV x := ⟨_, rfl⟩
  rw [← hcs] at HA ⊢
  clear hcs hx
  obtain ⟨k0, hk0⟩ : ∃ k, k = x.kind := ⟨_, rfl⟩
  obtain ⟨k1, hk1⟩ : ∃ k, k = x.shard := ⟨_, rfl⟩
  obtain ⟨k2, hk2⟩ : ∃ k, k = x.amount := ⟨_, rfl⟩
  obtain ⟨k3, hk3⟩ : ∃ k, k = x.why := ⟨_, rfl⟩
  obtain ⟨k4, hk4⟩ : ∃ k, k = x.epoch := ⟨_, rfl⟩
  rw [← hk0, ← hk1, ← hk2, ← hk3, ← hk4] at HA hres
  clear hk0 hk1 hk2 hk3 hk4
  obtain ⟨b0, hb0⟩ : ∃ b, decide (1 ≤ k0) = b := ⟨_, rfl⟩
  obtain ⟨b1, hb1⟩ : ∃ b, decide (k0 ≤ 3) = b := ⟨_, rfl⟩
  obtain ⟨b2, hb2⟩ : ∃ b, decide (0 ≤ k1) = b := ⟨_, rfl⟩
  obtain ⟨b3, hb3⟩ : ∃ b, decide (k1 ≤ 63) = b := ⟨_, rfl⟩
  obtain ⟨b4, hb4⟩ : ∃ b, decide (k2 ≤ 4611686018427387904) = b := ⟨_, rfl⟩
  obtain ⟨b5, hb5⟩ : ∃ b, decide (0 ≤ k3) = b := ⟨_, rfl⟩
  obtain ⟨b6, hb6⟩ : ∃ b, decide (k3 ≤ 63) = b := ⟨_, rfl⟩
  obtain ⟨b7, hb7⟩ : ∃ b, decide (0 ≤ k4) = b := ⟨_, rfl⟩
  obtain ⟨b8, hb8⟩ : ∃ b, decide (k4 ≤ 1099511627776) = b := ⟨_, rfl⟩
  rw [hb0, hb1, hb2, hb3, hb4, hb5, hb6, hb7, hb8] at hres
  have HRES := Lib.hid hres
  clear hres
  obtain ⟨g, hg⟩ : ∃ g, g = w.heap.size := ⟨_, rfl⟩
  have HG := Lib.hid hg
  go_enter Try.func31, Try.ntmps31
  go_wp2_with (first | (with_reducible refine wpl_box (o := ⟨some 1, _, _, _, _, _⟩) rfl rfl rfl ?_))
  intro w1 hb1 hbw1 hsz1
  rw [← hg] at hb1 hbw1 hsz1 ⊢
  have HB := Lib.hid (show Grow w w1 by rw [hg] at hbw1; exact hbw1)
  have c0 := hb1.at_ HA.out.1
  have c1 := hb1.at_ HA.out.2.1
  have c2 := hb1.at_ HA.out.2.2.1
  have c3 := hb1.at_ HA.out.2.2.2.1
  have c4 := hb1.at_ HA.out.2.2.2.2
  clear hb1 hbw1 hsz1 hg
  cases b0
  · go_wp2_with fail
    go_ret
    exact ⟨ret_bool (by rw [HRES.out]; simp), HB.out⟩
  cases b1
  · go_wp2_with fail
    go_ret
    exact ⟨ret_bool (by rw [HRES.out]; simp), HB.out⟩
  cases b2
  · go_wp2_with fail
    go_ret
    exact ⟨ret_bool (by rw [HRES.out]; simp), HB.out⟩
  cases b3
  · go_wp2_with fail
    go_ret
    exact ⟨ret_bool (by rw [HRES.out]; simp), HB.out⟩
  cases b4
  · go_wp2_with fail
    go_ret
    exact ⟨ret_bool (by rw [HRES.out]; simp), HB.out⟩
  cases b5
  · go_wp2_with fail
    go_ret
    exact ⟨ret_bool (by rw [HRES.out]; simp), HB.out⟩
  cases b6
  · go_wp2_with fail
    go_ret
    exact ⟨ret_bool (by rw [HRES.out]; simp), HB.out⟩
  cases b7
  · go_wp2_with fail
    go_ret
    exact ⟨ret_bool (by rw [HRES.out]; simp), HB.out⟩
  cases b8
  · go_wp2_with fail
    go_ret
    exact ⟨ret_bool (by rw [HRES.out]; simp), HB.out⟩
  go_wp2_with fail
  go_ret
  exact ⟨ret_bool (by rw [HRES.out]; rfl), HB.out⟩
end Go.Proofs.Ytofhohofaedokaa

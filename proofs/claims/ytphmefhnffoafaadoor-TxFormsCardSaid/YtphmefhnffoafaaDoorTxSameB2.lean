/- Transactions in memory; arguments opened. -/
import Derived.Test.YtphmefhnffoafaaDoorHeaderFollowsB7
import Derived.Test.YtphmefhnffoafaaDoorTxSameB1
import Derived.Test.YtphmefhnffoafaaDoorHeaderFollowsB1
import Derived.Test.YtphmefhnffoafaaDoorHeaderFollowsB8
import Derived.Laws.Cover3
set_option linter.unusedSimpArgs false
/- Transactions in memory; arguments opened. -/
namespace Go.Proofs.YtphmefhnffoafaaDoor
open Go.RowKit Go.ChangeShapes Go.WideShapes
set_option linter.unusedVariables false
set_option maxRecDepth 100000

def inV (v : Value) (i : Inp) : List Value := i.tx.map B ++ [.int .i64 i.index, .int .u64 i.amount, v]
def outV (o : Outp) : List Value := o.owner.map B ++ [.int .u64 o.amount]
theorem inV_len {v : Value} {i : Inp} (h : i.ok) : (inV v i).length = 35 := by simp [inV, h.1]
theorem outV_len {o : Outp} (h : o.ok) : (outV o).length = 33 := by simp [outV, h.1]
theorem in_at {v : Value} {i : Inp} (h : i.ok) : (inV v i)[32]? = some (.int .i64 i.index) ∧ (inV v i)[33]? = some (.int .u64 i.amount) ∧ (inV v i)[34]? = some v := by
  have e0 : (i.tx.map B).length = 32 := by rw [List.length_map, h.1]
  refine ⟨?_, ?_, ?_⟩
  all_goals
    unfold inV
    rw [List.getElem?_append_right (by omega), e0]
    rfl
theorem out_at {o : Outp} (h : o.ok) : (outV o)[32]? = some (.int .u64 o.amount) := by
  have e0 : (o.owner.map B).length = 32 := by rw [List.length_map, h.1]
  unfold outV
  rw [List.getElem?_append_right (by omega), e0]; rfl
theorem cells_point : Tryd.prog.cellsOf 103 = 33 := by kernel_rfl
theorem cells_tin : Tryd.prog.cellsOf 105 = 35 := by kernel_rfl
theorem cells_tout : Tryd.prog.cellsOf 107 = 33 := by kernel_rfl
theorem cells_tx : Tryd.prog.cellsOf 50 = 4 := by kernel_rfl
theorem cells_su8 : Tryd.prog.cellsOf 26 = 1 := by kernel_rfl
theorem cells_stin : Tryd.prog.cellsOf 47 = 1 := by kernel_rfl
theorem cells_stout : Tryd.prog.cellsOf 48 = 1 := by kernel_rfl
theorem row_point : RowT Tryd.prog 103 33 := ⟨_, Tryd.underlying103, by kernel_rfl, by kernel_rfl⟩
theorem row_tin : RowT Tryd.prog 105 35 := ⟨_, Tryd.underlying105, by kernel_rfl, by kernel_rfl⟩
theorem row_tout : RowT Tryd.prog 107 33 := ⟨_, Tryd.underlying107, by kernel_rfl, by kernel_rfl⟩
theorem row_tx : RowT Tryd.prog 50 4 := ⟨_, Tryd.underlying50, by kernel_rfl, by kernel_rfl⟩
def InOK (w : World) (Bd : Nat) (p : Value × Inp) : Prop := (∃ A c, p.1 = .slice A p.2.secret.length c ∧ p.2.secret.length ≤ c ∧ Sl w Bd 1 A p.2.secret.length (p.2.secret.map B)) ∧ p.2.ok
def InsAt (w : World) (A : Option Addr) (n c : Nat) (l : List (Value × Inp)) : Prop := Sl w w.heap.size 35 A n (l.flatMap fun p => inV p.1 p.2) ∧ (∀ p ∈ l, InOK w w.heap.size p) ∧ l.length = n ∧ n ≤ c
def OutsAt (w : World) (A : Option Addr) (n c : Nat) (os : List Outp) : Prop := Sl w w.heap.size 33 A n (os.flatMap outV) ∧ (∀ o ∈ os, o.ok) ∧ os.length = n ∧ n ≤ c
theorem InsAt.grow {w w2 : World} {A : Option Addr} {n c : Nat} {l : List (Value × Inp)} (h : InsAt w A n c l) (k : Grow w w2) : InsAt w2 A n c l :=
  ⟨(h.1.below k).more k.size, fun p hp => by
    obtain ⟨⟨A', c', e, hc, hs⟩, ho⟩ := h.2.1 p hp
    exact ⟨⟨A', c', e, hc, (hs.below k).more k.size⟩, ho⟩, h.2.2⟩
theorem OutsAt.grow {w w2 : World} {A : Option Addr} {n c : Nat} {l : List Outp} (h : OutsAt w A n c l) (k : Grow w w2) : OutsAt w2 A n c l := ⟨(h.1.below k).more k.size, h.2⟩

section
variable {H : Type} {enc : TypeId × Value → H} {w : World} {r : Reach} {b0 base : Nat} {spare : Nat → Bool} {held : Bool}
theorem trod_point {fuel : Nat} {cs : List Value} {y : DataW H × List MemPlace} (hl0 : cs.length = 33) (hf : DataW.trod enc Tryd.prog w base spare held fuel 103 cs = some y) :
    ∃ (d : List UInt8) (z : Int), cs = d.map B ++ [.int .i64 z] ∧ d.length = 32 ∧ I64 z := by
  obtain ⟨xs, n, _, _, hl, hxs, hg⟩ := DataW.trod_struct Tryd.underlying103 hf
  replace hg := fun i f h => hg i f h
  have hxs5 : xs.length = 2 := hxs
  obtain ⟨y0, h0⟩ := got (hg 0 _ rfl) (by omega)
  obtain ⟨y1, h1⟩ := got (hg 1 _ rfl) (by omega)
  replace h0 : DataW.trod enc Tryd.prog w base spare held n 23 ((cs.drop 0).take (Tryd.prog.cellsOf 23)) = some y0 := h0
  replace h1 : DataW.trod enc Tryd.prog w base spare held n 3 ((cs.drop 32).take (Tryd.prog.cellsOf 3)) = some y1 := h1
  rw [cells_id] at h0
  rw [cells_int] at h1
  obtain ⟨d0, e0, l0⟩ := trod_bytes Tryd.underlying23 Tryd.underlying5 cells_u8 cells_id h0
  obtain ⟨z1, e1, _, w1⟩ := DataW.trod_int Tryd.underlying3 h1
  refine ⟨d0, z1, ?_, l0, i64_of w1⟩
  have a2 : cs.drop 33 = [] := List.drop_of_length_le (by omega)
  have a1 := cut_eq e1 a2
  have a0 := cut_eq e0 a1
  rw [List.drop_zero] at a0
  rw [a0]; simp
theorem trod_in {fuel : Nat} {cs : List Value} {y : DataW H × List MemPlace} (hl0 : cs.length = 35) (hf : DataW.trod enc Tryd.prog w base spare held fuel 105 cs = some y) :
    ∃ p : Value × Inp, cs = inV p.1 p.2 ∧ InOK w w.heap.size p := by
  obtain ⟨xs, n, _, _, hl, hxs, hg⟩ := DataW.trod_struct Tryd.underlying105 hf
  replace hg := fun i f h => hg i f h
  have hxs5 : xs.length = 3 := hxs
  obtain ⟨y0, h0⟩ := got (hg 0 _ rfl) (by omega)
  obtain ⟨y1, h1⟩ := got (hg 1 _ rfl) (by omega)
  obtain ⟨y2, h2⟩ := got (hg 2 _ rfl) (by omega)
  replace h0 : DataW.trod enc Tryd.prog w base spare held n 103 ((cs.drop 0).take (Tryd.prog.cellsOf 103)) = some y0 := h0
  replace h1 : DataW.trod enc Tryd.prog w base spare held n 27 ((cs.drop 33).take (Tryd.prog.cellsOf 27)) = some y1 := h1
  replace h2 : DataW.trod enc Tryd.prog w base spare held n 26 ((cs.drop 34).take (Tryd.prog.cellsOf 26)) = some y2 := h2
  rw [cells_point] at h0
  rw [cells_u64] at h1
  rw [cells_su8] at h2
  obtain ⟨d, z, e0, l0, hz⟩ := trod_point (by rw [List.length_take, List.length_drop]; omega) h0
  obtain ⟨z1, e1, _, w1⟩ := DataW.trod_int Tryd.underlying27 h1
  obtain ⟨A', n', c', bs, e2, hs, hn, _, hbl⟩ := open_u8s0 Tryd.underlying26 Tryd.underlying5 (by kernel_rfl) h2
  refine ⟨(.slice A' n' c', ⟨d, z, z1, bs⟩), ?_, ⟨A', c', by rw [hbl], by rw [hbl]; exact hn, by rw [hbl]; exact hs⟩, l0, hz, u64_of w1⟩
  have a3 : cs.drop 35 = [] := List.drop_of_length_le (by omega)
  have a2 := cut_eq e2 a3
  have a1 := cut_eq e1 a2
  have a0 := cut_eq e0 a1
  rw [List.drop_zero] at a0
  rw [a0]; simp [inV]
theorem trod_out {fuel : Nat} {cs : List Value} {y : DataW H × List MemPlace} (hl0 : cs.length = 33) (hf : DataW.trod enc Tryd.prog w base spare held fuel 107 cs = some y) :
    ∃ o : Outp, cs = outV o ∧ o.ok := by
  obtain ⟨xs, n, _, _, hl, hxs, hg⟩ := DataW.trod_struct Tryd.underlying107 hf
  replace hg := fun i f h => hg i f h
  have hxs5 : xs.length = 2 := hxs
  obtain ⟨y0, h0⟩ := got (hg 0 _ rfl) (by omega)
  obtain ⟨y1, h1⟩ := got (hg 1 _ rfl) (by omega)
  replace h0 : DataW.trod enc Tryd.prog w base spare held n 23 ((cs.drop 0).take (Tryd.prog.cellsOf 23)) = some y0 := h0
  replace h1 : DataW.trod enc Tryd.prog w base spare held n 27 ((cs.drop 32).take (Tryd.prog.cellsOf 27)) = some y1 := h1
  rw [cells_id] at h0
  rw [cells_u64] at h1
  obtain ⟨d0, e0, l0⟩ := trod_bytes Tryd.underlying23 Tryd.underlying5 cells_u8 cells_id h0
  obtain ⟨z1, e1, _, w1⟩ := DataW.trod_int Tryd.underlying27 h1
  refine ⟨⟨d0, z1⟩, ?_, l0, u64_of w1⟩
  have a2 : cs.drop 33 = [] := List.drop_of_length_le (by omega)
  have a1 := cut_eq e1 a2
  have a0 := cut_eq e0 a1
  rw [List.drop_zero] at a0
  rw [a0]; simp [outV]
instance : Inhabited Inp := ⟨⟨[], 0, 0, []⟩⟩
instance : Inhabited Outp := ⟨⟨[], 0⟩⟩
theorem open_tx {v : Value} {d : DataW H} {ps : List MemPlace} (hval : Value.okWide Tryd.prog w r b0 50 v) (h : DataW.Trod enc Tryd.prog w base spare held 50 v d ps) :
    ∃ A n c A2 n2 c2, ∃ l : List (Value × Inp), ∃ os : List Outp, ∃ fee ex : Int, v = .agg #[.slice A n c, .slice A2 n2 c2, .int .u64 fee, .int .i64 ex] ∧ InsAt w A n c l ∧ OutsAt w A2 n2 c2 os ∧ U64 fee ∧ I64 ex ∧ c ≤ maxLen ∧ c2 ≤ maxLen := by
  obtain ⟨cs, rfl, hsz⟩ := okWide_struct Tryd.underlying50 hval
  obtain ⟨fuel, hf⟩ := h
  rw [cells_tx] at hsz
  obtain ⟨xs, n, _, _, hl, hxs, hg⟩ := DataW.trod_struct Tryd.underlying50 hf
  replace hg := fun i f h => hg i f h
  have hxs5 : xs.length = 4 := hxs
  obtain ⟨y0, h0⟩ := got (hg 0 _ rfl) (by omega)
  obtain ⟨y1, h1⟩ := got (hg 1 _ rfl) (by omega)
  obtain ⟨y2, h2⟩ := got (hg 2 _ rfl) (by omega)
  obtain ⟨y3, h3⟩ := got (hg 3 _ rfl) (by omega)
  replace h0 : DataW.trod enc Tryd.prog w base spare held n 47 ((cs.toList.drop 0).take (Tryd.prog.cellsOf 47)) = some y0 := h0
  replace h1 : DataW.trod enc Tryd.prog w base spare held n 48 ((cs.toList.drop 1).take (Tryd.prog.cellsOf 48)) = some y1 := h1
  replace h2 : DataW.trod enc Tryd.prog w base spare held n 27 ((cs.toList.drop 2).take (Tryd.prog.cellsOf 27)) = some y2 := h2
  replace h3 : DataW.trod enc Tryd.prog w base spare held n 3 ((cs.toList.drop 3).take (Tryd.prog.cellsOf 3)) = some y3 := h3
  rw [cells_stin] at h0
  rw [cells_stout] at h1
  rw [cells_u64] at h2
  rw [cells_int] at h3
  obtain ⟨A, m, c, l, e0, l0, m0, x0, s0, k0, _⟩ := open_list0 (fun p : Value × Inp => inV p.1 p.2) (fun p => InOK w w.heap.size p) Tryd.underlying47 cells_tin (show 0 < 35 by omega) (fun fuel cs y hl ht => trod_in hl ht) h0
  obtain ⟨A2, m2, c2, os, e1, l1, m1, x1, s1, k1, _⟩ := open_list0 outV Outp.ok Tryd.underlying48 cells_tout (show 0 < 33 by omega) (fun fuel cs y hl ht => trod_out hl ht) h1
  obtain ⟨z2, e2, _, w2⟩ := DataW.trod_int Tryd.underlying27 h2
  obtain ⟨z3, e3, _, w3⟩ := DataW.trod_int Tryd.underlying3 h3
  refine ⟨A, m, c, A2, m2, c2, l, os, z2, z3, ?_, ⟨s0, k0, l0, m0⟩, ⟨s1, k1, l1, m1⟩, u64_of w2, i64_of w3, x0, x1⟩
  have hls : cs.toList.length = 4 := by simpa using hsz
  have : cs.toList = [.slice A m c, .slice A2 m2 c2, .int .u64 z2, .int .i64 z3] := by
    have a4 : cs.toList.drop 4 = [] := List.drop_of_length_le (by omega)
    have a3 := cut_eq e3 a4
    have a2 := cut_eq e2 a3
    have a1 := cut_eq e1 a2
    have a0 := cut_eq e0 a1
    rw [List.drop_zero] at a0
    rw [a0]; simp
  rw [show cs = cs.toList.toArray from rfl, this]
end
end Go.Proofs.YtphmefhnffoafaaDoor

/- The walk's halt at one operation: what follows is done by hand. No program in sight. -/
namespace Go.Proofs.YtphmefhnffoafaaDoor
open Go.RowKit
set_option linter.unusedVariables false
def StopT (p : Prop) : Prop := p
theorem wpl_stop {P : Program} {ops : Array Oper} {rest : List Oper} {o : Oper} {a : Act} {w : World} {Q : Exit → Act → World → Prop} (h : StopT (wpList P ops Q (o :: rest) a w)) : wpList P ops Q (o :: rest) a w := h
theorem stop_go {p : Prop} (h : p) : StopT p := h
end Go.Proofs.YtphmefhnffoafaaDoor

/- Contracts of field.Eye: Fail, Left, take, Num, Text, Id. -/
namespace Go.Proofs.YtphmefhnffoafaaDoor
open Go.RowKit Go.Shelf
set_option linter.unusedVariables false

def brk (x : Nat) : List PanicEntry := [{ v := .iface 166 (.agg #[.int .i64 (x : Int)]), recovered := false }]
/-- The eye in block g has l ahead of it; its blocks lie in [Lo, Bd). -/
def EyeAt (w : World) (Lo Bd g : Nat) (l : List UInt8) : Prop :=
  ∃ A c, Blk w g 168 [.slice A l.length c] ∧ Sl w Bd 1 A l.length (l.map B) ∧ l.length ≤ c ∧ Lo ≤ g ∧ g < Bd ∧ Bd ≤ w.heap.size ∧ (∀ b, A.map Addr.block = some b → Lo ≤ b ∧ b ≠ g)
def RdAt (w : World) (Lo Bd g : Nat) (A : Option Addr) (bs : List UInt8) : Prop := Sl w Bd 1 A bs.length (bs.map B) ∧ Bd ≤ w.heap.size ∧ (∀ b, A.map Addr.block = some b → Lo ≤ b ∧ b ≠ g)
section
variable {w w' : World} {Lo Bd g : Nat} {l : List UInt8}
theorem EyeAt.keep (h : EyeAt w Lo Bd g l) (hk : ∀ k, Lo ≤ k → k < Bd → w'.heap[k]? = w.heap[k]?) (hs : w.heap.size ≤ w'.heap.size) : EyeAt w' Lo Bd g l := by
  obtain ⟨A, c, h1, h2, h3, h4, h5, h6, h7⟩ := h
  refine ⟨A, c, (hk g h4 h5).trans h1, ⟨h2.1, fun hn => ?_⟩, h3, h4, h5, by omega, h7⟩
  obtain ⟨b, off, e, hb, hc⟩ := h2.2 hn
  refine ⟨b, off, e, hb, fun j u hu => ?_⟩
  exact (World.cell?_of_block (a := ⟨b, off + j, none⟩) (hk b (h7 b (by rw [e]; rfl)).1 hb)).trans (hc j u hu)
theorem EyeAt.grow (h : EyeAt w Lo Bd g l) (k : Grow w w') : EyeAt w' Lo Bd g l :=
  h.keep (fun i _ hi => k.block i (by obtain ⟨_, _, _, _, _, _, _, h6, _⟩ := h; omega)) k.size
theorem EyeAt.off {q : Nat} (h : EyeAt w Lo Bd g l) (k : w.grownBy w' (some q)) (hq : q < Lo ∨ Bd ≤ q) : EyeAt w' Lo Bd g l :=
  h.keep (fun i h1 h2 => k.block i (by obtain ⟨_, _, _, _, _, _, _, h6, _⟩ := h; omega) (fun e => by injection e with e; omega)) k.size
theorem EyeAt.lt (h : EyeAt w Lo Bd g l) : g < w.heap.size := by obtain ⟨_, _, _, _, _, _, h5, h6, _⟩ := h; omega
theorem EyeAt.lo (h : EyeAt w Lo Bd g l) : Lo ≤ g := by obtain ⟨_, _, _, _, _, h4, _⟩ := h; exact h4
theorem EyeAt.bd (h : EyeAt w Lo Bd g l) : g < Bd ∧ Bd ≤ w.heap.size := by obtain ⟨_, _, _, _, _, _, h5, h6, _⟩ := h; exact ⟨h5, h6⟩
theorem RdAt.sl {A : Option Addr} {bs : List UInt8} (h : RdAt w Lo Bd g A bs) : Sl w w.heap.size 1 A bs.length (bs.map B) := h.1.more h.2.1
theorem grownBy_trans {a b c : World} {r : Option Nat} (h : a.grownBy b r) (k : b.grownBy c r) : a.grownBy c r :=
  ⟨k.os.trans h.os, k.tape.trans h.tape, k.output.trans h.output, Nat.le_trans h.size k.size, fun i hi hn => (k.block i (Nat.lt_of_lt_of_le hi h.size) hn).trans (h.block i hi hn)⟩
theorem grownBy_refl (a : World) (r : Option Nat) : a.grownBy a r := ⟨rfl, rfl, rfl, Nat.le_refl _, fun _ _ _ => rfl⟩
theorem grownBy_grow {a b c : World} {r : Option Nat} (h : a.grownBy b r) (k : Grow b c) : a.grownBy c r := grownBy_trans h (grown_of_below k r)
/-- A block that was not there, written. -/
theorem grownBy_new {a b c : World} {r : Option Nat} {q : Nat} (h : a.grownBy b r) (k : b.grownBy c (some q)) (hq : a.heap.size ≤ q) : a.grownBy c r :=
  ⟨k.os.trans h.os, k.tape.trans h.tape, k.output.trans h.output, Nat.le_trans h.size k.size, fun i hi hn => (k.block i (Nat.lt_of_lt_of_le hi h.size) (fun e => by injection e with e; omega)).trans (h.block i hi hn)⟩
end

theorem efail_any (g x : Nat) (hx : x ≠ 0) (w : World) : Calls Tryd.prog 123 #[.pointer (some ⟨g, 0, none⟩), .int .i64 (x : Int)] w fun e w' => e = .panicked (brk x) ∧ w = w' := by
  have q1 : ((x : Int) != 0) = true := by simp; omega
  unfold brk
  go_enter Tryd.func123, Tryd.ntmps123
  go_wp2
  exact ⟨rfl, rfl, rfl⟩
theorem eleft_any {Lo Bd g : Nat} {l : List UInt8} (w : World) (h : EyeAt w Lo Bd g l) : Calls Tryd.prog 122 #[.pointer (some ⟨g, 0, none⟩)] w fun e w' => e = .returned (.int .i64 (l.length : Int)) ∧ w = w' := by
  obtain ⟨A, c, h1, h2, h3, h4, h5, h6, h7⟩ := h
  have c0 := h1.at_ (i := 0) rfl
  clear h1 h2 h7
  go_enter Tryd.func122, Tryd.ntmps122
  go_wp2
  go_ret
  exact ⟨rfl, rfl⟩
theorem take_no {Lo Bd g n : Nat} {l : List UInt8} (w : World) (h : EyeAt w Lo Bd g l) (hn : l.length < n) : Calls Tryd.prog 136 #[.pointer (some ⟨g, 0, none⟩), .int .i64 (n : Int)] w fun e w' => e = .panicked (brk 2) ∧ w = w' := by
  obtain ⟨A, c, h1, h2, h3, h4, h5, h6, h7⟩ := h
  have c0 := h1.at_ (i := 0) rfl
  clear h1 h2 h7 h3 h4 h5 h6
  have d1 : decide ((l.length : Int) < (n : Int)) = true := by simpa using hn
  go_enter Tryd.func136, Tryd.ntmps136
  go_wp2_with fail
  refine (efail_any g 2 (by omega) _).mono ?_
  rintro e w' ⟨rfl, rfl⟩
  go_wp2_with fail
  exact ⟨rfl, rfl, rfl⟩
theorem cut_map {w : World} {Bd n k : Nat} {A : Option Addr} {xs : List Value} (h : Sl w Bd 1 A n xs) (hk : k ≤ n) : Sl w Bd 1 (A.map (fun x => x.add k)) (n - k) (xs.drop k) := by
  refine ⟨by rw [List.length_drop, h.len]; omega, fun hn => ?_⟩
  obtain ⟨b, off, rfl, hb, hc⟩ := h.2 (by omega)
  refine ⟨b, off + k, ?_, hb, fun j u hu => ?_⟩
  · simp only [Option.map_some, Addr.add]
    split <;> simp_all
  · rw [Nat.add_assoc]
    exact hc _ u (by rw [← hu, List.getElem?_drop])
theorem map_block {A : Option Addr} {k : Nat} : (A.map (fun x => x.add k)).map Addr.block = A.map Addr.block := by
  cases A with
  | none => rfl
  | some a => simp only [Option.map_some, Addr.add]; split <;> rfl
theorem Sl.first {w : World} {Bd n k : Nat} {A : Option Addr} {xs : List Value} (h : Sl w Bd 1 A n xs) (hk : k ≤ n) : Sl w Bd 1 A k (xs.take k) := by
  refine ⟨by rw [List.length_take, h.len]; omega, fun hn => ?_⟩
  obtain ⟨b, off, rfl, hb, hc⟩ := h.2 (by omega)
  refine ⟨b, off, rfl, hb, fun j u hu => hc _ u ?_⟩
  rw [List.getElem?_take] at hu
  split at hu
  · exact hu
  · cases hu
theorem eye_cut {w : World} {Lo Bd g n c c' : Nat} {l : List UInt8} {A A' : Option Addr} (h1 : Blk w g 168 [.slice A l.length c]) (h2 : Sl w Bd 1 A l.length (l.map B)) (h4 : Lo ≤ g) (h5 : g < Bd) (h6 : Bd ≤ w.heap.size) (h7 : ∀ b, A.map Addr.block = some b → Lo ≤ b ∧ b ≠ g)
    (hn : n ≤ l.length) (hc : l.length - n ≤ c') (hA : A' = A.map (fun x => x.add n) ∨ (A' = A ∧ l.length = n)) :
    RdAt (w.setCell ⟨g, 0, none⟩ (.slice A' (l.length - n) c')) Lo Bd g A (l.take n) ∧ EyeAt (w.setCell ⟨g, 0, none⟩ (.slice A' (l.length - n) c')) Lo Bd g (l.drop n) ∧ w.grownBy (w.setCell ⟨g, 0, none⟩ (.slice A' (l.length - n) c')) (some g) := by
  have hs := grown_set w g 0 (.slice A' (l.length - n) c')
  have keep : ∀ {A : Option Addr} {m : Nat} {xs : List Value}, Sl w Bd 1 A m xs → (∀ b, A.map Addr.block = some b → Lo ≤ b ∧ b ≠ g) → Sl (w.setCell ⟨g, 0, none⟩ (.slice A' (l.length - n) c')) Bd 1 A m xs := by
    intro A m xs h hb
    refine ⟨h.1, fun hm => ?_⟩
    obtain ⟨b, off, e, hB, hc⟩ := h.2 hm
    refine ⟨b, off, e, hB, fun j u hu => ?_⟩
    exact (World.cell?_of_block (a := ⟨b, off + j, none⟩) (hs.block b (by omega) (fun e2 => by injection e2 with e2; exact (hb b (by rw [e]; rfl)).2 e2))).trans (hc j u hu)
  have hl1 : (l.take n).length = n := by rw [List.length_take]; omega
  have hl2 : (l.drop n).length = l.length - n := List.length_drop
  have hA7 : ∀ b, A'.map Addr.block = some b → Lo ≤ b ∧ b ≠ g := by
    intro b hb
    rcases hA with rfl | ⟨rfl, _⟩
    · rw [map_block] at hb; exact h7 b hb
    · exact h7 b hb
  refine ⟨⟨?_, Nat.le_trans h6 hs.size, h7⟩, ⟨A', c', ?_, ?_, by rw [hl2]; exact hc, h4, h5, Nat.le_trans h6 hs.size, hA7⟩, hs⟩
  · rw [hl1, List.map_take]
    exact keep (h2.first hn) h7
  · have := h1.set_ 0 (.slice A' (l.length - n) c')
    rw [hl2]
    simpa using this
  · rw [hl2, List.map_drop]
    rcases hA with rfl | ⟨rfl, e⟩
    · exact keep (cut_map h2 hn) hA7
    · rw [e, Nat.sub_self, List.drop_of_length_le (by rw [List.length_map]; omega)]
      exact Sl.nil
theorem take_yes {Lo Bd g n : Nat} {l : List UInt8} (w : World) (h : EyeAt w Lo Bd g l) (hn : n ≤ l.length) : Calls Tryd.prog 136 #[.pointer (some ⟨g, 0, none⟩), .int .i64 (n : Int)] w fun e w' => ∃ A', e = .returned (.slice A' n n) ∧ RdAt w' Lo Bd g A' (l.take n) ∧ EyeAt w' Lo Bd g (l.drop n) ∧ w.grownBy w' (some g) := by
  obtain ⟨A, c, h1, h2, h3, h4, h5, h6, h7⟩ := h
  have c0 := h1.at_ (i := 0) rfl
  have f0 := h1.frozen 0
  have H1 := Lib.hid h1; have H2 := Lib.hid h2; have H7 := Lib.hid h7
  clear h1 h2 h7
  have d1 : decide ((l.length : Int) < (n : Int)) = false := by simp; omega
  go_enter Tryd.func136, Tryd.ntmps136
  go_wp2_with fail
  · go_ret
    exact ⟨A, rfl, eye_cut H1.out H2.out h4 h5 h6 H7.out hn (by omega) (.inr ⟨rfl, by omega⟩)⟩
  · go_ret
    exact ⟨A, rfl, eye_cut H1.out H2.out h4 h5 h6 H7.out hn (by omega) (.inl rfl)⟩
end Go.Proofs.YtphmefhnffoafaaDoor

/- Contracts of field.Eye: Num, Text, Id. -/
namespace Go.Proofs.YtphmefhnffoafaaDoor
open Go.RowKit Go.Shelf
set_option linter.unusedVariables false
theorem takeNum_nil {Lo Bd g most : Nat} (w : World) (h : EyeAt w Lo Bd g []) : Calls Tryd.prog 105 #[.pointer (some ⟨g, 0, none⟩), .int .u64 (most : Int)] w fun e w' => e = .panicked (brk 2) ∧ w = w' := by
  have H := Lib.hid h
  clear h
  go_enter Tryd.func105, Tryd.ntmps105
  go_wp2_with fail
  refine (take_no (n := 1) _ H.out (by simp)).mono ?_
  rintro e w' ⟨rfl, rfl⟩
  go_wp2_with fail
  exact ⟨rfl, rfl, rfl⟩
theorem shl_u64 (v : Nat) (h : v * 256 ≤ 18446744073709551615) : IntKind.u64.wrap ((v : Int) * 2 ^ 8) = ((v * 256 : Nat) : Int) := by
  have e : (v : Int) * 2 ^ 8 = ((v * 256 : Nat) : Int) := by simp
  rw [e, IntKind.wrap_u64]; omega
theorem or_u64 (v c : Nat) (hc : c < 256) (hv : v * 256 + 255 ≤ 18446744073709551615) : bits BinOp.or IntKind.u64 ((v : Int) * 256) (c : Int) = ((v * 256 + c : Nat) : Int) := by
  have h : Op.intBits .or .u64 ((v : Int) * 256) (c : Int) = pure (.int .u64 (IntKind.u64.wrap (((BitVec.ofInt 64 ((v : Int) * 256) ||| BitVec.ofInt 64 (c : Int)).toNat : Nat) : Int))) := rfl
  rw [intBits_or] at h
  injection h with h
  injection h with _ h
  rw [h]
  have e1 : (BitVec.ofInt 64 ((v : Int) * 256)).toNat = 2 ^ 8 * v := by rw [BitVec.toNat_ofInt]; omega
  have e2 : (BitVec.ofInt 64 (c : Int)).toNat = c := by rw [BitVec.toNat_ofInt]; omega
  rw [BitVec.toNat_or, e1, e2, ← Nat.two_pow_add_eq_or_of_lt (by omega), IntKind.wrap_u64]
  omega
theorem conv_u64' {n : Nat} (h : n ≤ 18446744073709551615) : IntKind.u64.wrap (n : Int) = (n : Int) := by rw [IntKind.wrap_u64]; omega
def EyeR {α : Type} (r : Rd α) (val : α → Value) (w w' : World) (Lo Bd g : Nat) (e : Ending) : Prop := w.grownBy w' (some g) ∧ match r with
    | .error x => e = .panicked (brk x)
    | .ok (v, l') => e = .returned (val v) ∧ EyeAt w' Lo Bd g l'
theorem EyeR.err {α : Type} {r : Rd α} {val : α → Value} {w w' : World} {Lo Bd g : Nat} {e : Ending} {x : Nat} (h : r = .error x) (he : e = .panicked (brk x)) (hg : w.grownBy w' (some g)) : EyeR r val w w' Lo Bd g e := by
  subst h; exact ⟨hg, he⟩
theorem EyeR.ok {α : Type} {r : Rd α} {val : α → Value} {w w' : World} {Lo Bd g : Nat} {e : Ending} {v : α} {l' : List UInt8} (h : r = .ok (v, l')) (he : e = .returned (val v)) (hE : EyeAt w' Lo Bd g l') (hg : w.grownBy w' (some g)) : EyeR r val w w' Lo Bd g e := by
  subst h; exact ⟨hg, he, hE⟩
theorem EyeR.get {α : Type} {r : Rd α} {val : α → Value} {w w' : World} {Lo Bd g : Nat} {e : Ending} (h : EyeR r val w w' Lo Bd g e) : w.grownBy w' (some g) ∧ ((∃ x, r = .error x ∧ e = .panicked (brk x)) ∨ (∃ v l', r = .ok (v, l') ∧ e = .returned (val v) ∧ EyeAt w' Lo Bd g l')) := by
  obtain ⟨h1, h2⟩ := h
  refine ⟨h1, ?_⟩
  cases r with
  | error x => exact .inl ⟨x, rfl, h2⟩
  | ok p => exact .inr ⟨p.1, p.2, rfl, h2.1, h2.2⟩
set_option maxRecDepth 100000 in
theorem takeNum_cons {Lo Bd g most : Nat} {k : UInt8} {t : List UInt8} (w : World) (h : EyeAt w Lo Bd g (k :: t)) : Calls Tryd.prog 105 #[.pointer (some ⟨g, 0, none⟩), .int .u64 (most : Int)] w fun e w' => EyeR (numR most (k :: t)) (fun v => .int .u64 (v : Int)) w w' Lo Bd g e := by
  have H := Lib.hid h
  clear h
  obtain ⟨kn, hkn⟩ : ∃ n, n = k.toNat := ⟨_, rfl⟩
  obtain ⟨res, hres⟩ : ∃ r, r = numR most (k :: t) := ⟨_, rfl⟩
  rw [← hres]
  simp only [numR] at hres
  rw [← hkn] at hres
  have HR := Lib.hid hres
  have HK := Lib.hid hkn
  have hk8 : kn < 256 := by rw [hkn]; exact k.toNat_lt
  clear hkn hres
  go_enter Tryd.func105, Tryd.ntmps105
  go_wp2_with fail
  refine (take_yes (n := 1) _ H.out (by simp)).mono ?_
  rintro e w1 ⟨A1, rfl, hr1, he1, hg1⟩
  obtain ⟨b1, o1, u1, rfl, hb1, hu1, hc1⟩ := hr1.1.at_ (k := 0) (by simp)
  have hu2 : u1 = .int .u8 (kn : Int) := by
    simp at hu1
    rw [← hu1, HK.out]; rfl
  subst hu2
  rw [Nat.add_zero] at hc1
  have HE1 := Lib.hid (show EyeAt w1 Lo Bd g t from he1)
  have HG1 := Lib.hid hg1
  clear hr1 he1 hg1 hu1 hb1 H
  have qw : IntKind.i64.wrap (kn : Int) = (kn : Int) := IntWalk.i64_in _ (by omega)
  by_cases h8 : 8 < kn
  · have d8 : decide ((8 : Int) < (kn : Int)) = true := by simp; omega
    go_wp2_with fail
    refine (efail_any g 3 (by omega) _).mono ?_
    rintro e w' ⟨rfl, rfl⟩
    go_wp2_with fail
    exact ⟨by first | trivial | rfl, .err (x := 3) (by rw [HR.out, if_pos h8]) rfl HG1.out⟩
  have d8 : decide ((8 : Int) < (kn : Int)) = false := by simp; omega
  by_cases ht : t.length < kn
  · go_wp2_with fail
    refine (take_no _ HE1.out ht).mono ?_
    rintro e w' ⟨rfl, rfl⟩
    go_wp2_with fail
    exact ⟨by first | trivial | rfl, .err (x := 2) (by rw [HR.out, if_neg h8, if_pos ht]) rfl HG1.out⟩
  go_wp2_with fail
  refine (take_yes _ HE1.out (Nat.le_of_not_lt ht)).mono ?_
  rintro e w2 ⟨A2, rfl, hr2, he2, hg2⟩
  obtain ⟨bs, hbs⟩ : ∃ bs, bs = t.take kn := ⟨_, rfl⟩
  rw [← hbs] at hr2
  have hbl : bs.length = kn := by rw [hbs, List.length_take]; omega
  have HBL := Lib.hid hbl
  have HBS := Lib.hid hbs
  have HR2 := Lib.hid (show Sl w2 Bd 1 A2 kn (bs.map B) by rw [← hbl]; exact hr2.1)
  have HE2 := Lib.hid he2
  have HG2 := Lib.hid (grownBy_trans HG1.out hg2)
  clear hr2 he2 hg2 hbl hbs hc1 HE1 HG1 qw d8
  go_wp2_with fail
  go_loopw [6, 22] (fun vv iv wq => ∃ j : Nat, j ≤ kn ∧ iv = .int .i64 j ∧ vv = .int .u64 ((valB (bs.take j) : Nat) : Int) ∧ wq = w2 ∧ Hid (0 < j → bs[0]? ≠ some 0)) (fun _ iv _ => kn - (intOf iv).toNat)
  case atStart => exact ⟨0, Nat.zero_le _, rfl, rfl, rfl, Lib.hid (fun h => by omega)⟩
  case round =>
    obtain ⟨j, hj, rfl, rfl, rfl, hz⟩ := hrel
    by_cases hlt : j < kn
    · obtain ⟨b2, o2, u2, rfl, hb2, hu2, hc2⟩ := HR2.out.at_ hlt
      rw [List.getElem?_map] at hu2
      obtain ⟨c, hcj, rfl⟩ := Option.map_eq_some_iff.1 hu2
      obtain ⟨cn, hcn⟩ : ∃ n, n = c.toNat := ⟨_, rfl⟩
      have hc256 : cn < 256 := by rw [hcn]; exact c.toNat_lt
      have hc3 : wr.cell? ⟨b2, o2 + j, none⟩ = some (.int .u8 (cn : Int)) := by rw [hcn]; exact hc2
      have HC := Lib.hid hcj
      have HCN := Lib.hid hcn
      obtain ⟨v, hv⟩ : ∃ v, v = valB (bs.take j) := ⟨_, rfl⟩
      have HV := Lib.hid hv
      have hv64 : v * 256 + 255 ≤ 18446744073709551615 := by
        have := valB_lt 7 (bs.take j) (by rw [List.length_take]; omega)
        rw [← hv] at this; omega
      rw [← hv]
      clear hu2 hb2 hcj hc2 hcn hv
      obtain ⟨p, hp⟩ : ∃ p, ((j : Int) == 0) = p := ⟨_, rfl⟩
      obtain ⟨q, hq⟩ : ∃ q, ((cn : Int) == 0) = q := ⟨_, rfl⟩
      have HPQ := Lib.hid (show p = true ∧ q = true ↔ j = 0 ∧ c = 0 by
        rw [← hp, ← hq, beq_iff_eq, beq_iff_eq]
        have h1 := HCN.out
        constructor
        · rintro ⟨a, b⟩
          exact ⟨by omega, UInt8.toNat_inj.1 (by show c.toNat = 0; omega)⟩
        · rintro ⟨a, b⟩
          subst b
          exact ⟨by omega, by rw [h1]; rfl⟩)
      have s1 := shl_u64 v (by omega)
      have s2 : IntKind.u64.wrap (cn : Int) = (cn : Int) := by rw [IntKind.wrap_u64]; omega
      cases p with
      | true =>
        cases q with
        | true =>
          go_wp2_with fail
          refine (efail_any g 3 (by omega) _).mono ?_
          rintro e w' ⟨rfl, rfl⟩
          go_wp2_with fail
          have hjc := HPQ.out.1 (by simp)
          refine ⟨by first | trivial | rfl, .err (x := 3) ?_ rfl HG2.out⟩
          have h1 := HC.out
          rw [hjc.1, hjc.2, HBS.out, List.getElem?_take, if_pos (by omega)] at h1
          rw [HR.out, if_neg h8, if_neg ht, if_pos ⟨by omega, h1⟩]
        | false =>
          have hnz : ¬ (j = 0 ∧ c = 0) := fun h => by have := HPQ.out.2 h; simp at this
          have HST := Lib.hid (show bits BinOp.or IntKind.u64 ((v : Int) * 256) (cn : Int) = ((valB (bs.take (j + 1)) : Nat) : Int) by
            rw [or_u64 v cn hc256 hv64, take_snoc HC.out, valB_snoc, ← HV.out, HCN.out])
          have HZ := Lib.hid (show 0 < j + 1 → bs[0]? ≠ some 0 from fun _ h0 => by
            by_cases hj0 : j = 0
            · have h1 := HC.out
              rw [hj0] at h1
              rw [h0] at h1
              injection h1 with h1
              exact hnz ⟨hj0, h1.symm⟩
            · exact hz.out (by omega) h0)
          clear hnz
          go_wp2_with fail
          go_roundw
          case rel => exact ⟨j + 1, by omega, by go_num, by rw [HST.out], by first | trivial | rfl, HZ⟩
          case measure => simp [intOf]; omega
      | false =>
        have hnz : ¬ (j = 0 ∧ c = 0) := fun h => by have := HPQ.out.2 h; simp at this
        have HST := Lib.hid (show bits BinOp.or IntKind.u64 ((v : Int) * 256) (cn : Int) = ((valB (bs.take (j + 1)) : Nat) : Int) by
          rw [or_u64 v cn hc256 hv64, take_snoc HC.out, valB_snoc, ← HV.out, HCN.out])
        have HZ := Lib.hid (show 0 < j + 1 → bs[0]? ≠ some 0 from fun _ h0 => by
          by_cases hj0 : j = 0
          · have h1 := HC.out
            rw [hj0] at h1
            rw [h0] at h1
            injection h1 with h1
            exact hnz ⟨hj0, h1.symm⟩
          · exact hz.out (by omega) h0)
        clear hnz
        go_wp2_with fail
        go_roundw
        case rel => exact ⟨j + 1, by omega, by go_num, by rw [HST.out], by first | trivial | rfl, HZ⟩
        case measure => simp [intOf]; omega
    · obtain rfl : j = kn := by omega
      have hall : bs.take j = bs := List.take_of_length_le (by rw [HBL.out]; omega)
      obtain ⟨v, hv⟩ : ∃ v, v = valB (bs.take j) := ⟨_, rfl⟩
      have HV := Lib.hid (show v = valB (t.take j) by rw [hv, hall, HBS.out])
      have HNZ := Lib.hid (show ¬ (0 < j ∧ t[0]? = some 0) from fun h => by
        have h1 := hz.out h.1
        rw [HBS.out, List.getElem?_take, if_pos h.1] at h1
        exact h1 h.2)
      rw [← hv]
      clear hv hall
      by_cases hm : most < v
      · have d1 : decide ((most : Int) < (v : Int)) = true := by simp; omega
        go_wp2_with fail
        refine (efail_any g 5 (by omega) _).mono ?_
        rintro e w' ⟨rfl, rfl⟩
        go_wp2_with fail
        exact ⟨by first | trivial | rfl, .err (x := 5) (by rw [HR.out, if_neg h8, if_neg ht, if_neg HNZ.out, ← HV.out, if_pos hm]) rfl HG2.out⟩
      · have d1 : decide ((most : Int) < (v : Int)) = false := by simp; omega
        go_wp2_with fail
        go_ret
        exact .ok (by rw [HR.out, if_neg h8, if_neg ht, if_neg HNZ.out, ← HV.out, if_neg hm]) rfl HE2.out HG2.out
theorem enum_any {Lo Bd g most : Nat} {l : List UInt8} (w : World) (h : EyeAt w Lo Bd g l) : Calls Tryd.prog 105 #[.pointer (some ⟨g, 0, none⟩), .int .u64 (most : Int)] w fun e w' => EyeR (numR most l) (fun v => .int .u64 (v : Int)) w w' Lo Bd g e := by
  cases l with
  | nil =>
    refine (takeNum_nil w h).mono ?_
    rintro e w' ⟨rfl, rfl⟩
    exact .err rfl rfl (grownBy_refl _ _)
  | cons k t => exact takeNum_cons w h
theorem row_id0 : RowT Tryd.prog 23 32 := ⟨_, Tryd.underlying23, by kernel_rfl, by kernel_rfl⟩
theorem run_arr32 (a : Option Addr) (w : World) : (Instr.arrayAt 23 (.slice a 32 32)).run Tryd.prog w = .ok (.pointer a) w := run_arrayAt w _ _ 32 a 32 32 Tryd.underlying23 (Nat.le_refl _)
set_option maxRecDepth 100000 in
theorem eid_any {Lo Bd g : Nat} {l : List UInt8} (w : World) (h : EyeAt w Lo Bd g l) : Calls Tryd.prog 106 #[.pointer (some ⟨g, 0, none⟩)] w fun e w' => EyeR (takeR 32 l) (fun d => .agg (d.map B).toArray) w w' Lo Bd g e := by
  have H := Lib.hid h
  clear h
  by_cases hn : l.length < 32
  · go_enter Tryd.func106, Tryd.ntmps106
    go_wp2_with (first | (with_reducible refine wpl_alloc (o := ⟨some 2, _, _, _, _, _⟩) rfl rfl zero_id ?_))
    intro w1 hb1 hbw1 hsz1
    have HB1 := Lib.hid hbw1
    have H1 := Lib.hid (H.out.grow hbw1)
    clear hb1 hbw1 hsz1
    go_wp2_with fail
    refine (take_no (n := 32) _ H1.out hn).mono ?_
    rintro e w' ⟨rfl, rfl⟩
    go_wp2_with fail
    exact ⟨by first | trivial | rfl, .err (x := 2) (by unfold takeR; rw [if_neg (by omega)]) rfl (grown_of_below HB1.out _)⟩
  · go_enter Tryd.func106, Tryd.ntmps106
    go_wp2_with (first | (with_reducible refine wpl_alloc (o := ⟨some 2, _, _, _, _, _⟩) rfl rfl zero_id ?_))
    intro w1 hb1 hbw1 hsz1
    have HB1 := Lib.hid hb1
    have HBW1 := Lib.hid hbw1
    have H1 := Lib.hid (H.out.grow hbw1)
    clear hb1 hbw1 hsz1
    go_wp2_with fail
    refine (take_yes (n := 32) _ H1.out (by omega)).mono ?_
    rintro e w2 ⟨A2, rfl, hr2, he2, hg2⟩
    have HR2 := Lib.hid hr2
    have HE2 := Lib.hid he2
    have HG2 := Lib.hid hg2
    clear hr2 he2 hg2
    have har := run_arr32 A2 w2
    obtain ⟨b2, o2, rfl, _, hc2⟩ := HR2.out.1.2 (by rw [List.length_take]; omega)
    obtain ⟨ds, hds⟩ : ∃ ds, ds = (l.take 32).map B := ⟨_, rfl⟩
    rw [← hds] at hc2
    have HD := Lib.hid hds
    have HC2 := Lib.hid hc2
    have HL2 := Lib.hid (show ds.length = 32 by rw [hds, List.length_map, List.length_take]; omega)
    have HB2 := Lib.hid (HB1.out.grown HG2.out (fun e => by injection e with e; have := H.out.lt; omega))
    have HQ := Lib.hid (H.out.bd)
    have HOT := Lib.hid (show ∀ u ∈ ds, u.oneCell' = true by rw [hds]; exact all_bytes _)
    clear hc2 hds
    go_wp2_with (first | (with_reducible refine wpl_loadm (o := ⟨some 6, _, _, _, _, _⟩) rfl rfl row_id HC2.out rfl HL2.out ?_) | (with_reducible refine wpl_storeb (o := ⟨none, .store _ _ _, _, _, _, _⟩) rfl rfl row_id HB2.out rfl rfl rfl HL2.out HOT.out ?_))
    intro w3 hb3 hg3 hsz3
    have HB3 := Lib.hid hb3
    have HG3 := Lib.hid (show w.grownBy w3 (some g) from grownBy_new (grownBy_trans (grown_of_below HBW1.out _) HG2.out) hg3 (Nat.le_refl _))
    have HE3 := Lib.hid (HE2.out.off hg3 (.inr HQ.out.2))
    clear hb3 hg3 hsz3
    go_wp2_with fail
    refine ret_cell rfl row_id0 HB3.out rfl HL2.out rfl ?_
    exact .ok (by unfold takeR; rw [if_pos (by omega)]) (by rw [HD.out]) HE3.out HG3.out
/-- The next text. -/
theorem etext_any {Lo Bd g most : Nat} {l : List UInt8} (w : World) (h : EyeAt w Lo Bd g l) (hm : most ≤ 1000000) : Calls Tryd.prog 104 #[.pointer (some ⟨g, 0, none⟩), .int .i64 (most : Int)] w fun e w' => w.grownBy w' (some g) ∧ ((∃ x, textR most l = .error x ∧ e = .panicked (brk x)) ∨
    (∃ bs l' A c, textR most l = .ok (bs, l') ∧ e = .returned (.slice A bs.length c) ∧ OwnAt w' w.heap.size A bs.length c (bs.map B) ∧ bs.length ≤ c ∧ EyeAt w' Lo Bd g l')) := by
  have H := Lib.hid h
  clear h
  have q1 : max (most : Int) 0 = (most : Int) := by omega
  have q2 : IntKind.u64.wrap (most : Int) = (most : Int) := conv_u64' (by omega)
  obtain ⟨tr, htr⟩ : ∃ r, r = textR most l := ⟨_, rfl⟩
  rw [← htr]
  have HTR := Lib.hid htr
  clear htr
  go_enter Tryd.func104, Tryd.ntmps104
  go_wp2_with fail
  refine (enum_any w H.out).mono ?_
  rintro e w1 hr
  obtain ⟨hg1, ⟨x, he, rfl⟩ | ⟨v, l1, he, rfl, hE⟩⟩ := hr.get
  · go_wp2_with fail
    exact ⟨by first | trivial | rfl, hg1, .inl ⟨x, by rw [HTR.out]; unfold textR; rw [he], rfl⟩⟩
  · have hv := numR_le he
    have HE := Lib.hid hE
    have HG := Lib.hid hg1
    have HV := Lib.hid he
    have hv1 := hv.1
    have q3 : IntKind.i64.wrap (v : Int) = (v : Int) := IntWalk.i64_in _ (by omega)
    clear hE hg1 he hv hr
    by_cases hl : l1.length < v
    · go_wp2_with fail
      refine (take_no _ HE.out hl).mono ?_
      rintro e w' ⟨rfl, rfl⟩
      go_wp2_with fail
      exact ⟨by first | trivial | rfl, HG.out, .inl ⟨2, by rw [HTR.out]; unfold textR; rw [HV.out]; unfold takeR; simp only; rw [if_neg (by omega)], rfl⟩⟩
    · go_wp2_with fail
      refine (take_yes _ HE.out (Nat.le_of_not_lt hl)).mono ?_
      rintro e w2 ⟨A2, rfl, hr2, he2, hg2⟩
      have hbl : (l1.take v).length = v := by rw [List.length_take]; omega
      have HS2 := Lib.hid (show Sl w2 w2.heap.size 1 A2 v ((l1.take v).map B) by have := hr2.sl; rwa [hbl] at this)
      have HE2 := Lib.hid he2
      have HG2 := Lib.hid (grownBy_trans HG.out hg2)
      have HSZ := Lib.hid HG2.out.size
      clear hr2 he2 hg2
      go_wp2_with fail
      refine (bclone_any A2 v v (l1.take v) _ HS2.out (by omega)).mono ?_
      rintro e w3 ⟨A3, c3, rfl, ho, hc, hg⟩
      go_wp2_with fail
      go_ret
      refine ⟨grownBy_grow HG2.out hg, .inr ⟨l1.take v, l1.drop v, A3, c3, by rw [HTR.out]; unfold textR; rw [HV.out]; unfold takeR; simp only; rw [if_pos (by omega)], by rw [hbl]; rfl, ?_, by rw [hbl]; exact hc, HE2.out.grow hg⟩⟩
      rw [hbl]
      exact own_base ho HSZ.out
end Go.Proofs.YtphmefhnffoafaaDoor

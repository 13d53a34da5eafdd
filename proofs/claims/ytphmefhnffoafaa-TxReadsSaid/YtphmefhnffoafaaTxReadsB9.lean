/- The contract of field.Read. -/
import Derived.Test.YtphmefhnffoafaaTxReadsB8
import Derived.Defers
import Derived.Recover
import Derived.Test.YtphmefhnffoafaaTxReadsB6
import Derived.Test.YtphmefhnffoafaaTxReadsB5
import Derived.Test.YtphmefhnffoafaaTxReadsB1
import Derived.Great.FillDense
import Derived.Laws.CopyOwn
import Derived.Laws.Tables
import Derived.Test.YtphmefhnffoafaaTxReadsB7
set_option linter.unusedSimpArgs false
/- The contract of field.Read. -/
namespace Go.Proofs.Ytphmefhnffoafaa
open Go.RowKit Go.Shelf
set_option linter.unusedVariables false
theorem assert_broken (v : Value) (xT : TypeId) (w : World) : (Instr.typeAssert (.iface 67 v) xT 67 true).run Try.prog w = .ok (.tuple #[v, .bool true]) w := by kernel_rfl
theorem row_broken : RowT Try.prog 67 1 := ⟨_, Try.underlying67, by kernel_rfl, by kernel_rfl⟩
theorem zero_broken : (Try.prog.info? 67).map (·.zero) = some (some (.agg [Value.int .i64 0].toArray)) := by kernel_rfl
set_option maxRecDepth 100000 in
set_option maxHeartbeats 1000000 in
theorem catch_panicking (g x : Nat) (w : World) (hc : ∃ v, Blk w g 29 [v]) :
    CallsD Try.prog 24 #[.pointer (some ⟨g, 0, none⟩)] (.panicking (brk x)) w fun e u' w' =>
      e = .returned (.tuple #[]) ∧ u' = .panicking [{ v := .iface 67 (.agg #[.int .i64 (x : Int)]), recovered := true }] ∧ Blk w' g 29 [.int .i64 (x : Int)] ∧ w.grownBy w' (some g) := by
  have HC := Lib.hid hc
  unfold brk
  refine callsD_of_wpS Try.func24 rfl fun c₀ cs hu => ?_
  simp only [Try.ntmps24, List.size_toArray, List.length_cons, List.length_nil, Nat.reduceAdd, Nat.reduceSub, Array.replicate_succ, Array.replicate_zero, List.push_toArray, List.append_toArray, List.nil_append, List.cons_append]
  refine wpS_seq ?_
  refine wpS_region ?_
  generalize hQ : Exit.thenS _ _ = QQ
  simp [wpOpsS, go_sem, recoverD, hu]
  rw [← hQ]
  clear hQ
  refine wpS_of_wp ?_
  generalize hQ : (fun (e : Exit) (a' : Act) (w' : World) => bodyPostS _ _ _ _ _ e a' _ w') = Q2
  have HQ := Lib.hid hQ
  clear hQ
  have qa := assert_broken
  obtain ⟨v0, hv0⟩ := HC.out
  have HV0 := Lib.hid hv0
  obtain ⟨gb, hgb⟩ : ∃ gb, gb = w.heap.size := ⟨_, rfl⟩
  have HGB := Lib.hid hgb
  have HU := Lib.hid hu
  clear hv0 hc HC hu
  go_wp2_with (first | (with_reducible refine wpl_alloc (o := ⟨some 2, _, _, _, _, _⟩) rfl rfl zero_broken ?_))
  intro w1 hb1 hbw1 hsz1
  have HB1 := Lib.hid hb1
  have HBW1 := Lib.hid hbw1
  rw [← hgb] at HB1 ⊢
  clear hb1 hbw1 hsz1 qa hgb
  have hge : g ≠ gb := fun e => by have := HV0.out.lt; have := HGB.out; omega
  have HV1 := Lib.hid (HV0.out.below HBW1.out (HV0.out.lt))
  have c0 := HB1.out.at_ (i := 0) rfl
  have f0 := HB1.out.frozen 0
  have c1 := HV1.out.at_ (i := 0) rfl
  have f1 := HV1.out.frozen 0
  go_wp2_with fail
  rw [← HQ.out]
  have hs1 := grown_set w1 gb 0 (.int .i64 (x : Int))
  have hb2 := (HV1.out.grown hs1 (fun e => by injection e with e; exact hge e)).set_ 0 (.int .i64 (x : Int))
  have hs2 := grown_set (w1.setCell ⟨gb, 0, none⟩ (.int .i64 (x : Int))) g 0 (.int .i64 (x : Int))
  refine ⟨rfl, _, rfl, _, results_none rfl _ _ _, rfl, rfl, ?_, ?_⟩
  · simpa using hb2
  · exact grownBy_trans (grownBy_new (grown_of_below HBW1.out _) hs1 (Nat.le_of_eq HGB.out.symm)) hs2
set_option maxRecDepth 100000 in
set_option maxHeartbeats 1000000 in
theorem catch_idle (g : Nat) (w : World) :
    CallsD Try.prog 24 #[.pointer (some ⟨g, 0, none⟩)] .returning w fun e u' w' => e = .returned (.tuple #[]) ∧ u' = .returning ∧ w' = w := by
  refine callsD_of_wpS Try.func24 rfl fun c₀ cs hu => ?_
  simp only [Try.ntmps24, List.size_toArray, List.length_cons, List.length_nil, Nat.reduceAdd, Nat.reduceSub, Array.replicate_succ, Array.replicate_zero, List.push_toArray, List.append_toArray, List.nil_append, List.cons_append]
  refine wpS_seq ?_
  refine wpS_region ?_
  generalize hQ : Exit.thenS _ _ = QQ
  simp [wpOpsS, go_sem, recoverD, hu]
  rw [← hQ]
  clear hQ
  refine wpS_of_wp ?_
  go_wp2
  cases c₀
  simp_all [bodyPostS, results, Try.results24]
theorem below_put {w w4 w5 : World} {ge : Nat} (h : w4.grownBy w5 (some ge)) (he : ge = w.heap.size) (hl : ge < w4.heap.size) : Below w.heap.size w4 w5 :=
  ⟨h.os, h.tape, h.output, h.size, fun k hk => h.block k (by omega) (fun e => by injection e with e; omega)⟩
theorem door_cell {tmps : Array Value} {w : World} {ge : Nat} {k : IntKind} {z : Int} (hc : w.cell? ⟨ge, 0, none⟩ = some (.int k z)) (ht : tmps[4]?.getD undef = .pointer (some ⟨ge, 0, none⟩) := by rfl) : (results Try.f10 tmps).run Try.prog w = .ok (.int k z) w := by
  simp [results, Try.results10, go_sem, ht, hc]
/-- What a function that reads leaves: an error's number, and what is left; Q: what the caller wants to know of the world. -/
def eyeErr : Except Nat (List UInt8) → Nat
  | .error x => x
  | .ok [] => 0
  | .ok (_ :: _) => 3
set_option maxRecDepth 100000 in
set_option maxHeartbeats 1000000 in
theorem fread_any (A : Option Addr) (n c : Nat) (bs : List UInt8) (F : FuncId) (cap : Array Value) (res : Except Nat (List UInt8)) (Q : World → Prop) (w : World) (hs : Sl w w.heap.size 1 A n (bs.map B)) (hn : n ≤ 1000000)
    (hcf : ∀ (args : Array Value) (w : World), (callFunc F args).run Try.prog w = .ok (.enter F args) w)
    (hdo : ∀ w1 Bd g, Grow w w1 → w.heap.size ≤ g → EyeAt w1 (w.heap.size + 1) Bd g bs → Calls Try.prog F (#[.pointer (some ⟨g, 0, none⟩)] ++ cap) w1 fun e w2 => Q w2 ∧ w1.heap.size ≤ w2.heap.size ∧ w2.heap[w.heap.size]? = w1.heap[w.heap.size]? ∧
      ((∃ x, res = .error x ∧ e = .panicked (brk x)) ∨ (∃ l', res = .ok l' ∧ e = .returned (.tuple #[]) ∧ EyeAt w2 (w.heap.size + 1) Bd g l'))) :
    Calls Try.prog 10 #[.slice A n c, .func (.func F) #[] cap] w fun e w' => e = .returned (.int .i64 (eyeErr res : Int)) ∧ ∃ w2, Q w2 ∧ Below w.heap.size w2 w' := by
  have HS := Lib.hid hs
  have HDO := Lib.hid hdo
  clear hs hdo
  have hmf : ∀ (fn : Fn) (first cap : Array Value) (w : World), (Instr.makeFunc fn first cap).run Try.prog w = .ok (.func fn first cap) w := fun _ _ _ _ => rfl
  obtain ⟨ge, hge⟩ : ∃ ge, ge = w.heap.size := ⟨_, rfl⟩
  have HGE := Lib.hid hge
  clear hge
  go_enter_defers Try.func10, Try.ntmps10
  go_wp2_with fail
  generalize hw1 : World.alloc w _ = w1
  obtain ⟨hX, hb, hs⟩ := alloc_eq hw1
  rw [← HGE.out] at hX hs ⊢
  have HE1 := Lib.hid hX
  have HG1 := Lib.hid (show Grow w w1 from hb)
  have HZ1 := Lib.hid hs
  have HS1 := Lib.hid ((HS.out.below HG1.out).more HG1.out.size)
  clear hX hb hs hw1
  refine (bclone_any A n c bs _ HS1.out hn).mono ?_
  rintro e w2 ⟨A2, c2, rfl, ho, hc2, hb2⟩
  have hbn : bs.length = n := by have := HS.out.len; simpa using this
  have HO2 := Lib.hid ho
  have HC2 := Lib.hid hc2
  have HE2 := Lib.hid (HE1.out.grow hb2)
  have HG2 := Lib.hid (HG1.out.grow' hb2)
  have HZ2 := Lib.hid (show ge + 1 ≤ w2.heap.size by have := hb2.size; have := HZ1.out; omega)
  clear ho hc2 hb2 HE1 HG1 HS1
  have go1 : ∀ (R : Ending → World → Prop) (w3 : World) (g : Nat), g = w2.heap.size → w3 = w2.alloc (.cells #[.slice A2 n c2] 71) →
      (∀ e w4, (Q w4 ∧ w3.heap.size ≤ w4.heap.size ∧ Blk w4 ge 29 [.int .i64 0] ∧ ((∃ x, res = .error x ∧ e = .panicked (brk x)) ∨ (∃ l', res = .ok l' ∧ e = .returned (.tuple #[]) ∧ EyeAt w4 (ge + 1) w3.heap.size g l'))) → R e w4) → Calls Try.prog F (#[.pointer (some ⟨g, 0, none⟩)] ++ cap) w3 R := by
    intro R w3 g hg hw3 hR
    obtain ⟨hX, hb, hs⟩ := alloc_eq hw3.symm
    have hE : EyeAt w3 (w.heap.size + 1) w3.heap.size g bs := by
      refine ⟨A2, c2, by rw [hbn, hg]; exact hX, by rw [hbn]; exact ((Sl.of_own HO2.out).below hb).more hb.size, by rw [hbn]; exact HC2.out, ?_, by omega, Nat.le_refl _, fun b hA => ?_⟩
      · have := HZ2.out; have := HGE.out; omega
      · have h1 := own_from HO2.out b hA
        have h2 := own_lt HO2.out b hA
        have := HZ1.out; have := HGE.out
        exact ⟨by omega, by omega⟩
    refine (HDO.out w3 _ g (HG2.out.grow' hb) (by have := HZ2.out; have := HGE.out; omega) hE).mono ?_
    rintro e w4 ⟨hQ, hsz, hk, hr⟩
    refine hR e w4 ⟨hQ, hsz, ?_, ?_⟩
    · unfold Blk
      rw [← HGE.out] at hk
      rw [hk]; exact HE2.out.grow hb
    · rw [← HGE.out] at hr; exact hr
  have GO := Lib.hid go1
  clear go1
  go_wp2_with fail
  refine GO.out _ _ _ rfl rfl ?_
  rintro e w4 ⟨hQ, hsz, hb4, ⟨x, hx, rfl⟩ | ⟨l', hl, rfl, hE⟩⟩
  · have HQ := Lib.hid hQ; have HB4 := Lib.hid hb4
    have HX := Lib.hid hx
    have HZ4 := Lib.hid (show ge < w4.heap.size from hb4.lt)
    clear hQ hb4 hsz hx
    go_wp2_with fail
    refine leaves_cons (f := 24) (args := #[.pointer (some ⟨ge, 0, none⟩)]) (by first | simp | decide) (by first | rfl | simp [go_sem]) ?_
    refine (catch_panicking ge x _ ⟨_, HB4.out⟩).mono ?_
    rintro e u' w5 ⟨rfl, rfl, hb5, hg5⟩
    have c5 := hb5.at_ (i := 0) rfl
    have hfin : eyeErr res = x := by rw [HX.out]; rfl
    simp only [Leaves, settle, List.dropWhile]
    refine ⟨_, door_cell c5, ?_, w4, HQ.out, ?_⟩
    · rw [hfin]
    · exact below_put hg5 HGE.out HZ4.out
  · have HQ := Lib.hid hQ; have HB4 := Lib.hid hb4; have HL := Lib.hid hl; have HE := Lib.hid hE
    clear hQ hb4 hsz hl hE
    go_wp2_with fail
    refine (eleft_any _ HE.out).mono ?_
    rintro e w5 ⟨rfl, rfl⟩
    have c0 := HB4.out.at_ (i := 0) rfl
    have f0 := HB4.out.frozen 0
    cases l' with
    | nil =>
      have d0 : decide ((0 : Int) < (([] : List UInt8).length : Int)) = false := rfl
      go_wp2_with fail
      refine leaves_cons (f := 24) (args := #[.pointer (some ⟨ge, 0, none⟩)]) (by simp) (by simp [go_sem]) ?_
      refine (catch_idle ge _).mono ?_
      rintro e u' w5 ⟨rfl, rfl, rfl⟩
      have hfin : eyeErr res = 0 := by rw [HL.out]; rfl
      simp only [Leaves, settle]
      refine ⟨_, door_cell (World.cell?_setCell_same _ _ _ c0), ?_, w4, HQ.out, below_put (grown_set w4 ge 0 _) HGE.out HB4.out.lt⟩
      first | (rw [hfin]; rfl) | rw [hfin]
    | cons y l2 =>
      have d0 : decide ((0 : Int) < ((y :: l2).length : Int)) = true := by rw [decide_eq_true_eq, List.length_cons]; omega
      go_wp2_with fail
      refine leaves_cons (f := 24) (args := #[.pointer (some ⟨ge, 0, none⟩)]) (by simp) (by simp [go_sem]) ?_
      refine (catch_idle ge _).mono ?_
      rintro e u' w5 ⟨rfl, rfl, rfl⟩
      have hfin : eyeErr res = 3 := by rw [HL.out]; rfl
      simp only [Leaves, settle]
      refine ⟨_, door_cell (World.cell?_setCell_same _ _ _ c0), ?_, w4, HQ.out, below_put (grown_set w4 ge 0 _) HGE.out HB4.out.lt⟩
      first | (rw [hfin]; rfl) | rw [hfin]
end Go.Proofs.Ytphmefhnffoafaa

/- One cell of a block, written: the walk's law. No program in sight. -/
namespace Go.Proofs.Ytphmefhnffoafaa
open Go.RowKit
set_option linter.unusedVariables false
section
variable {P : Program} {ops : Array Oper} {rest : List Oper} {o : Oper} {a : Act} {w : World} {Q : Exit → Act → World → Prop}
theorem wpl_store1 (hgd : o.guard = none) {T : TypeId} {x y : Operand} (ho : o.op = .store T x y) {g i : Nat} {t : TypeId} {cs : List Value} {v : Value} (hb : Blk w g t cs) (hx : a.eval x = .pointer (some ⟨g, i, none⟩)) (hy : a.eval y = v)
    (hT : (P.info? T).map (·.size) = some 1) (hv : v.cells = #[v]) (h1 : v.oneCell' = true) (hi : i < cs.length)
    (h : ∀ w', Blk w' g t (cs.set i v) → w.grownBy w' (some g) → w'.heap.size = w.heap.size → wpList P ops Q rest (a.put o.dst undef) w') : wpList P ops Q (o :: rest) a w := by
  refine wpList_plain hgd fun K hK => ?_
  have hc := hb.at_ (List.getElem?_eq_getElem hi)
  have hf := hb.frozen i
  have hrun : (Instr.storeAt T (.pointer (some ⟨g, i, none⟩)) v).run P w = .ok () (w.setCell ⟨g, i, none⟩ v) := by
    obtain ⟨inf, hi2, hs⟩ := Option.map_eq_some_iff.1 hT
    have e0 : Addr.add ⟨g, i, none⟩ 0 = ⟨g, i, none⟩ := by rw [Addr.add_lit]; rfl
    have e1 : (store ⟨g, i, none⟩ v).run P w = .ok () (w.setCell ⟨g, i, none⟩ v) := by rw [run_store _ _ _ _ _ h1]; simp [stored, hc, hf]
    simp [Instr.storeAt, Instr.sureAddr, storeVar, sizeOf, typeInfo, hi2, hs, hv, storeCells, e0, e1]
  unfold Oper.wp execOp
  simp only [ho, hx, hy, Sem.run_bind, hrun, Result.andThen_ok, Sem.run_pure]
  exact hK _ _ (h _ (hb.set_ i v) (grown_set w g i v) (by simp))
end
end Go.Proofs.Ytphmefhnffoafaa

/- Contracts of entry.Put and header.Put. Printed by mkhdr.py. -/
namespace Go.Proofs.Ytphmefhnffoafaa
open Go.RowKit Go.Shelf
set_option linter.unusedVariables false

theorem zero_pen : (Try.prog.info? 87).map (·.zero) = some (some (.agg [Value.slice none 0 0].toArray)) := by kernel_rfl
theorem row_aid : RowT Try.prog 37 32 := ⟨_, Try.underlying37, by kernel_rfl, by kernel_rfl⟩
theorem conv_u64 {n : Nat} (h : n ≤ 18446744073709551615) : IntKind.u64.wrap (n : Int) = (n : Int) := by rw [IntKind.wrap_u64]; omega
theorem dig_map {d : List UInt8} (h : d.length = 32) : Dig (d.map B) d := ⟨rfl, h⟩
def eformB (x : Ent) : List UInt8 := if rightE x = true then putEB x else []
def hformB (x : Hdr) : List UInt8 := if rightH x = true then putHB x else []
theorem nat_of {z : Int} (h : 0 ≤ z) : ∃ n : Nat, z = (n : Int) := ⟨z.toNat, by omega⟩
theorem midE {x : Ent} (h : x.ok) {w : World} {g : Nat} {t : TypeId} (hb : Blk w g t (entV x)) : ∀ j u, (x.tx.map B)[j]? = some u → w.cell? ⟨g, 2 + j, none⟩ = some u := by
  intro j u hj
  refine hb.at_ ?_
  have hl : j < (x.tx.map B).length := (List.getElem?_eq_some_iff.1 hj).1
  unfold entV
  rw [show 2 + j = j + 1 + 1 by omega, List.getElem?_cons_succ, List.getElem?_cons_succ, List.getElem?_append_left hl]; exact hj
theorem midP {x : Hdr} (h : x.ok) {w : World} {g : Nat} {t : TypeId} (hb : Blk w g t (hdrV x)) : ∀ j u, (x.prev.map B)[j]? = some u → w.cell? ⟨g, 3 + j, none⟩ = some u := by
  intro j u hj
  refine hb.at_ ?_
  have hl : j < (x.prev.map B).length := (List.getElem?_eq_some_iff.1 hj).1
  unfold hdrV
  rw [show 3 + j = j + 1 + 1 + 1 by omega, List.getElem?_cons_succ, List.getElem?_cons_succ, List.getElem?_cons_succ, List.getElem?_append_left hl]; exact hj
theorem midR {x : Hdr} (h : x.ok) {w : World} {g : Nat} {t : TypeId} (hb : Blk w g t (hdrV x)) : ∀ j u, (x.root.map B)[j]? = some u → w.cell? ⟨g, 35 + j, none⟩ = some u := by
  intro j u hj
  refine hb.at_ ?_
  have hl : (x.prev.map B).length = 32 := by rw [List.length_map, h.2.2.2.1]
  unfold hdrV
  rw [show 35 + j = (32 + j) + 1 + 1 + 1 by omega, List.getElem?_cons_succ, List.getElem?_cons_succ, List.getElem?_cons_succ, List.getElem?_append_right (by omega), hl, show 32 + j - 32 = j by omega]; exact hj

end Go.Proofs.Ytphmefhnffoafaa

/- The contract of header.Put. Printed by mkhdrb.py. -/
namespace Go.Proofs.Ytphmefhnffoafaa
open Go.RowKit Go.Shelf
set_option linter.unusedVariables false

def numsB (s h p : Nat) (k : Nat) : List UInt8 := if k = 0 then [] else if k = 1 then numB s else if k = 2 then numB s ++ numB h else numB s ++ numB h ++ numB p
end Go.Proofs.Ytphmefhnffoafaa

/- Struct values built of parts that are not written out. No program in sight. -/
namespace Go.Proofs.Ytphmefhnffoafaa
open Go.RowKit
set_option linter.unusedVariables false

theorem fill_nil {place : Nat → Option (Nat × Nat)} {cells : List Value} : Instr.fill place cells.toArray [] = some cells.toArray := rfl
theorem splice_get {α : Type} (L cs : List α) (off k : Nat) (h : off + cs.length ≤ L.length) : (splice L off cs)[k]? = if off ≤ k ∧ k < off + cs.length then cs[k - off]? else L[k]? := by
  unfold splice
  have hl : (L.take off).length = off := by rw [List.length_take]; omega
  by_cases h1 : k < off
  · rw [if_neg (by omega), List.getElem?_append_left (by omega), List.getElem?_take, if_pos h1]
  · rw [List.getElem?_append_right (by omega), hl]
    by_cases h2 : k - off < cs.length
    · rw [if_pos (by omega), List.getElem?_append_left h2]
    · rw [if_neg (by omega), List.getElem?_append_right (by omega), List.getElem?_drop]
      congr 1; omega
theorem fill_cons {place : Nat → Option (Nat × Nat)} {cells cs : List Value} {i off s : Nat} {v : Value} {rest : List (Nat × Value)} (hp : place i = some (off, s)) (hv : v.cells = cs.toArray) (hs : cs.length = s) (hle : off + s ≤ cells.length) :
    Instr.fill place cells.toArray ((i, v) :: rest) = Instr.fill place (splice cells off cs).toArray rest := by
  conv => lhs; unfold Instr.fill
  simp only [hp]
  have hsz : v.cells.size = s := by rw [hv]; simpa using hs
  rw [if_neg (by simp [hsz]; omega)]
  congr 1
  obtain ⟨h1, h2⟩ := Great.foldl_set off cs 0 cells.toArray
  have e : (v.cells.zipIdx.foldl (fun cs (x : Value × Nat) => cs.setIfInBounds (off + x.2) x.1) cells.toArray) = ((cs.zipIdx 0).foldl (fun cs (x : Value × Nat) => cs.setIfInBounds (off + x.2) x.1) cells.toArray) := by
    rw [hv, ← Array.foldl_toList, Array.toList_zipIdx]
  refine Eq.trans e ?_
  apply Array.ext_getElem?
  intro k
  rw [h2 k]
  simp only [Nat.add_zero, List.size_toArray, List.getElem?_toArray]
  rw [splice_get _ _ _ _ (by omega)]
  by_cases hk : off ≤ k ∧ k < off + cs.length
  · rw [if_pos ⟨hk.1, hk.2, by omega⟩, if_pos hk]
  · rw [if_neg (fun h => hk ⟨h.1, h.2.1⟩), if_neg hk]
theorem splice_mid {α : Type} {pre old post new : List α} {off : Nat} (h1 : pre.length = off) (h2 : old.length = new.length) : splice (pre ++ (old ++ post)) off new = pre ++ (new ++ post) := by
  unfold splice
  rw [← h1, List.take_left, ← h2, ← List.drop_drop, List.drop_left, List.drop_left]
section
variable {P : Program} {ops : Array Oper} {rest : List Oper} {o : Oper} {a : Act} {w : World} {Q : Exit → Act → World → Prop}
theorem exec_build {ev : Operand → Value} {t : TypeId} {parts : Array (Nat × Operand)} {cells : List Value} (ho : o.op = .build t parts) (h : P.built t (parts.toList.map fun (i, x) => (i, ev x)) = some cells.toArray) (w : World) :
    (execOp ev o).run P w = .ok (.value (.agg cells.toArray)) w := by
  unfold execOp
  simp only [ho, Sem.run_bind, run_build w t (parts.map fun (i, x) => (i, ev x)) _ (by rw [Array.toList_map]; exact h), Result.andThen_ok]
  rfl
theorem wpl_build (hgd : o.guard = none) {t : TypeId} {parts : Array (Nat × Operand)} (ho : o.op = .build t parts) {cells : List Value} (h : P.built t (parts.toList.map fun (i, x) => (i, a.eval x)) = some cells.toArray)
    (hk : wpList P ops Q rest (a.put o.dst (.agg cells.toArray)) w) : wpList P ops Q (o :: rest) a w := by
  refine wpList_plain hgd fun K hK => ?_
  unfold Oper.wp
  rw [exec_build ho h w]
  exact hK _ _ hk
end
end Go.Proofs.Ytphmefhnffoafaa

/- Contracts of header.Id, and of the document's Right of headers and entries. Printed by mkhdrc.py. -/
namespace Go.Proofs.Ytphmefhnffoafaa
open Go.RowKit Go.Shelf
set_option linter.unusedVariables false

theorem built_id0 : Try.prog.built 37 [] = some (zeroD.map B).toArray := by kernel_rfl
end Go.Proofs.Ytphmefhnffoafaa

/- Contracts of the document's Put of headers and entries. Printed by mkhdrd.py. -/
namespace Go.Proofs.Ytphmefhnffoafaa
open Go.RowKit Go.Shelf
set_option linter.unusedVariables false
theorem own_blk_far {w w2 : World} {base n c g : Nat} {A : Option Addr} {xs : List Value} {t : TypeId} {cs : List Value} (ho : w.ownsRow (g + 1) 5 1 (.slice A n c) n xs) (hg : w.grownBy w2 (A.map Addr.block)) (hb : Blk w g t cs) : Blk w2 g t cs :=
  hb.grown hg (fun e => by have := own_from ho g e.symm; omega)
theorem own_below_far {w0 w w2 : World} {n c g : Nat} {A : Option Addr} {xs : List Value} (ho : w.ownsRow (g + 1) 5 1 (.slice A n c) n xs) (hg : w.grownBy w2 (A.map Addr.block)) (hb : Grow w0 w) (hw : w0.heap.size ≤ g) : Grow w0 w2 :=
  below_grown hb hg hb.size (fun k hk => by have := own_from ho k hk; omega)

end Go.Proofs.Ytphmefhnffoafaa

/- Layer 5, the document's answer: a digest's bytes, a leaf, a node, the root. -/
namespace Go.Proofs.Ytphmefhnffoafaa
open Go.RowKit Go.Shelf
set_option linter.unusedVariables false

/-- A mark laid as a row, a length and bytes appended behind it. -/
theorem under1' (m : UInt8) (a : List UInt8) : underB m [a] = [m] ++ (beBytes a.length 4 ++ a) := by
  have : underB m [] = [m] := by unfold underB; simp
  rw [show [a] = [] ++ [a] from rfl, underB_snoc, this]
theorem under2' (m : UInt8) (a b : List UInt8) : underB m [a, b] = [m] ++ (beBytes a.length 4 ++ a) ++ (beBytes b.length 4 ++ b) := by
  rw [show [a, b] = [a] ++ [b] from rfl, underB_snoc, under1']
theorem under_eq (m : UInt8) (bs : List UInt8) (n : Nat) (h : bs.length = n) : (underB m [bs]).map B = [B m] ++ (beBytes n 4 ++ bs).map B := by
  rw [under1', h]; simp only [List.map_append, List.map_cons, List.map_nil]

end Go.Proofs.Ytphmefhnffoafaa

/- Contracts of the document's Id of a header, and of the leaves. -/
namespace Go.Proofs.Ytphmefhnffoafaa
open Go.RowKit Go.Shelf
set_option linter.unusedVariables false

def okL (x : Ent) (i : Int) : Bool := rightE x && decide (i ≤ 4611686018427387904)
theorem leavesB_yes {c : List UInt8} {x : Ent} {i : Int} (h : okL x i = true) : leavesB c x i = [c, putEB x, numB i.toNat] := by
  unfold okL at h; simp only [Bool.and_eq_true, decide_eq_true_eq] at h; unfold leavesB; rw [if_pos h]
theorem leavesB_no {c : List UInt8} {x : Ent} {i : Int} (h : okL x i = false) : leavesB c x i = [] := by
  unfold leavesB; rw [if_neg]; intro hh; unfold okL at h; rw [hh.1] at h; simp at h; omega
theorem parts3 {w : World} {g : Nat} {t : TypeId} {A1 A2 A3 : Option Addr} {n1 c1 n2 c2 n3 c3 : Nat} {b1 b2 b3 : List UInt8} (hb : Blk w g t [.slice A1 n1 c1, .slice A2 n2 c2, .slice A3 n3 c3]) (h1 : Sl w w.heap.size 1 A1 n1 (b1.map B)) (k1 : n1 ≤ c1) (h2 : Sl w w.heap.size 1 A2 n2 (b2.map B)) (k2 : n2 ≤ c2) (h3 : Sl w w.heap.size 1 A3 n3 (b3.map B)) (k3 : n3 ≤ c3) :
    ∃ ps, Parts w w.heap.size (some ⟨g, 0, none⟩) 3 ps ∧ ps.map Prod.snd = [b1, b2, b3] :=
  ⟨[(.slice A1 n1 c1, b1), (.slice A2 n2 c2, b2), (.slice A3 n3 c3, b3)], parts_blk hb rfl (by intro p hp; simp only [List.mem_cons, List.not_mem_nil, or_false] at hp; rcases hp with rfl | rfl | rfl; exact part_mk h1 k1; exact part_mk h2 k2; exact part_mk h3 k3), rfl⟩
/-- A list of lists of bytes that was handed back. -/
def LS (w : World) (A : Option Addr) (n c : Nat) (ls : List (List UInt8)) : Prop := ∃ ps, Parts w w.heap.size A n ps ∧ ps.map Prod.snd = ls ∧ n ≤ c
theorem LS.grow {w w2 : World} {A : Option Addr} {n c : Nat} {ls : List (List UInt8)} (h : LS w A n c ls) (k : Grow w w2) : LS w2 A n c ls := by obtain ⟨ps, h1, h2⟩ := h; exact ⟨ps, h1.grow k, h2⟩
theorem LS.nil (w : World) : LS w none 0 0 [] := ⟨[], ⟨Sl.nil, fun p hp => by cases hp⟩, rfl, Nat.le_refl _⟩

end Go.Proofs.Ytphmefhnffoafaa

/- A digest stored in the midst of a struct; headers built. Printed by mknext.py. -/
namespace Go.Proofs.Ytphmefhnffoafaa
open Go.RowKit Go.Shelf
set_option linter.unusedVariables false

theorem blk_setCells {g : Nat} {t : TypeId} : ∀ (vs : List Value) (o : Nat) (w : World) (cs : List Value), Blk w g t cs → o + vs.length ≤ cs.length → Blk (w.setCells g o vs) g t (splice cs o vs)
  | [], o, w, cs, h, _ => by simpa [splice, World.setCells] using h
  | v :: r, o, w, cs, h, hl => by
    simp only [List.length_cons] at hl
    have h1 := blk_setCells r (o + 1) _ _ (h.set_ o v) (by rw [List.length_set]; omega)
    have e : splice (cs.set o v) (o + 1) r = splice cs o (v :: r) := by
      apply List.ext_getElem?
      intro k
      rw [splice_get _ _ _ _ (by rw [List.length_set]; omega), splice_get _ _ _ _ (by simp only [List.length_cons]; omega)]
      simp only [List.length_cons]
      by_cases h1 : k = o
      · subst h1
        rw [if_neg (by omega), if_pos (by omega), List.getElem?_set, if_pos rfl, if_pos (by omega), Nat.sub_self]; rfl
      · by_cases h2 : o + 1 ≤ k ∧ k < o + 1 + r.length
        · rw [if_pos h2, if_pos (by omega), show k - o = (k - (o + 1)) + 1 by omega, List.getElem?_cons_succ]
        · rw [if_neg h2, if_neg (by omega), List.getElem?_set, if_neg (by omega)]
    rw [e] at h1
    exact h1
theorem grown_setCells (g : Nat) : ∀ (vs : List Value) (o : Nat) (w : World), w.grownBy (w.setCells g o vs) (some g) ∧ (w.setCells g o vs).heap.size = w.heap.size
  | [], o, w => ⟨⟨rfl, rfl, rfl, Nat.le_refl _, fun _ _ _ => rfl⟩, rfl⟩
  | v :: r, o, w => by
    obtain ⟨h1, h2⟩ := grown_setCells g r (o + 1) (w.setCell ⟨g, o, none⟩ v)
    exact ⟨grown_trans (grown_set w g o v) h1, h2.trans (by simp)⟩
section
variable {P : Program} {ops : Array Oper} {rest : List Oper} {o : Oper} {a : Act} {w : World} {Q : Exit → Act → World → Prop}
theorem wpl_storem (hgd : o.guard = none) {T : TypeId} {x y : Operand} (ho : o.op = .store T x y) {n : Nat} (hT : RowT P T n) {g off : Nat} {t : TypeId} {old cs : List Value} (hb : Blk w g t old) (hx : a.eval x = .pointer (some ⟨g, off, none⟩)) (hy : a.eval y = .agg cs.toArray)
    (hn : cs.length = n) (hle : off + n ≤ old.length) (h1 : ∀ u ∈ cs, u.oneCell' = true)
    (h : ∀ w', Blk w' g t (splice old off cs) → w.grownBy w' (some g) → w'.heap.size = w.heap.size → wpList P ops Q rest (a.put o.dst undef) w') : wpList P ops Q (o :: rest) a w := by
  obtain ⟨d, hu, hd, hi⟩ := hT
  refine wpList_store_mid hgd T x y ho g off cs.toArray hx hy (fun j hj => ?_) (by rw [hi]; simp [hn]) (all_oneCell_toArray h1) ?_
  · simp only [List.size_toArray] at hj
    exact ⟨by rw [hb.at_ (List.getElem?_eq_getElem (show off + j < old.length by omega))]; rfl, hb.frozen _⟩
  · obtain ⟨h2, h3⟩ := grown_setCells g cs off w
    exact h _ (blk_setCells cs off w old hb (by omega)) h2 h3
end
theorem hdr_next {s h ep s2 h2 : Int} {prev prev2 root : List UInt8} (hp : prev.length = 32) (hq : prev2.length = 32) : splice (((hdrV ⟨s, h, ep, prev, root⟩).set 0 (.int .i64 s2)).set 1 (.int .i64 h2)) 3 (prev2.map B) = hdrV ⟨s2, h2, ep, prev2, root⟩ := by
  have e1 : ((hdrV ⟨s, h, ep, prev, root⟩).set 0 (.int .i64 s2)).set 1 (.int .i64 h2) = [.int .i64 s2, .int .i64 h2, .int .i64 ep] ++ (prev.map B ++ root.map B) := rfl
  rw [e1, splice_mid (off := 3) rfl (by simp [hp, hq])]; rfl
theorem nextB_no {p : Hdr} {first : Bool} {ls : List (List UInt8)} {s ep : Int} (h : nextOK p first ls s ep = false) : nextB p first ls s ep = noHdr := by unfold nextB; rw [if_neg (by simp [h])]
theorem nextB_yes {p : Hdr} {first : Bool} {ls : List (List UInt8)} {s ep : Int} (h : nextOK p first ls s ep = true) : nextB p first ls s ep = nextH p first ls s ep := by unfold nextB; rw [if_pos h]
theorem hdr_one (h : Hdr) : ∀ u ∈ hdrV h, u.oneCell' = true := by
  intro u hu
  unfold hdrV at hu
  simp only [List.mem_cons, List.mem_append, List.mem_map] at hu
  rcases hu with rfl | rfl | rfl | ⟨_, _, rfl⟩ | ⟨_, _, rfl⟩ <;> rfl
end Go.Proofs.Ytphmefhnffoafaa

/- Contracts of header.look and entry.look. -/
namespace Go.Proofs.Ytphmefhnffoafaa
open Go.RowKit Go.Shelf
set_option linter.unusedVariables false
def lookH2 (l : List UInt8) : Rd Hdr := match lookH l with
  | .error x => .error x
  | .ok (h, t) => if t = [] ∧ h.height = 0 then .error 3 else .ok (h, t)
theorem hdr_look {s h ep : Int} {p r : List UInt8} (hp : p.length = 32) (hr : r.length = 32) :
    splice (splice ((((hdrV noHdr).set 0 (.int .i64 s)).set 1 (.int .i64 h)).set 2 (.int .i64 ep)) 3 (p.map B)) 35 (r.map B) = hdrV ⟨s, h, ep, p, r⟩ := by
  have e1 : (((hdrV noHdr).set 0 (.int .i64 s)).set 1 (.int .i64 h)).set 2 (.int .i64 ep) = [.int .i64 s, .int .i64 h, .int .i64 ep] ++ (zeroD.map B ++ zeroD.map B) := rfl
  have hz : zeroD.length = 32 := by simp [zeroD]
  rw [e1, splice_mid (off := 3) rfl (by simp [hp, hz])]
  have e2 : [Value.int .i64 s, .int .i64 h, .int .i64 ep] ++ (p.map B ++ zeroD.map B) = ([.int .i64 s, .int .i64 h, .int .i64 ep] ++ p.map B) ++ (zeroD.map B ++ []) := by simp
  rw [e2, splice_mid (off := 35) (by simp [hp]) (by simp [hr, hz])]
  simp [hdrV]
theorem ent_look {k s y ep a : Int} {t : List UInt8} (ht : t.length = 32) :
    (((splice (((entV noEnt).set 0 (.int .i64 k)).set 1 (.int .i64 s)) 2 (t.map B)).set 34 (.int .u64 a)).set 35 (.int .i64 y)).set 36 (.int .i64 ep) = entV ⟨k, s, t, a, y, ep⟩ := by
  have hz : zeroD.length = 32 := by simp [zeroD]
  have e1 : ((entV noEnt).set 0 (.int .i64 k)).set 1 (.int .i64 s) = [.int .i64 k, .int .i64 s] ++ (zeroD.map B ++ [.int .u64 0, .int .i64 0, .int .i64 0]) := rfl
  rw [e1, splice_mid (off := 2) rfl (by simp [ht, hz])]
  have hl : ([Value.int .i64 k, .int .i64 s] ++ t.map B).length = 34 := by simp [ht]
  have e2 : [Value.int .i64 k, .int .i64 s] ++ (t.map B ++ [.int .u64 0, .int .i64 0, .int .i64 0]) = ([Value.int .i64 k, .int .i64 s] ++ t.map B) ++ [.int .u64 0, .int .i64 0, .int .i64 0] := by simp
  have e3 : entV ⟨k, s, t, a, y, ep⟩ = ([Value.int .i64 k, .int .i64 s] ++ t.map B) ++ [.int .u64 a, .int .i64 y, .int .i64 ep] := by simp [entV]
  rw [e2, e3]
  generalize [Value.int .i64 k, .int .i64 s] ++ t.map B = q at hl ⊢
  simp [hl]
end Go.Proofs.Ytphmefhnffoafaa

/- The walk's halt at one operation: what follows is done by hand. No program in sight. -/
namespace Go.Proofs.Ytphmefhnffoafaa
open Go.RowKit
set_option linter.unusedVariables false
def StopT (p : Prop) : Prop := p
theorem wpl_stop {P : Program} {ops : Array Oper} {rest : List Oper} {o : Oper} {a : Act} {w : World} {Q : Exit → Act → World → Prop} (h : StopT (wpList P ops Q (o :: rest) a w)) : wpList P ops Q (o :: rest) a w := h
theorem stop_go {p : Prop} (h : p) : StopT p := h
end Go.Proofs.Ytphmefhnffoafaa

/- What the document's Take hands back: its values. No program's walk. -/
namespace Go.Proofs.Ytphmefhnffoafaa
open Go.RowKit Go.Shelf
set_option linter.unusedVariables false

theorem At.off {w w' : World} {g q : Nat} {T : TypeId} {n : Nat} {xs : List Value} (h : At w g T n xs) (k : w.grownBy w' (some q)) (hne : g ≠ q) : At w' g T n xs := ⟨Blk.grown h.1 k (fun e => hne (Option.some.inj e)), h.2⟩
theorem splice_length {L cs : List Value} {off n : Nat} (h : off + cs.length ≤ L.length) (hn : L.length = n) : (splice L off cs).length = n := by
  unfold splice; simp only [List.length_append, List.length_take, List.length_drop]; omega
theorem Sl.back {w w' : World} {Bd sz n : Nat} {A : Option Addr} {xs : List Value} (h : Sl w' Bd sz A n xs) (hb : Below Bd w w') : Sl w Bd sz A n xs := h.keep fun p hp => (hb.cell hp).symm
def SzG (w : World) (n : Nat) : Prop := n ≤ w.heap.size
theorem SzG.grow {w w' : World} {n : Nat} (h : SzG w n) (k : Grow w w') : SzG w' n := Nat.le_trans h k.size
def nilS : Value := .slice none 0 0
def fieldV (k n : Int) (b : Value) (d : List UInt8) : List Value := [.int .i64 k, .int .u64 n, b] ++ d.map B
def gotV (f : List Value) (e : Int) (left : Value) : List Value := f ++ [.int .i64 e, left]
def noF : List Value := fieldV 0 0 nilS zeroD
/-- n cells, each one. -/
def Cl (n : Nat) (xs : List Value) : Prop := xs.length = n ∧ ∀ u ∈ xs, u.oneCell' = true
theorem Cl.len {n : Nat} {xs : List Value} (h : Cl n xs) : xs.length = n := h.1
theorem Cl.one {n : Nat} {xs : List Value} (h : Cl n xs) : ∀ u ∈ xs, u.oneCell' = true := h.2
theorem fieldV_cl {k n : Int} {b : Value} {d : List UInt8} (hb : b.oneCell' = true) (hd : d.length = 32) : Cl 35 (fieldV k n b d) := by
  refine ⟨by simp [fieldV, hd], fun u hu => ?_⟩
  simp only [fieldV, List.mem_append, List.mem_cons, List.not_mem_nil, or_false, List.mem_map] at hu
  rcases hu with (rfl | rfl | rfl) | ⟨x, _, rfl⟩
  · rfl
  · rfl
  · exact hb
  · rfl
theorem gotV_cl {f : List Value} {e : Int} {l : Value} (hf : Cl 35 f) (hl : l.oneCell' = true) : Cl 37 (gotV f e l) := by
  refine ⟨by simp [gotV, hf.1], fun u hu => ?_⟩
  simp only [gotV, List.mem_append, List.mem_cons, List.not_mem_nil, or_false] at hu
  rcases hu with h | rfl | rfl
  · exact hf.2 u h
  · rfl
  · exact hl
theorem noF_cl : Cl 35 noF := fieldV_cl rfl (by simp [zeroD])
theorem fieldV_at {k n : Int} {b : Value} {d : List UInt8} : (fieldV k n b d)[0]? = some (.int .i64 k) ∧ (fieldV k n b d)[1]? = some (.int .u64 n) ∧ (fieldV k n b d)[2]? = some b := ⟨rfl, rfl, rfl⟩
theorem gotV_at {f : List Value} {e : Int} {l : Value} (hf : Cl 35 f) : (gotV f e l)[35]? = some (.int .i64 e) ∧ (gotV f e l)[36]? = some l ∧ ∀ (j : Nat) (v : Value), f[j]? = some v → (gotV f e l)[j]? = some v := by
  refine ⟨?_, ?_, fun j v h => ?_⟩
  · unfold gotV; rw [List.getElem?_append_right (by rw [hf.1]; omega), hf.1]; rfl
  · unfold gotV; rw [List.getElem?_append_right (by rw [hf.1]; omega), hf.1]; rfl
  · unfold gotV; rw [List.getElem?_append_left (List.getElem?_eq_some_iff.1 h).1]; exact h
theorem row_fld : RowT Try.prog 75 35 := ⟨_, Try.underlying75, by kernel_rfl, by kernel_rfl⟩
theorem row_got : RowT Try.prog 77 37 := ⟨_, Try.underlying77, by kernel_rfl, by kernel_rfl⟩
theorem zero_fld : (Try.prog.info? 75).map (·.zero) = some (some (.agg noF.toArray)) := by kernel_rfl
theorem zero_got : (Try.prog.info? 77).map (·.zero) = some (some (.agg (gotV noF 0 nilS).toArray)) := by kernel_rfl
theorem len_fld : noF.length = 35 := noF_cl.1
theorem len_got : (gotV noF 0 nilS).length = 37 := (gotV_cl noF_cl rfl).1
theorem built_fld0 (parts : List (Nat × Value)) : Try.prog.built 75 parts = Instr.fill (fun i => (#[(0, 1), (1, 1), (2, 1), (3, 32)] : Array (Nat × Nat))[i]?) noF.toArray parts := by kernel_rfl
theorem built_got0 (parts : List (Nat × Value)) : Try.prog.built 77 parts = Instr.fill (fun i => (#[(0, 35), (35, 1), (36, 1)] : Array (Nat × Nat))[i]?) (gotV noF 0 nilS).toArray parts := by kernel_rfl
theorem bt_fldk {k : Int} : Try.prog.built 75 [(0, .int .i64 k)] = some (fieldV k 0 nilS zeroD).toArray := by
  rw [built_fld0, fill_cons (off := 0) (s := 1) (cs := [.int .i64 k]) rfl rfl rfl (by rw [len_fld]; omega), fill_nil]; rfl
theorem bt_fldn {n : Int} : Try.prog.built 75 [(1, .int .u64 n)] = some (fieldV 0 n nilS zeroD).toArray := by
  rw [built_fld0, fill_cons (off := 1) (s := 1) (cs := [.int .u64 n]) rfl rfl rfl (by rw [len_fld]; omega), fill_nil]; rfl
theorem bt_fldkn {k n : Int} : Try.prog.built 75 [(0, .int .i64 k), (1, .int .u64 n)] = some (fieldV k n nilS zeroD).toArray := by
  rw [built_fld0, fill_cons (off := 0) (s := 1) (cs := [.int .i64 k]) rfl rfl rfl (by rw [len_fld]; omega), fill_cons (off := 1) (s := 1) (cs := [.int .u64 n]) rfl rfl rfl (by simp [splice, noF, fieldV]), fill_nil]; rfl
theorem bt_fldb {k : Int} {A : Option Addr} {n c : Nat} : Try.prog.built 75 [(0, .int .i64 k), (2, .slice A n c)] = some (fieldV k 0 (.slice A n c) zeroD).toArray := by
  rw [built_fld0, fill_cons (off := 0) (s := 1) (cs := [.int .i64 k]) rfl rfl rfl (by rw [len_fld]; omega), fill_cons (off := 2) (s := 1) (cs := [.slice A n c]) rfl rfl rfl (by simp [splice, noF, fieldV]), fill_nil]; rfl
theorem bt_gote {x : Int} : Try.prog.built 77 [(1, .int .i64 x)] = some (gotV noF x nilS).toArray := by
  rw [built_got0, fill_cons (off := 35) (s := 1) (cs := [.int .i64 x]) rfl rfl rfl (by rw [len_got]; omega), fill_nil]; rfl
theorem bt_got {f : List Value} {A : Option Addr} {n c : Nat} (hf : Cl 35 f) : Try.prog.built 77 [(0, .agg f.toArray), (2, .slice A n c)] = some (gotV f 0 (.slice A n c)).toArray := by
  have e1 : splice (gotV noF 0 nilS) 0 f = gotV f 0 nilS := by
    have := splice_mid (pre := []) (old := noF) (post := [Value.int .i64 0, nilS]) (new := f) (off := 0) rfl (by rw [hf.1, noF_cl.1])
    exact this
  rw [built_got0, fill_cons (off := 0) (s := 35) (cs := f) rfl rfl hf.1 (by rw [len_got]; omega), e1,
    fill_cons (off := 36) (s := 1) (cs := [.slice A n c]) rfl rfl rfl (by rw [(gotV_cl hf rfl).1]; omega), fill_nil]
  have h2 : splice (gotV f 0 nilS) 36 [.slice A n c] = gotV f 0 (.slice A n c) := by
    have e : gotV f 0 nilS = (f ++ [.int .i64 0]) ++ ([nilS] ++ []) := by simp [gotV]
    rw [e, splice_mid (pre := f ++ [Value.int .i64 0]) (old := [nilS]) (post := []) (new := [Value.slice A n c]) (off := 36) (by simp [hf.1]) rfl]; simp [gotV]
  rw [h2]
/-- What Take hands back of r: fv: its field. -/
def GotR {α : Type} (r : Rd α) (fv : α → World → List Value → Prop) (Bd : Nat) (w w' : World) (e : Ending) : Prop := Grow w w' ∧ match r with
  | .error x => e = .returned (.agg (gotV noF (x : Int) nilS).toArray)
  | .ok (v, t) => ∃ f A c, e = .returned (.agg (gotV f 0 (.slice A t.length c)).toArray) ∧ Cl 35 f ∧ fv v w' f ∧ Sl w' Bd 1 A t.length (t.map B) ∧ t.length ≤ c
theorem GotR.err {Bd : Nat} {α : Type} {r : Rd α} {fv : α → World → List Value → Prop} {w w' : World} {e : Ending} {x : Nat} (hr : r = .error x) (he : e = .returned (.agg (gotV noF (x : Int) nilS).toArray)) (hg : Grow w w') : GotR r fv Bd w w' e := by
  subst hr; exact ⟨hg, he⟩
theorem GotR.ok {Bd : Nat} {α : Type} {r : Rd α} {fv : α → World → List Value → Prop} {w w' : World} {e : Ending} {v : α} {t : List UInt8} {f : List Value} {A : Option Addr} {c : Nat} (hr : r = .ok (v, t)) (he : e = .returned (.agg (gotV f 0 (.slice A t.length c)).toArray)) (hf : Cl 35 f) (hv : fv v w' f)
    (hs : Sl w' Bd 1 A t.length (t.map B)) (hc : t.length ≤ c) (hg : Grow w w') : GotR r fv Bd w w' e := by
  subst hr; exact ⟨hg, f, A, c, he, hf, hv, hs, hc⟩
theorem GotR.get {Bd : Nat} {α : Type} {r : Rd α} {fv : α → World → List Value → Prop} {w w' : World} {e : Ending} (h : GotR r fv Bd w w' e) : Grow w w' ∧ ((∃ x, r = .error x ∧ e = .returned (.agg (gotV noF (x : Int) nilS).toArray)) ∨
    ∃ v t f A c, r = .ok (v, t) ∧ e = .returned (.agg (gotV f 0 (.slice A t.length c)).toArray) ∧ Cl 35 f ∧ fv v w' f ∧ Sl w' Bd 1 A t.length (t.map B) ∧ t.length ≤ c) := by
  obtain ⟨h1, h2⟩ := h
  refine ⟨h1, ?_⟩
  cases r with
  | error x => exact .inl ⟨x, rfl, h2⟩
  | ok p => obtain ⟨f, A, c, h3⟩ := h2; exact .inr ⟨p.1, p.2, f, A, c, rfl, h3⟩
def numF (v : Nat) (w : World) (f : List Value) : Prop := f = fieldV 0 (v : Int) nilS zeroD
def idF (d : List UInt8) (w : World) (f : List Value) : Prop := f = fieldV 2 0 nilS d
def textF (Bd : Nat) (b : List UInt8) (w : World) (f : List Value) : Prop := ∃ A c, f = fieldV 1 0 (.slice A b.length c) zeroD ∧ Sl w Bd 1 A b.length (b.map B) ∧ b.length ≤ c
theorem valB_cons {c : UInt8} {l : List UInt8} {k : Nat} {x : UInt8} (h : l[k]? = some x) : valB (l.take (k + 1)) = valB (l.take k) * 256 + x.toNat := by
  rw [take_snoc h, valB_snoc]
end Go.Proofs.Ytphmefhnffoafaa

/- The contract of header.Next. Printed by mknext.py. -/
namespace Go.Proofs.Ytphmefhnffoafaa
open Go.RowKit Go.Shelf
set_option linter.unusedVariables false
end Go.Proofs.Ytphmefhnffoafaa

/- The contract of header.Read. -/
namespace Go.Proofs.Ytphmefhnffoafaa
open Go.RowKit Go.Shelf
set_option linter.unusedVariables false
theorem numR_err {most : Nat} {l : List UInt8} {x : Nat} (h : numR most l = .error x) : x ≠ 0 := by
  cases l with
  | nil => injection h with h; omega
  | cons k t =>
    simp only [numR] at h
    split at h
    · injection h with h; omega
    · split at h
      · injection h with h; omega
      · split at h
        · injection h with h; omega
        · split at h
          · injection h with h; omega
          · cases h
theorem takeR_err {n : Nat} {l : List UInt8} {x : Nat} (h : takeR n l = .error x) : x ≠ 0 := by
  unfold takeR at h
  split at h
  · cases h
  · injection h with h; omega
theorem textR_err {most : Nat} {l : List UInt8} {x : Nat} (h : textR most l = .error x) : x ≠ 0 := by
  unfold textR at h
  split at h
  · rename_i h1; injection h with h; subst h; exact numR_err h1
  · exact takeR_err h
theorem lookH_err {l : List UInt8} {x : Nat} (h : lookH l = .error x) : x ≠ 0 := by
  unfold lookH at h
  split at h
  · rename_i h1; injection h with h; subst h; exact numR_err h1
  split at h
  · rename_i h1; injection h with h; subst h; exact numR_err h1
  split at h
  · rename_i h1; injection h with h; subst h; exact numR_err h1
  split at h
  · rename_i h1; injection h with h; subst h; exact takeR_err h1
  split at h
  · rename_i h1; injection h with h; subst h; exact takeR_err h1
  cases h
theorem lookE_err {l : List UInt8} {x : Nat} (h : lookE l = .error x) : x ≠ 0 := by
  unfold lookE at h
  split at h
  · rename_i h1; injection h with h; subst h; exact numR_err h1
  split at h
  · rename_i h1; injection h with h; subst h; exact numR_err h1
  split at h
  · rename_i h1; injection h with h; subst h; exact takeR_err h1
  split at h
  · rename_i h1; injection h with h; subst h; exact numR_err h1
  split at h
  · rename_i h1; injection h with h; subst h; exact numR_err h1
  split at h
  · rename_i h1; injection h with h; subst h; exact numR_err h1
  cases h
def restOf {α : Type} : Rd α → Except Nat (List UInt8)
  | .error x => .error x
  | .ok (_, t) => .ok t
theorem err_readH (l : List UInt8) : eyeErr (restOf (lookH2 l)) = errOf (readH l) := by
  unfold lookH2 readH
  cases h : lookH l with
  | error x => rfl
  | ok p =>
    obtain ⟨hd, t⟩ := p
    simp only
    by_cases h1 : t = []
    · subst h1
      by_cases h2 : hd.height = 0
      · simp [h2, restOf, eyeErr, errOf]
      · simp [h2, restOf, eyeErr, errOf]
    · cases t with
      | nil => exact absurd rfl h1
      | cons a t => simp [restOf, eyeErr, errOf]
theorem ok_readH {l : List UInt8} (h : errOf (readH l) = 0) : ∃ hd, readH l = .ok hd ∧ lookH2 l = .ok (hd, []) := by
  unfold readH at h ⊢
  unfold lookH2
  cases e : lookH l with
  | error x =>
    rw [e] at h
    exact absurd h (lookH_err e)
  | ok p =>
    obtain ⟨hd, t⟩ := p
    rw [e] at h
    simp only at h ⊢
    by_cases h1 : t = [] ∧ hd.height ≠ 0
    · rw [if_pos h1, h1.1, if_neg (by intro h2; exact h1.2 h2.2)]
      exact ⟨hd, rfl, rfl⟩
    · rw [if_neg h1] at h
      simp [errOf] at h
/-- What the closure leaves. -/
structure KeptC (T : TypeId) (sz : Nat) (g4 : Nat) (w w2 : World) (xs : List Value) : Prop where
  blk : Blk w2 g4 T xs
  len : xs.length = sz
  one : ∀ u ∈ xs, u.oneCell' = true
  grown : w.grownBy w2 (some g4)
theorem len_hd : (hdrV noHdr).length = 67 := hdrV_length noHdr_ok
end Go.Proofs.Ytphmefhnffoafaa

/- Transactions that are being read: rows of inputs and outputs of the call's own. -/
namespace Go.Proofs.Ytphmefhnffoafaa
open Go.RowKit
set_option linter.unusedVariables false
theorem numR_nz {most : Nat} {l : List UInt8} {x : Nat} (h : numR most l = .error x) : x ≠ 0 := numR_err h
theorem lookI_err {l : List UInt8} {x : Nat} (h : lookI l = .error x) : x ≠ 0 := by
  unfold lookI at h
  split at h
  · rename_i h1; injection h with h; subst h; exact takeR_err h1
  split at h
  · rename_i h1; injection h with h; subst h; exact numR_err h1
  split at h
  · rename_i h1; injection h with h; subst h; exact numR_err h1
  split at h
  · rename_i h1; injection h with h; subst h; exact textR_err h1
  cases h
theorem lookO_err {l : List UInt8} {x : Nat} (h : lookO l = .error x) : x ≠ 0 := by
  unfold lookO at h
  split at h
  · rename_i h1; injection h with h; subst h; exact takeR_err h1
  split at h
  · rename_i h1; injection h with h; subst h; exact numR_err h1
  cases h
theorem lookN_nz {α : Type} {f : List UInt8 → Rd α} (hf : ∀ l x, f l = .error x → x ≠ 0) : ∀ (n : Nat) {l : List UInt8} {x : Nat}, lookN f n l = .error x → x ≠ 0
  | 0, l, x, h => by cases h
  | n + 1, l, x, h => by
    unfold lookN at h
    split at h
    · rename_i h1; injection h with h; subst h; exact hf _ _ h1
    · split at h
      · rename_i h2; injection h with h; subst h; exact lookN_nz hf n h2
      · cases h
theorem lookT_err {l : List UInt8} {x : Nat} (h : lookT l = .error x) : x ≠ 0 := by
  unfold lookT at h
  split at h
  · rename_i h1; injection h with h; subst h; exact numR_err h1
  split at h
  · rename_i h1; injection h with h; subst h; exact lookN_nz (fun l x h => lookI_err h) _ h1
  split at h
  · rename_i h1; injection h with h; subst h; exact numR_err h1
  split at h
  · rename_i h1; injection h with h; subst h; exact lookN_nz (fun l x h => lookO_err h) _ h1
  split at h
  · rename_i h1; injection h with h; subst h; exact numR_err h1
  split at h
  · rename_i h1; injection h with h; subst h; exact numR_err h1
  cases h
theorem checkT_pos {t : Txn} (hk : t.ok) : 0 ≤ checkT t ∧ checkT t ≤ 9 := by
  have h1 := allE_range (t.ins.map Inp.amount) 0 (fun z hz => by obtain ⟨i, hi, rfl⟩ := List.mem_map.1 hz; exact (hk.1 i hi).2.2.1) (by omega) (by omega)
  have h2 := allE_range (t.outs.map Outp.amount ++ [t.fee]) 0 (fun z hz => by
    rcases List.mem_append.1 hz with hz | hz
    · obtain ⟨i, hi, rfl⟩ := List.mem_map.1 hz; exact (hk.2.1 i hi).2.1
    · have : z = t.fee := by simpa using hz
      subst this; exact hk.2.2.1.1) (by omega) (by omega)
  unfold checkT
  repeat' split
  all_goals omega
/-- How a read transaction is told. -/
theorem readT_cases (l : List UInt8) : (∃ x, eyeErr (restOf (lookT l)) = x ∧ x ≠ 0 ∧ readT l = .error x) ∨ (∃ t, eyeErr (restOf (lookT l)) = 0 ∧ lookT l = .ok (t, []) ∧ readT l = if checkT t ≠ 0 then .error (checkT t).toNat else .ok t) := by
  cases h : lookT l with
  | error x => exact .inl ⟨x, rfl, lookT_err h, by unfold readT; rw [h]⟩
  | ok p =>
    obtain ⟨r, t⟩ := p
    cases t with
    | nil => exact .inr ⟨r, rfl, rfl, by unfold readT; rw [h]; simp⟩
    | cons a t => exact .inl ⟨3, rfl, by omega, by unfold readT; rw [h]; simp⟩

section
variable {w w' : World} {Z n c n2 c2 : Nat} {A A2 : Option Addr}
def InsO (w : World) (Z : Nat) (A : Option Addr) (n c : Nat) (l : List (Value × Inp)) : Prop :=
  w.ownsRow Z 41 35 (.slice A n c) n (l.flatMap fun p => inV p.1 p.2) ∧ (∀ p ∈ l, (∃ A' c', p.1 = .slice A' p.2.secret.length c' ∧ p.2.secret.length ≤ c' ∧ w.ownsRow Z 5 1 (.slice A' p.2.secret.length c') p.2.secret.length (p.2.secret.map B)) ∧ p.2.ok) ∧ l.length = n
def OutsO (w : World) (Z : Nat) (A : Option Addr) (n c : Nat) (os : List Outp) : Prop :=
  w.ownsRow Z 43 33 (.slice A n c) n (os.flatMap outV) ∧ (∀ o ∈ os, o.ok) ∧ os.length = n
theorem own_nil0 (w : World) (Z : Nat) (e : TypeId) (sz : Nat) : w.ownsRow Z e sz (.slice none 0 0) 0 [] := World.ownsRow_nil _ _ _ _
theorem own_sub {base : Nat} {e : TypeId} {sz : Nat} {xs : List Value} (h : w.ownsRow base e sz (.slice A n c) n xs) (k : ∀ b, base ≤ b → b < w.heap.size → w'.heap[b]? = w.heap[b]?) : w'.ownsRow base e sz (.slice A n c) n xs := by
  have hlt := own_lt h
  refine ⟨h.1, ?_⟩
  rcases h.2 with h2 | ⟨g, cap, cur, hv, hg, hh, r⟩
  · exact .inl h2
  · refine .inr ⟨g, cap, cur, hv, hg, ?_, r⟩
    injection hv with hA
    rw [k g hg (hlt g (by rw [hA]; rfl))]; exact hh
theorem InsO.keep {l : List (Value × Inp)} (h : InsO w Z A n c l) (k : ∀ b, Z ≤ b → b < w.heap.size → w'.heap[b]? = w.heap[b]?) : InsO w' Z A n c l :=
  ⟨own_sub h.1 k, fun p hp => by
    obtain ⟨⟨A', c', e, hc, ho⟩, hk⟩ := h.2.1 p hp
    exact ⟨⟨A', c', e, hc, own_sub ho k⟩, hk⟩, h.2.2⟩
theorem OutsO.keep {l : List Outp} (h : OutsO w Z A n c l) (k : ∀ b, Z ≤ b → b < w.heap.size → w'.heap[b]? = w.heap[b]?) : OutsO w' Z A n c l := ⟨own_sub h.1 k, h.2⟩
theorem own_rows_ne {b1 b2 : Nat} {e1 e2 : TypeId} {s1 s2 : Nat} {xs ys : List Value} (h : w.ownsRow b1 e1 s1 (.slice A n c) n xs) (k : w.ownsRow b2 e2 s2 (.slice A2 n2 c2) n2 ys) (he : e1 ≠ e2) : ∀ g, A = some ⟨g, 0, none⟩ → some g ≠ A2.map Addr.block := by
  intro g hg e
  rcases h.2 with ⟨h1, _⟩ | ⟨g1, _, cur, h1, _, hh, _⟩
  · injection h1 with h1; rw [h1] at hg; cases hg
  · rcases k.2 with ⟨k1, _⟩ | ⟨g2, _, cur2, k1, _, kk, _⟩
    · injection k1 with k1; rw [k1] at e; cases e
    · injection h1 with h1; injection k1 with k1
      rw [h1] at hg; injection hg with hg; injection hg with hg
      rw [k1] at e; injection e with e
      have e' : g = g2 := e
      rw [hg] at hh; rw [← e', hh] at kk
      injection kk with kk
      injection kk with _ kk _
      exact he kk
theorem InsO.cap {l : List (Value × Inp)} (h : InsO w Z A n c l) : n ≤ c := by
  rcases Nat.eq_zero_or_pos n with e | e
  · omega
  · obtain ⟨_, _, _, _, h4⟩ := own_form h.1 e; exact h4
theorem OutsO.cap {l : List Outp} (h : OutsO w Z A n c l) : n ≤ c := by
  rcases Nat.eq_zero_or_pos n with e | e
  · omega
  · obtain ⟨_, _, _, _, h4⟩ := own_form h.1 e; exact h4
theorem InsO.at_ {l : List (Value × Inp)} (h : InsO w Z A n c l) : InsAt w A n c l :=
  ⟨Sl.of_own h.1, fun p hp => by
    obtain ⟨⟨A', c', e, hc, ho⟩, hk⟩ := h.2.1 p hp
    exact ⟨⟨A', c', e, hc, Sl.of_own ho⟩, hk⟩, h.2.2, h.cap⟩
theorem OutsO.at_ {l : List Outp} (h : OutsO w Z A n c l) : OutsAt w A n c l := ⟨Sl.of_own h.1, h.2.1, h.2.2, h.cap⟩
/-- One more input behind. -/
theorem InsO.snoc {l : List (Value × Inp)} {A4 : Option Addr} {c4 : Nat} {v : Value} {i : Inp} (h : InsO w Z A n c l) (hg : w.grownBy w' (A.map Addr.block)) (ho : w'.ownsRow Z 41 35 (.slice A4 (n + 1) c4) (n + 1) ((l.flatMap fun p => inV p.1 p.2) ++ inV v i))
    (hs : ∃ A' c', v = .slice A' i.secret.length c' ∧ i.secret.length ≤ c' ∧ w.ownsRow Z 5 1 (.slice A' i.secret.length c') i.secret.length (i.secret.map B)) (hi : i.ok) : InsO w' Z A4 (n + 1) c4 (l ++ [(v, i)]) := by
  have key : ∀ {m c' : Nat} {A' : Option Addr} {xs : List Value}, w.ownsRow Z 5 1 (.slice A' m c') m xs → w'.ownsRow Z 5 1 (.slice A' m c') m xs := fun k => own_kept k hg (own_rows_ne k h.1 (by decide))
  refine ⟨by rw [List.flatMap_append]; simpa using ho, fun p hp => ?_, by simp [h.2.2]⟩
  rcases List.mem_append.1 hp with hp | hp
  · obtain ⟨⟨A', c', e, hc, ho⟩, hk⟩ := h.2.1 p hp
    exact ⟨⟨A', c', e, hc, key ho⟩, hk⟩
  · have : p = (v, i) := by simpa using hp
    subst this
    obtain ⟨A', c', e, hc, ho⟩ := hs
    exact ⟨⟨A', c', e, hc, key ho⟩, hi⟩
theorem OutsO.snoc {l : List Outp} {A4 : Option Addr} {c4 : Nat} {o : Outp} (h : OutsO w Z A n c l) (ho : w'.ownsRow Z 43 33 (.slice A4 (n + 1) c4) (n + 1) (l.flatMap outV ++ outV o)) (hk : o.ok) : OutsO w' Z A4 (n + 1) c4 (l ++ [o]) :=
  ⟨by rw [List.flatMap_append]; simpa using ho, fun p hp => by
    rcases List.mem_append.1 hp with hp | hp
    · exact h.2.1 p hp
    · have : p = o := by simpa using hp
      subst this; exact hk, by simp [h.2.2]⟩
/-- What was read lies so, in blocks from Z on. -/
def TGot (w : World) (Z : Nat) (A : Option Addr) (n c : Nat) (A2 : Option Addr) (n2 c2 : Nat) (t : Txn) : Prop := (∃ l, l.map Prod.snd = t.ins ∧ InsO w Z A n c l) ∧ OutsO w Z A2 n2 c2 t.outs
theorem TGot.keep {t : Txn} (h : TGot w Z A n c A2 n2 c2 t) (k : ∀ b, Z ≤ b → b < w.heap.size → w'.heap[b]? = w.heap[b]?) : TGot w' Z A n c A2 n2 c2 t := by
  obtain ⟨⟨l, e, h1⟩, h2⟩ := h
  exact ⟨⟨l, e, h1.keep k⟩, h2.keep k⟩
end
theorem run_row1 {P : Program} {w : World} {t e : TypeId} {sz bytes : Nat} (HE : ElemT P t e sz bytes) {ys : List Value} (hl : ys.length = sz) (h24 : sz ≤ 16777216) :
    (Instr.buildSlice t 1 #[(0, .agg ys.toArray)]).run P w = .ok (.slice (some ⟨w.heap.size, 0, none⟩) 1 1) (w.alloc (.cells ys.toArray e)) := by
  obtain ⟨i, z, hi, hz, hsz, hby, hzs, h0⟩ := HE.hi
  have h1 : ¬ (16777216 < i.size) := by omega
  have h2 : ¬ (i.size = 0) := by omega
  have hf : Instr.fill (fun k => some (k * i.size, i.size)) ((Array.range i.size).map fun k => z.cells[k % z.cells.size]!) [(0, .agg ys.toArray)] = some ys.toArray := by
    obtain ⟨cs, hcs⟩ : ∃ cs : List Value, cs = ((Array.range i.size).map fun k => z.cells[k % z.cells.size]!).toList := ⟨_, rfl⟩
    have e1 : ((Array.range i.size).map fun k => z.cells[k % z.cells.size]!) = cs.toArray := by rw [hcs]
    have hcl : cs.length = i.size := by rw [hcs]; simp
    rw [e1, fill_cons (off := 0) (s := i.size) (cs := ys) (by simp) rfl (by omega) (by omega), fill_nil]
    congr 2
    unfold splice
    rw [List.drop_of_length_le (by omega)]; simp
  simp [Instr.buildSlice, run_underlying HE.ht, sizeOf, typeInfo, zeroValue, hi, hz, h1, h2, hf, newRow]
theorem wpl_row1 {P : Program} {w : World} {ops : Array Oper} {rest : List Oper} {o : Oper} {a : Act} {Q : Exit → Act → World → Prop} (hgd : o.guard = none) {t : TypeId} {x : Operand} (ho : o.op = .buildSlice t 1 #[(0, x)]) {e : TypeId} {sz bytes : Nat} (HE : ElemT P t e sz bytes) {ys : List Value}
    (hx : a.eval x = .agg ys.toArray) (hl : ys.length = sz) (h24 : sz ≤ 16777216)
    (h : ∀ w', Blk w' w.heap.size e ys → Grow w w' → w'.heap.size = w.heap.size + 1 → wpList P ops Q rest (a.put o.dst (.slice (some ⟨w.heap.size, 0, none⟩) 1 1)) w') : wpList P ops Q (o :: rest) a w := by
  refine wpList_plain hgd fun K hK => ?_
  have hr := run_row1 (P := P) (w := w) HE hl h24
  obtain ⟨n1, n2, n3⟩ := alloc_new w ys.toArray e
  unfold Oper.wp execOp
  simp only [ho, List.map_toArray, List.map_cons, List.map_nil, hx, Sem.run_bind, hr, Result.andThen_ok, Sem.run_pure]
  exact hK _ _ (h _ n1 n2 n3)
end Go.Proofs.Ytphmefhnffoafaa

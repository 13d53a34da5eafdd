/- The walk of seisinlaw20.MarksOld. -/
import Derived.Test.YtolbbhbfbpiljaaMarkD
namespace Go.Proofs.Ytolbbhbfbpiljaa
open Go.RowKit
set_option linter.unusedVariables false

theorem wpl_buildw {P : Program} {ops : Array Oper} {rest : List Oper} {o : Oper} {a : Act} {w : World} {Q : Exit → Act → World → Prop} (hw : Region.wanted o (yielded ops a.tmps) = true) {t : TypeId} {parts : Array (Nat × Operand)} (ho : o.op = .build t parts) {cells : List Value} (h : P.built t (parts.toList.map fun (i, x) => (i, a.eval x)) = some cells.toArray)
    (hk : wpList P ops Q rest (a.put o.dst (.agg cells.toArray)) w) : wpList P ops Q (o :: rest) a w := by
  refine wpl_wanted hw fun K hK => ?_
  unfold Oper.wp
  rw [exec_build ho h w]
  exact hK _ _ hk
def zeros32 : List UInt8 := [0, 0, 0, 0, 0, 0, 0, 0, 0, 0, 0, 0, 0, 0, 0, 0, 0, 0, 0, 0, 0, 0, 0, 0, 0, 0, 0, 0, 0, 0, 0, 0]
def idFour : List UInt8 := [4, 0, 0, 0, 0, 0, 0, 0, 0, 0, 0, 0, 0, 0, 0, 0, 0, 0, 0, 0, 0, 0, 0, 0, 0, 0, 0, 0, 0, 0, 0, 0]
def someE : Ent := ⟨1, 0, zeros32, 0, 0, 0⟩
def someH : Hdr := ⟨0, 1, 0, zeros32, zeros32⟩
def someM (x : Int) : Mrk := ⟨someE, someH, zeros32, x⟩
theorem someM_ok {x : Int} (h : I64 x) : (someM x).ok := ⟨by simp [someM, someE, Ent.ok, I64, U64, zeros32], by simp [someM, someH, Hdr.ok, I64, zeros32], by simp [someM, zeros32], h⟩
def certV : List Value := entV someE ++ (.slice none 0 0 :: (hdrV someH ++ zeros32.map B))
theorem bt1 : Try.prog.built 32 [(0, .int .i64 1)] = some (entV someE).toArray := by kernel_rfl
theorem bt2 : Try.prog.built 35 [(1, .int .i64 1)] = some (hdrV someH).toArray := by kernel_rfl
theorem bt3 : Try.prog.built 37 [(0, .agg (entV someE).toArray), (2, .agg (hdrV someH).toArray)] = some certV.toArray := by kernel_rfl
theorem bt4 : Try.prog.built 39 [(0, .agg certV.toArray), (1, .int .i64 3)] = some (markV (someM 3)).toArray := by kernel_rfl
theorem bt5 : Try.prog.built 29 [(0, .int .u8 4)] = some (idFour.map B).toArray := by kernel_rfl
set_option maxRecDepth 100000 in
set_option maxHeartbeats 1000000 in
theorem some_any (w : World) : Calls Try.prog 13 #[.int .i64 3] w fun e w' => e = .returned (markA (someM 3)) ∧ Below w.heap.size w w' := by
  have HNL := Lib.hid (markV_length noMrk_ok)
  have HML := Lib.hid (markV_length (someM_ok (x := 3) (by simp [I64])))
  have HM1 := Lib.hid (markV_one (someM 3))
  have T1 := Lib.hid bt1; have T2 := Lib.hid bt2; have T3 := Lib.hid bt3; have T4 := Lib.hid bt4
  unfold markA
  generalize markV (someM 3) = ms at *
  generalize certV = cv at *
  generalize entV someE = ev at *
  generalize hdrV someH = hv at *
  go_enter Try.func13, Try.ntmps13
  go_wp2_with (first | (with_reducible refine wpl_alloc (o := ⟨some 2, _, _, _, _, _⟩) rfl rfl zero_mark ?_))
  intro w1 hb1 hbw1 hsz1
  have HB1 := Lib.hid hb1
  have HBW := Lib.hid hbw1
  have HSZ := Lib.hid hsz1
  clear hb1 hbw1 hsz1
  go_wp2_with (first | (refine wpl_build (o := ⟨some 3, _, _, _, _, _⟩) rfl rfl T1.out ?_) | (refine wpl_build (o := ⟨some 4, _, _, _, _, _⟩) rfl rfl T2.out ?_) | (refine wpl_build (o := ⟨some 5, _, _, _, _, _⟩) rfl rfl T3.out ?_) | (refine wpl_build (o := ⟨some 7, _, _, _, _, _⟩) rfl rfl T4.out ?_) | (with_reducible refine wpl_storeb (o := ⟨none, .store _ _ _, _, _, _, _⟩) rfl rfl row_mark HB1.out rfl rfl HNL.out HML.out HM1.out ?_))
  intro w2 hb2 hg2 hs2
  have HB2 := Lib.hid hb2
  have HL2 := Lib.hid (HBW.out.grown hg2 (by have := HSZ.out; omega) (fun k hk => by cases hk; omega))
  clear hb2 hg2 hs2
  go_wp2_with fail
  refine ret_cell rfl row_mark HB2.out rfl HML.out rfl ?_
  exact ⟨rfl, HL2.out⟩
end Go.Proofs.Ytolbbhbfbpiljaa

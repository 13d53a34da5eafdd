/- Arguments opened: arrays of bytes and structs of such, as the row's reading gives them. -/
import Derived.Test.YtcbanjbibankgaaCoinB
import Derived.OpenShut
import Derived.ChangeSame
namespace Go.Proofs.Ytcbanjbibankgaa
open Go.RowKit Go.ChangeShapes Go.WideShapes
set_option linter.unusedVariables false
section
variable {H : Type} {enc : TypeId × Value → H} {P : Program} {w : World} {base : Nat} {spare : Nat → Bool} {held : Bool}

theorem trod_bytes {t e : TypeId} {n : Nat} {fuel : Nat} {cs : List Value} {x : DataW H × List MemPlace} (ht : P.underlying t = some (.array n e)) (he : P.underlying e = some (.int .u8)) (hce : P.cellsOf e = 1) (hct : P.cellsOf t = n)
    (h : DataW.trod enc P w base spare held fuel t cs = some x) : ∃ ds : List UInt8, cs = ds.map B ∧ ds.length = n := by
  obtain ⟨xs, m, rfl, rfl, hl, hxl, hi⟩ := DataW.trod_array ht h
  rw [hct] at hl
  refine ⟨cs.map (fun v => match v with | .int _ z => UInt8.ofNat z.toNat | _ => 0), ?_, by rw [List.length_map, hl]⟩
  apply List.ext_getElem?
  intro i
  by_cases hin : i < n
  · have h1 := hi i hin
    rw [hce, Nat.mul_one, List.getElem?_eq_getElem (by omega)] at h1
    obtain ⟨z, h2, _, h3⟩ := DataW.trod_int he h1
    have h4 : cs[i]? = some (.int .u8 z) := by
      have := congrArg List.head? h2
      rw [List.take_one] at this
      simpa using this
    have hz := bounds_u8 h3
    rw [List.getElem?_map, List.getElem?_map, h4]
    simp only [Option.map_some, B, b8]
    congr 2
    rw [UInt8.toNat_ofNat']
    omega
  · rw [List.getElem?_eq_none (by omega), List.getElem?_eq_none (by simp; omega)]
end

theorem open_point {H : Type} {enc : TypeId × Value → H} {w : World} {r : Reach} {b0 base : Nat} {spare : Nat → Bool} {held : Bool} {v : Value} {d : DataW H} {ps : List MemPlace} (hval : Value.okWide Try.prog w r b0 36 v) (h : DataW.Trod enc Try.prog w base spare held 36 v d ps) :
    ∃ p : PtK, v = ptA p ∧ PtOK p := by
  obtain ⟨cs, rfl, hsz⟩ := okWide_struct Try.underlying36 hval
  obtain ⟨fuel, hf⟩ := h
  rw [cells_point] at hsz
  obtain ⟨y0, y1, n, _, hl, h0, h1⟩ := trod_struct2 Try.underlying36 hf
  simp only [cells_id, cells_int, Value.cells] at h0 h1
  obtain ⟨ds, e0, hd⟩ := trod_bytes Try.underlying34 Try.underlying5 cells_u8 cells_id h0
  obtain ⟨z, e1, _, hz⟩ := DataW.trod_int Try.underlying3 h1
  refine ⟨(ds, z), ?_, hd, hz⟩
  have hls : cs.toList.length = 33 := by simpa using hsz
  have : cs.toList = ptV (ds, z) := by
    rw [← List.take_append_drop 32 cs.toList]
    unfold ptV
    have h2 : List.drop 32 cs.toList = [.int .i64 z] := by
      rw [← e1, List.take_of_length_le (by rw [List.length_drop, hls]; omega)]
    rw [h2]
    congr 1
  unfold ptA
  rw [← this]
end Go.Proofs.Ytcbanjbibankgaa

/- Arguments opened: arrays of bytes, as the row's reading gives them. -/
import Derived.Test.YtolbbhbfbpiljaaWords
import Derived.OpenShut
import Derived.ChangeSame
namespace Go.Proofs.Ytolbbhbfbpiljaa
open Go.RowKit Go.ChangeShapes Go.WideShapes
set_option linter.unusedVariables false
section
variable {H : Type} {enc : TypeId × Value → H} {P : Program} {w : World} {base : Nat} {spare : Nat → Bool} {held : Bool}

theorem trod_bytes {t e : TypeId} {n : Nat} {fuel : Nat} {cs : List Value} {x : DataW H × List MemPlace} (ht : P.underlying t = some (.array n e)) (he : P.underlying e = some (.int .u8)) (hce : P.cellsOf e = 1) (hct : P.cellsOf t = n)
    (h : DataW.trod enc P w base spare held fuel t cs = some x) : ∃ ds : List UInt8, cs = ds.map B ∧ ds.length = n := by
  obtain ⟨xs, m, rfl, rfl, hl, hxl, hi⟩ := DataW.trod_array ht h
  rw [hct] at hl
  refine ⟨cs.map (fun v => match v with | .int _ z => UInt8.ofNat z.toNat | _ => 0), ?_, by rw [List.length_map, hl]⟩
  apply List.ext_getElem?
  intro i
  by_cases hin : i < n
  · have h1 := hi i hin
    rw [hce, Nat.mul_one, List.getElem?_eq_getElem (by omega)] at h1
    obtain ⟨z, h2, _, h3⟩ := DataW.trod_int he h1
    have h4 : cs[i]? = some (.int .u8 z) := by
      have := congrArg List.head? h2
      rw [List.take_one] at this
      simpa using this
    have hz := bounds_u8 h3
    rw [List.getElem?_map, List.getElem?_map, h4]
    simp only [Option.map_some, B, b8]
    congr 2
    rw [UInt8.toNat_ofNat']
    omega
  · rw [List.getElem?_eq_none (by omega), List.getElem?_eq_none (by simp; omega)]
end


theorem open_arr32 {H : Type} {enc : TypeId × Value → H} {P : Program} {w : World} {r : Reach} {b0 base : Nat} {spare : Nat → Bool} {held : Bool} {t e : TypeId} {v : Value} {d : DataW H} {ps : List MemPlace}
    (ht : P.underlying t = some (.array 32 e)) (he : P.underlying e = some (.int .u8)) (hce : P.cellsOf e = 1) (hct : P.cellsOf t = 32) (hval : Value.okWide P w r b0 t v) (h : DataW.Trod enc P w base spare held t v d ps) :
    ∃ ds : List UInt8, v = .agg (ds.map B).toArray ∧ ds.length = 32 := by
  simp only [Value.okWide, ht] at hval
  obtain ⟨cs, rfl, hsz, _⟩ := hval
  obtain ⟨fuel, hf⟩ := h
  obtain ⟨ds, h1, h2⟩ := trod_bytes ht he hce hct hf
  refine ⟨ds, ?_, h2⟩
  simp only [Value.cells] at h1
  rw [← h1]
end Go.Proofs.Ytolbbhbfbpiljaa

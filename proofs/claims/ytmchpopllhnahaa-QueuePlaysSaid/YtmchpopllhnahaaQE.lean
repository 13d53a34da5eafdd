/- The contract of slices.Insert of one request. -/
import Derived.Test.YtmchpopllhnahaaQD
import Derived.Lib.Overlaps
namespace Go.Proofs.Ytmchpopllhnahaa
open Go.RowKit
set_option linter.unusedVariables false
theorem splice_fill {α : Type} {X V Y Z : List α} (hz : Z.take X.length = X) (hl : Z.length = X.length + V.length + Y.length) : splice (splice Z (X.length + V.length) Y) X.length V = X ++ (V ++ Y) := by
  apply List.ext_getElem?
  intro i
  rw [splice_get _ _ _ _ (by rw [length_splice _ _ _ (by omega)]; omega), splice_get _ _ _ _ (by omega)]
  by_cases h1 : i < X.length
  · rw [if_neg (by omega), if_neg (by omega), List.getElem?_append_left h1]
    conv => rhs; rw [← hz]
    rw [List.getElem?_take, if_pos h1]
  · rw [List.getElem?_append_right (by omega)]
    by_cases h2 : i < X.length + V.length
    · rw [if_pos (by omega), List.getElem?_append_left (by omega)]
    · rw [if_neg (by omega), List.getElem?_append_right (by omega), show i - X.length - V.length = i - (X.length + V.length) by omega]
      by_cases h3 : i < X.length + V.length + Y.length
      · rw [if_pos (by omega)]
      · rw [if_neg (by omega), List.getElem?_eq_none (by omega), List.getElem?_eq_none (by omega)]
theorem splice_fill2 {α : Type} {X V Y Z : List α} (hz : Z.take X.length = X) (hl : Z.length = X.length + V.length + Y.length) : splice (splice Z X.length V) (X.length + V.length) Y = X ++ (V ++ Y) := by
  apply List.ext_getElem?
  intro i
  rw [splice_get _ _ _ _ (by rw [length_splice _ _ _ (by omega)]; omega), splice_get _ _ _ _ (by omega)]
  by_cases h1 : i < X.length
  · rw [if_neg (by omega), if_neg (by omega), List.getElem?_append_left h1]
    conv => rhs; rw [← hz]
    rw [List.getElem?_take, if_pos h1]
  · rw [List.getElem?_append_right (by omega)]
    by_cases h2 : i < X.length + V.length
    · rw [if_neg (by omega), if_pos (by omega), List.getElem?_append_left (by omega)]
    · rw [List.getElem?_append_right (by omega), show i - X.length - V.length = i - (X.length + V.length) by omega]
      by_cases h3 : i < X.length + V.length + Y.length
      · rw [if_pos (by omega)]
      · rw [if_neg (by omega), if_neg (by omega), List.getElem?_eq_none (by omega), List.getElem?_eq_none (by omega)]
theorem sizeW (w : World) : (sizeOf 29).run Try.prog w = .ok 4 w := by
  obtain ⟨i, hi, hs⟩ := Option.map_eq_some_iff.1 (show (Try.prog.info? 29).map (·.size) = some 4 by kernel_rfl)
  simp [sizeOf, typeInfo, hi, hs]
set_option maxRecDepth 100000 in
theorem over_any {w : World} {vb g c o m : Nat} {cs : List Value} {L : List (Value × Wt)} {base nn : Nat} (hv : Blk w vb 29 cs) (h : OwnW w base (some ⟨g, 0, none⟩) nn c L) (hc : 0 < c) (hne : vb ≠ g) (k : Nat) :
    (callFunc 50 #[.slice (some ⟨vb, 0, none⟩) 1 1, .slice (some ⟨g, o, none⟩) m k]).run Try.prog w = .ok (.value (.bool false)) w := by
  rcases h.2 with ⟨hv, _⟩ | ⟨g', cap, cur, hv', hbg, hh, hcap, hm2, hs, ht⟩
  · cases hv
  · injection hv' with hv1 hv2 hv3
    injection hv1 with hv1
    injection hv1 with hv1
    subst hv1 hv3
    rw [run_callFunc_extern Try.func50 (by kernel_rfl) (by kernel_rfl) (by kernel_rfl) (e := Extern.SlicesOverlaps.overlaps #[44, 44] #[4]) (by kernel_rfl)]
    rw [Lib.run_overlaps_apart w 44 4 29 Try.underlying44 4 sizeW ⟨vb, 0, none⟩ ⟨g, o, none⟩ 1 1 m k hne 29 29 cs.length cur.size (by unfold World.shape?; rw [hv]; simp) (by unfold World.shape?; rw [hh]) (by omega) (hv.frozen 0) (hv.frozen _)]
    rfl
end Go.Proofs.Ytmchpopllhnahaa

/- slices.SortFunc laid at PtS: a row of the call's own is sorted. Printed by mklays.py (the numbers are those of one seat). -/
import Derived.Test.YtolbbhbfbpiljaaSrtB
namespace Go.Proofs.Ytolbbhbfbpiljaa
open Go.RowKit Go.Sort Go.Shelf
set_option linter.unusedVariables false
def lays_pt_ren : Go.Shelf.Ren := ⟨fun | 6 => 111 | 15 => 123 | 14 => 125 | 28 => 135 | 29 => 136 | 20 => 137 | 21 => 138 | 22 => 139 | 23 => 140 | 24 => 141 | 25 => 142 | 26 => 143 | 27 => 144 | 46 => 150 | 47 => 146 | 48 => 147 | 49 => 151 | 50 => 152 | 57 => 154 | n => n, fun | 22 => 56 | 24 => 52 | 25 => 129 | 3 => 3 | 39 => 184 | 0 => 0 | 53 => 208 | 55 => 30 | 4 => 4 | 46 => 201 | 45 => 200 | 50 => 205 | 5 => 5 | 9 => 9 | 66 => 215 | 70 => 218 | 76 => 222 | 77 => 223 | n => n, fun | n => n⟩
theorem lays_pt : Go.Proofs.SlLaysF0.n6 Try.prog lays_pt_ren := {
  mixed := by kernel_rfl,
  f6 := ⟨Try.f111.name, by decide, Try.func111.trans (congrArg some (by kernel_rfl))⟩,
  f14 := ⟨Try.f125.name, by decide, Try.func125.trans (congrArg some (by kernel_rfl))⟩,
  f15 := Try.func123.trans (congrArg some (by kernel_rfl)),
  f20 := ⟨Try.f137.name, by decide, Try.func137.trans (congrArg some (by kernel_rfl))⟩,
  f21 := ⟨Try.f138.name, by decide, Try.func138.trans (congrArg some (by kernel_rfl))⟩,
  f22 := ⟨Try.f139.name, by decide, Try.func139.trans (congrArg some (by kernel_rfl))⟩,
  f23 := ⟨Try.f140.name, by decide, Try.func140.trans (congrArg some (by kernel_rfl))⟩,
  f24 := ⟨Try.f141.name, by decide, Try.func141.trans (congrArg some (by kernel_rfl))⟩,
  f25 := ⟨Try.f142.name, by decide, Try.func142.trans (congrArg some (by kernel_rfl))⟩,
  f26 := ⟨Try.f143.name, by decide, Try.func143.trans (congrArg some (by kernel_rfl))⟩,
  f27 := ⟨Try.f144.name, by decide, Try.func144.trans (congrArg some (by kernel_rfl))⟩,
  f28 := Try.func135.trans (congrArg some (by kernel_rfl)),
  f29 := Try.func136.trans (congrArg some (by kernel_rfl)),
  f46 := ⟨Try.f150.name, by decide, Try.func150.trans (congrArg some (by kernel_rfl))⟩,
  f47 := Try.func146.trans (congrArg some (by kernel_rfl)),
  f48 := Try.func147.trans (congrArg some (by kernel_rfl)),
  f49 := ⟨Try.f151.name, by decide, Try.func151.trans (congrArg some (by kernel_rfl))⟩,
  f50 := ⟨Try.f152.name, by decide, Try.func152.trans (congrArg some (by kernel_rfl))⟩,
  f57 := ⟨Try.f154.name, by decide, Try.func154.trans (congrArg some (by kernel_rfl))⟩,
  t0 := Try.underlying0,
  a0 := Try.isAgg0,
  z0 := Try.sizeOf0,
  v0 := Try.zeroValue0,
  t3 := Try.underlying3,
  a3 := Try.isAgg3,
  z3 := Try.sizeOf3,
  v3 := Try.zeroValue3,
  t4 := Try.underlying4,
  a4 := Try.isAgg4,
  z4 := Try.sizeOf4,
  v4 := Try.zeroValue4,
  t5 := Try.underlying5,
  a5 := Try.isAgg5,
  z5 := Try.sizeOf5,
  v5 := Try.zeroValue5,
  t9 := Try.underlying9,
  a9 := Try.isAgg9,
  z9 := Try.sizeOf9,
  v9 := Try.zeroValue9,
  t22 := Try.underlying56,
  a22 := Try.isAgg56,
  z22 := Try.sizeOf56,
  v22 := Try.zeroValue56,
  t25 := Try.underlying129,
  a25 := Try.isAgg129,
  z25 := Try.sizeOf129,
  v25 := Try.zeroValue129,
  t39 := Try.underlying184,
  a39 := Try.isAgg184,
  z39 := Try.sizeOf184,
  v39 := Try.zeroValue184,
  t45 := Try.underlying200,
  a45 := Try.isAgg200,
  z45 := Try.sizeOf200,
  v45 := Try.zeroValue200,
  t46 := Try.underlying201,
  a46 := Try.isAgg201,
  z46 := Try.sizeOf201,
  v46 := Try.zeroValue201,
  t50 := Try.underlying205,
  a50 := Try.isAgg205,
  z50 := Try.sizeOf205,
  v50 := Try.zeroValue205,
  t53 := Try.underlying208,
  a53 := Try.isAgg208,
  z53 := Try.sizeOf208,
  v53 := Try.zeroValue208,
  t55 := Try.underlying30,
  a55 := Try.isAgg30,
  z55 := Try.sizeOf30,
  v55 := Try.zeroValue30,
  t66 := Try.underlying215,
  a66 := Try.isAgg215,
  z66 := Try.sizeOf215,
  v66 := Try.zeroValue215,
  t70 := Try.underlying218,
  a70 := Try.isAgg218,
  z70 := Try.sizeOf218,
  v70 := Try.zeroValue218,
  t76 := Try.underlying222,
  a76 := Try.isAgg222,
  z76 := Try.sizeOf222,
  v76 := Try.zeroValue222,
  t77 := Try.underlying223,
  a77 := Try.isAgg223,
  z77 := Try.sizeOf223,
  v77 := Try.zeroValue223 }
theorem sort_pt {base g cap : Nat} {ss : List PtS} (w : World) (hn : ss.length < 4611686018427387904) (ho : w.ownsRow base 52 33 (.slice (some ⟨g, 0, none⟩) ss.length cap) ss.length (ss.flatMap encPt)) :
    Calls Try.prog 111 #[.slice (some ⟨g, 0, none⟩) ss.length cap, .func (.func 59) #[] #[]] w fun e w' => e = .returned (.tuple #[]) ∧ w'.ownsRow base 52 33 (.slice (some ⟨g, 0, none⟩) ss.length cap) ss.length ((sortP ss).flatMap encPt) ∧ w.grownBy w' (some g) := by
  rcases ho.2 with ⟨h1, h2⟩ | ⟨gb, cap', cur, h1, hbase, hgb, r1, r2, r3, r4⟩
  · cases h1
  · injection h1 with h1 h2 h3
    injection h1 with h1
    injection h1 with h1
    subst h1 h3
    have hH : HoldsK encPt 33 w g 0 ss.toArray := holdsK_of_own encPt 33 (by omega) encPt_len hgb r4
    have hsz : ss.toArray.size < 4611686018427387904 := by rw [List.size_toArray]; exact hn
    have h := AnyQ.slices_SortFunc_total lays_pt 33 Try.isAgg52 Try.sizeOf52 encPt encPt_len encPt_one cfPt swo_pt 59 #[] g 0 cap ss.toArray w (enters_of Try.func59 (by kernel_rfl) rfl) (lays_pt_cmp g 0 ss.toArray.size w) hH (Array.getElem?_eq_some_iff.1 hgb).1 hsz tot_pt
    rw [List.size_toArray] at h
    refine Calls.mono h ?_
    rintro e w' ⟨rfl, n, os, rfl⟩
    refine ⟨rfl, ?_, grownBy_sortedK _ _ _⟩
    exact ownsRow_sortedK encPt 33 (by omega) encPt_len (sortP_len ss) hbase hgb r1 r2 r3
theorem sort_pt_none (p : Option Addr) (cap : Nat) (fv : Value) (w : World) : Calls Try.prog 111 #[.slice p 0 cap, fv] w fun e w' => e = .returned (.tuple #[]) ∧ w' = w :=
  AnyF.slices_SortFunc_none lays_pt p cap fv w
end Go.Proofs.Ytolbbhbfbpiljaa

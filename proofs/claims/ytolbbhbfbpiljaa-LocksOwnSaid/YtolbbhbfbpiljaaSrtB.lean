/- Outputs as a sort takes them: their order is one. -/
import Derived.Test.YtolbbhbfbpiljaaCoinF
import Derived.Test.YtolbbhbfbpiljaaSrtA
import Derived.Test.YtolbbhbfbpiljaaSrt0
namespace Go.Proofs.Ytolbbhbfbpiljaa
open Go.RowKit Go.Sort
set_option linter.unusedVariables false
/-- An output. -/
abbrev PtS := { p : PtK // PtOK p }
instance : Inhabited PtS := ⟨⟨pt 0, pt_ok 0 (by decide)⟩⟩
def encPt (p : PtS) : List Value := ptV p.1
theorem encPt_len (p : PtS) : (encPt p).length = 33 := ptV_length p.2.1
theorem encPt_one (p : PtS) : ∀ v ∈ encPt p, v.oneCell' = true := by
  intro v hv
  unfold encPt ptV at hv
  rcases List.mem_append.1 hv with hv | hv
  · obtain ⟨x, _, rfl⟩ := List.mem_map.1 hv; rfl
  · have : v = .int .i64 p.1.2 := by simpa using hv
    rw [this]; rfl
theorem encPt_inj {p q : PtS} (h : encPt p = encPt q) : p = q := Subtype.ext (ptA_inj p.2.1 q.2.1 (by unfold ptA; unfold encPt at h; rw [h]))
def cfPt (p q : PtS) : Int := cmpP p.1 q.1
theorem lt_pt (p q : PtS) : ltOf cfPt p q = true ↔ cmpP p.1 q.1 = -1 := by
  have := cmpP_range p.1 q.1
  unfold ltOf cfPt
  rw [decide_eq_true_eq]; omega
theorem nlt_pt (p q : PtS) : ltOf cfPt p q = false ↔ cmpP q.1 p.1 ≤ 0 := by
  have h1 := cmpP_range p.1 q.1
  have h2 := cmpP_neg p.1 q.1
  unfold ltOf cfPt
  rw [decide_eq_false_iff_not]; omega
theorem swo_pt : SWO (ltOf cfPt) where
  irrefl p := by rw [nlt_pt]; have := (cmpP_zero p.1 p.1).2 rfl; omega
  trans x y z h1 h2 := by
    rw [lt_pt] at *
    have a1 := cmpP_trans x.1 y.1 z.1 (by omega) (by omega)
    have a2 := cmpP_range x.1 z.1
    have a3 : cmpP x.1 z.1 ≠ 0 := fun e => by
      have e2 := (cmpP_zero x.1 z.1).1 e
      rw [← e2] at h2
      have := cmpP_neg x.1 y.1
      omega
    omega
  ntrans x y z h1 h2 := by
    rw [nlt_pt] at *
    exact cmpP_trans z.1 y.1 x.1 h2 h1
theorem tot_pt (x y : PtS) (h1 : ltOf cfPt x y = false) (h2 : ltOf cfPt y x = false) : x = y := by
  rw [nlt_pt] at h1 h2
  have h3 := cmpP_neg x.1 y.1
  exact Subtype.ext ((cmpP_zero x.1 y.1).1 (by omega))
theorem lays_pt_cmp (blk off size : Nat) (w : World) : CmpLays Try.prog 59 #[] encPt 33 cfPt blk off size w :=
  fun _ _ _ _ x y => ccmpg_any x.1 y.1 _ x.2.1 y.2.1
theorem info_pt : (Try.prog.info? 52).map (fun i => (i.zero, i.size, i.bytes)) = some (some (.agg (ptV (pt 0)).toArray), 33, 40) := by kernel_rfl
theorem el_pt : ElemT Try.prog 56 52 33 40 := elemT Try.underlying56 info_pt rfl (by omega)
/-- Sorted. -/
def sortP (l : List PtS) : List PtS := l.mergeSort fun x y => !(ltOf cfPt) y x
theorem sortP_len (l : List PtS) : (sortP l).length = l.length := List.length_mergeSort ..
theorem sortP_perm (l : List PtS) : (sortP l).Perm l := List.mergeSort_perm ..
end Go.Proofs.Ytolbbhbfbpiljaa

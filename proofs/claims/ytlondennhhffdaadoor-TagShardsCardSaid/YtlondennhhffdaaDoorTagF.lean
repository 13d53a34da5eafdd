/- Contract of layer 6's Is outside the ring. -/
import Derived.Test.YtlondennhhffdaaDoorTagD
import Derived.Test.YtlondennhhffdaaDoorFlowS
namespace Go.Proofs.YtlondennhhffdaaDoor
open Go.RowKit Go.Shelf
set_option linter.unusedVariables false

set_option maxRecDepth 100000 in
set_option maxHeartbeats 600000 in
theorem ris_no {g : Nat} {A A2 : Option Addr} {n c n2 c2 : Nat} {ds : List (List UInt8)} {t : List UInt8} {xs : List Value} (s : Int) (hx : Dig xs t) (w : World) (hr : RingAt w g A n c ds) (hs : ¬ (0 ≤ s ∧ s < n)) :
    Calls Tryd.prog 34 #[.pointer (some ⟨g, 0, none⟩), .int .i64 s, .slice A2 n2 c2, .agg xs.toArray] w fun e w' => e = .returned (.bool false) ∧ Below w.heap.size w w' := by
  have HRA := Lib.hid hr; have HD := Lib.hid hx
  have HB := Lib.hid (Below.refl w.heap.size w)
  have HE := Lib.hid (show decide (0 ≤ s ∧ s < n) = false by simpa using hs)
  clear hr hs hx
  go_enter Tryd.func34, Tryd.ntmps34
  go_wp2_with (first | (with_reducible refine wpl_box (o := ⟨some 7, _, _, _, _, _⟩) rfl rfl rfl ?_))
  intro w2_ hb2_ hb_ hsz2_
  have HX_ := Lib.hid (at_mk hb2_ HD.out.len)
  clear hb2_ hsz2_
  have HB_ := Lib.hid (HB.out.grow' hb_)
  clear HB
  have HB := HB_
  clear HB_
  have HRA_ := Lib.hid (HRA.out.grow hb_)
  clear HRA
  have HRA := HRA_
  clear HRA_
  have HV := HX_
  clear hb_ HX_
  try clear w_
  rename World => w_
  try go_wp2_with fail
  repeat' (first | (with_reducible refine wp_flow (id := 1) [0,0,3,7,15,31,63,127,15,511,1023,15,15,8191,16383,32767] [0,0,3,0,0,0,0,0,0,0,0,0,0,3,0,0] (fun i => match i with | 2 => spV (.bool false) | _ => spV undef) (by kernel_rfl) (by kernel_rfl) ?_) | go_values | go_skip | go_guarded | go_step | go_upon | go_back)
  intro w_ hd_
  have hb_ := hd_.grow
  have HB_ := Lib.hid (HB.out.grow' hb_)
  clear HB
  have HB := HB_
  clear HB_
  have HV_ := Lib.hid (HV.out.grow hb_)
  clear HV
  have HV := HV_
  clear HV_
  have HRA_ := Lib.hid (HRA.out.grow hb_)
  clear HRA
  have HRA := HRA_
  clear HRA_
  clear hb_ hd_
  show wpL _ _ _ _ _ _ _ [0,1,2,3,4,5,6,7,8,9,10,11,12,13,14,15] _ _
  repeat (first | (refine fl_calm rfl (by decide) (by first | exact wanted_none rfl | (go_simp; done) | fail) (fun w_ _ _ => by first | (go_simp; rfl) | (go_simp; done) | rfl) (fun K hK => ?_); go_simp; refine hK _ ?_; clear hK K) | (refine fl_skip rfl (by first | (go_simp; done) | fail) (fun K hK => ?_); go_simp; refine hK _ ?_; clear hK K))
  refine fl_callv rfl (by kernel_rfl) rfl (by first | exact wanted_none rfl | (go_simp; done) | fail) (fun w_ => by first | (go_simp; exact ⟨rfl, rfl⟩) | (go_simp; rfl) | (go_simp; exact ⟨⟨rfl, rfl, rfl⟩, rfl⟩)) (fun w2_ hg_ hL_ => ?_) (fun K hK => ?_)
  · skip
    replace HRA := Lib.hid (HRA.out.grow hg_)
    exact has_b s HE.out _ HRA.out
  go_simp
  refine hK _ ?_
  clear hK K
  repeat (first | (refine fl_calm rfl (by decide) (by first | exact wanted_none rfl | (go_simp; done) | fail) (fun w_ _ _ => by first | (go_simp; rfl) | (go_simp; done) | rfl) (fun K hK => ?_); go_simp; refine hK _ ?_; clear hK K) | (refine fl_skip rfl (by first | (go_simp; done) | fail) (fun K hK => ?_); go_simp; refine hK _ ?_; clear hK K))
  refine fl_done ?_
  intro w2_ hg_ hL_
  replace HB := Lib.hid (HB.out.grow' hg_)
  clear hg_ hL_
  try clear w_
  rename World => w_
  go_wp2_with fail
  go_ret
  exact ⟨rfl, HB.out⟩
end Go.Proofs.YtlondennhhffdaaDoor

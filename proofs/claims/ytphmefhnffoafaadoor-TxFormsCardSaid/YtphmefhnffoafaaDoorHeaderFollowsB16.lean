/- Contracts of layer 6: tag.Of, tag.Is. -/
import Derived.Test.YtphmefhnffoafaaDoorHeaderFollowsB8
import Derived.Test.YtphmefhnffoafaaDoorHeaderFollowsB13
/- Contracts of layer 6: tag.Of, tag.Is. -/
namespace Go.Proofs.YtphmefhnffoafaaDoor
open Go.RowKit Go.Shelf
set_option linter.unusedVariables false

def tagB (key b : List UInt8) : List UInt8 := sha ((padB key).map (· ^^^ 92) ++ sha ((padB key).map (· ^^^ 54) ++ b))
theorem tagB_length (key b : List UInt8) : (tagB key b).length = 32 := sha_length _

set_option maxRecDepth 100000 in
set_option maxHeartbeats 1000000 in
theorem tof_any (A A2 : Option Addr) (n c n2 c2 : Nat) (key bs : List UInt8) {xs : List Value} (hx : Dig xs (tagB key bs)) (w : World) (hs : Sl w w.heap.size 1 A n (key.map B)) (hs2 : Sl w w.heap.size 1 A2 n2 (bs.map B)) (hc : n ≤ c) (hc2 : n2 ≤ c2) (hn : n ≤ 1099511627776) (hn2 : n2 ≤ 1000000) (ht : Tabs w) :
    Calls Tryd.prog 92 #[.slice A n c, .slice A2 n2 c2] w fun e w' => e = .returned (.agg xs.toArray) ∧ Below w.heap.size w w' := by
  have HS := Lib.hid hs; have HT := Lib.hid ht; have HD := Lib.hid hx; have HS2 := Lib.hid hs2
  have HB := Lib.hid (Below.refl w.heap.size w)
  have HL2 := Lib.hid (show bs.length = n2 by have := hs2.len; simpa using this)
  clear hs ht hx hs2
  have HG := Lib.hid (Nat.le_refl w.heap.size)
  obtain ⟨ps, hps⟩ : ∃ ps, ps = (padB key).map B := ⟨_, rfl⟩
  have HPD := Lib.hid (show Pad ps (padB key) by rw [hps]; exact Pad.padB key)
  obtain ⟨ys, hys⟩ : ∃ ys, ys = (sha ((padB key).map (· ^^^ 54) ++ bs)).map B := ⟨_, rfl⟩
  have HY := Lib.hid (show Dig ys _ by rw [hys]; exact Dig.sha _)
  have HPL := Lib.hid (padB_length key)
  have hrid := row_id
  have HRI := Lib.hid hrid
  clear hps hys hrid
  go_enter Tryd.func92, Tryd.ntmps92
  go_wp2_with (first | (with_reducible refine wpl_alloc (o := ⟨some 4, _, _, _, _, _⟩) rfl rfl zero_id ?_))
  intro w2_ hb2_ hb_ hsz2_
  have HX_ := Lib.hid (at_mk hb2_ len_id)
  clear hb2_ hsz2_
  have HB_ := Lib.hid (HB.out.grow' hb_)
  clear HB
  have HB := HB_
  clear HB_
  have HS_ := Lib.hid (HS.out.grow hb_)
  clear HS
  have HS := HS_
  clear HS_
  have HS2_ := Lib.hid (HS2.out.grow hb_)
  clear HS2
  have HS2 := HS2_
  clear HS2_
  have HT_ := Lib.hid (HT.out.grow hb_)
  clear HT
  have HT := HT_
  clear HT_
  have HR := HX_
  clear hb_ HX_
  try clear w_
  rename World => w_
  go_wp2_with fail
  refine (fill_any _ _ _ _ HPD.out _ HS.out hc hn HT.out).mono ?_
  rintro e w_ ⟨rfl, hb_⟩
  have HB_ := Lib.hid (HB.out.grow' hb_)
  clear HB
  have HB := HB_
  clear HB_
  have HR_ := Lib.hid (HR.out.grow hb_)
  clear HR
  have HR := HR_
  clear HR_
  have HS2_ := Lib.hid (HS2.out.grow hb_)
  clear HS2
  have HS2 := HS2_
  clear HS2_
  have HT_ := Lib.hid (HT.out.grow hb_)
  clear HT
  have HT := HT_
  clear HT_
  clear hb_
  go_wp2_with (first | (with_reducible refine wpl_alloc (o := ⟨some 5, _, _, _, _, _⟩) rfl rfl zero_pad ?_))
  intro w1_ hb1_ hbw1_ hsz1_
  have HB1_ := Lib.hid (at_mk hb1_ len_pad)
  have HBW1_ := Lib.hid hbw1_
  have HZ1_ := Lib.hid hsz1_
  clear hb1_ hbw1_ hsz1_
  go_wp2_with (first | (with_reducible refine wpl_storeb (o := ⟨none, .store _ _ _, _, _, _, _⟩) rfl rfl row_pad HB1_.out.blk rfl rfl HB1_.out.len HPD.out.len HPD.out.one ?_))
  intro w2_ hb2_ hg2_ hsz2_
  have hb_ := var_grow HBW1_.out HZ1_.out hg2_
  have HX_ := Lib.hid (at_mk hb2_ HPD.out.len)
  clear hb2_ hg2_ hsz2_ HB1_ HBW1_ HZ1_
  have HB_ := Lib.hid (HB.out.grow' hb_)
  clear HB
  have HB := HB_
  clear HB_
  have HR_ := Lib.hid (HR.out.grow hb_)
  clear HR
  have HR := HR_
  clear HR_
  have HS2_ := Lib.hid (HS2.out.grow hb_)
  clear HS2
  have HS2 := HS2_
  clear HS2_
  have HT_ := Lib.hid (HT.out.grow hb_)
  clear HT
  have HT := HT_
  clear HT_
  generalize hg_ : w_.heap.size = gv at HX_ ⊢
  clear hg_
  have HV := HX_
  clear hb_ HX_
  clear w1_
  try clear w_
  rename World => w_
  go_wp2_with (first | (with_reducible refine wpl_loadb (o := ⟨some 9, _, _, _, _, _⟩) rfl rfl row_pad HV.out.blk rfl HV.out.len ?_))
  go_wp2_with fail
  refine (turned_any HPD.out 54 _).mono ?_
  rintro e w_ ⟨g1, rfl, hs_, hb_⟩
  have HB_ := Lib.hid (HB.out.grow' hb_)
  clear HB
  have HB := HB_
  clear HB_
  have HR_ := Lib.hid (HR.out.grow hb_)
  clear HR
  have HR := HR_
  clear HR_
  have HV_ := Lib.hid (HV.out.grow hb_)
  clear HV
  have HV := HV_
  clear HV_
  have HS2_ := Lib.hid (HS2.out.grow hb_)
  clear HS2
  have HS2 := HS2_
  clear HS2_
  have HT_ := Lib.hid (HT.out.grow hb_)
  clear HT
  have HT := HT_
  clear HT_
  clear hb_
  have HS1 := Lib.hid hs_
  clear hs_
  go_wp2_with fail
  generalize hw_ : World.alloc w_ _ = w2_
  obtain ⟨hX_, hb_, hs_⟩ := alloc_eq hw_
  generalize hg_ : w_.heap.size = g2 at hX_ hs_ ⊢
  have HX := Lib.hid hX_
  clear hw_ hX_
  have HB_ := Lib.hid (HB.out.grow' hb_)
  clear HB
  have HB := HB_
  clear HB_
  have HR_ := Lib.hid (HR.out.grow hb_)
  clear HR
  have HR := HR_
  clear HR_
  have HV_ := Lib.hid (HV.out.grow hb_)
  clear HV
  have HV := HV_
  clear HV_
  have HS2_ := Lib.hid (HS2.out.grow hb_)
  clear HS2
  have HS2 := HS2_
  clear HS2_
  have HT_ := Lib.hid (HT.out.grow hb_)
  clear HT
  have HT := HT_
  clear HT_
  have HS1_ := Lib.hid (HS1.out.grow hb_)
  clear HS1
  have HS1 := HS1_
  clear HS1_
  clear hb_ hs_
  clear hg_
  try clear w_
  rename World => w_
  have HP := Lib.hid (show Parts w_ w_.heap.size (some ⟨g2, 0, none⟩) 2 [(.slice (some ⟨g1, 0, none⟩) 64 64, (padB key).map (· ^^^ 54)), (.slice A2 n2 c2, bs)] from
    parts_blk HX.out rfl (by intro p hp; simp only [List.mem_cons, List.not_mem_nil, or_false] at hp; rcases hp with rfl | rfl; exact part_mk HS1.out (by omega); exact part_mk HS2.out hc2))
  go_wp2_with fail
  refine (dsum_any _ _ _ _ HY.out (by simp [cat]) _ HP.out (by omega) (by rw [List.length_append, List.length_map, HPL.out, HL2.out]; omega) HT.out).mono ?_
  rintro e w_ ⟨rfl, hb_⟩
  have HB_ := Lib.hid (HB.out.grow' hb_)
  clear HB
  have HB := HB_
  clear HB_
  have HR_ := Lib.hid (HR.out.grow hb_)
  clear HR
  have HR := HR_
  clear HR_
  have HV_ := Lib.hid (HV.out.grow hb_)
  clear HV
  have HV := HV_
  clear HV_
  have HT_ := Lib.hid (HT.out.grow hb_)
  clear HT
  have HT := HT_
  clear HT_
  clear hb_
  clear HP HX HS1
  go_wp2_with (first | (with_reducible refine wpl_alloc (o := ⟨some 6, _, _, _, _, _⟩) rfl rfl zero_id ?_))
  intro w1_ hb1_ hbw1_ hsz1_
  have HB1_ := Lib.hid (at_mk hb1_ len_id)
  have HBW1_ := Lib.hid hbw1_
  have HZ1_ := Lib.hid hsz1_
  clear hb1_ hbw1_ hsz1_
  go_wp2_with (first | (with_reducible refine wpl_storeb (o := ⟨none, .store _ _ _, _, _, _, _⟩) rfl rfl row_id HB1_.out.blk rfl rfl HB1_.out.len HY.out.len HY.out.one ?_))
  intro w2_ hb2_ hg2_ hsz2_
  have hb_ := var_grow HBW1_.out HZ1_.out hg2_
  have HX_ := Lib.hid (at_mk hb2_ HY.out.len)
  clear hb2_ hg2_ hsz2_ HB1_ HBW1_ HZ1_
  have HB_ := Lib.hid (HB.out.grow' hb_)
  clear HB
  have HB := HB_
  clear HB_
  have HR_ := Lib.hid (HR.out.grow hb_)
  clear HR
  have HR := HR_
  clear HR_
  have HV_ := Lib.hid (HV.out.grow hb_)
  clear HV
  have HV := HV_
  clear HV_
  have HT_ := Lib.hid (HT.out.grow hb_)
  clear HT
  have HT := HT_
  clear HT_
  generalize hg_ : w_.heap.size = gw at HX_ ⊢
  clear hg_
  have HW := HX_
  clear hb_ HX_
  clear w1_
  try clear w_
  rename World => w_
  try go_wp2_with fail
  repeat' (first | (with_reducible refine wp_plan (id := 3) Grow [2,3,0,3,3,3] (.get 0 (.get 2 (.act 1 (.act 3 (.act 4 (.act 5 .done)))))) (by kernel_rfl) (by kernel_rfl) Grow.refl Grow.trans ?_) | go_values | go_skip | go_guarded | go_step | go_upon | go_back)
  intro w_ hd_
  have hb_ := hd_.grow
  have HB_ := Lib.hid (HB.out.grow' hb_)
  clear HB
  have HB := HB_
  clear HB_
  have HR_ := Lib.hid (HR.out.grow hb_)
  clear HR
  have HR := HR_
  clear HR_
  have HV_ := Lib.hid (HV.out.grow hb_)
  clear HV
  have HV := HV_
  clear HV_
  have HW_ := Lib.hid (HW.out.grow hb_)
  clear HW
  have HW := HW_
  clear HW_
  have HT_ := Lib.hid (HT.out.grow hb_)
  clear HT
  have HT := HT_
  clear HT_
  clear hb_ hd_
  repeat (first | (refine pl_calm rfl rfl (by first | exact wanted_none rfl | (go_simp; done) | rfl) (fun w_ => by first | (go_simp; rfl) | (go_simp; done) | rfl) (fun K hK => ?_); go_simp; refine hK _ _ ?_; clear hK K) | (refine pl_skip rfl (by first | (go_simp; done) | rfl) (fun K hK => ?_); go_simp; refine hK _ _ ?_; clear hK K) | (refine pl_skipa rfl (by first | (go_simp; done) | rfl) (fun K hK => ?_); go_simp; refine hK _ _ ?_; clear hK K) | (refine pl_loadb rfl rfl (by first | exact wanted_none rfl | (go_simp; done) | rfl) rfl row_pad HV.out.blk (by first | rfl | (go_simp; done) | rfl) HV.out.len (fun K hK => ?_); go_simp; refine hK _ _ ?_; clear hK K) | (refine pl_loadbnow rfl rfl (by first | exact wanted_none rfl | (go_simp; done) | rfl) rfl row_pad HV.out.blk (by first | rfl | (go_simp; done) | rfl) HV.out.len (fun K hK => ?_); go_simp; refine hK _ _ ?_; clear hK K))
  refine pl_act rfl (by first | exact wanted_none rfl | (go_simp; done) | rfl) (fun K hK => ?_)
  go_wp2_with fail
  refine (turned_any HPD.out 92 _).mono ?_
  rintro e w_ ⟨g3, rfl, hs_, hb_⟩
  go_wp2_with fail
  refine hK _ _ (fun _ => hb_) ?_
  clear hK K
  have HB_ := Lib.hid (HB.out.grow' hb_)
  clear HB
  have HB := HB_
  clear HB_
  have HR_ := Lib.hid (HR.out.grow hb_)
  clear HR
  have HR := HR_
  clear HR_
  have HW_ := Lib.hid (HW.out.grow hb_)
  clear HW
  have HW := HW_
  clear HW_
  have HT_ := Lib.hid (HT.out.grow hb_)
  clear HT
  have HT := HT_
  clear HT_
  clear hb_
  have HS1 := Lib.hid hs_
  clear hs_
  repeat (first | (refine pl_calm rfl rfl (by first | exact wanted_none rfl | (go_simp; done) | rfl) (fun w_ => by first | (go_simp; rfl) | (go_simp; done) | rfl) (fun K hK => ?_); go_simp; refine hK _ _ ?_; clear hK K) | (refine pl_skip rfl (by first | (go_simp; done) | rfl) (fun K hK => ?_); go_simp; refine hK _ _ ?_; clear hK K) | (refine pl_skipa rfl (by first | (go_simp; done) | rfl) (fun K hK => ?_); go_simp; refine hK _ _ ?_; clear hK K))
  refine pl_act rfl (by first | exact wanted_none rfl | (go_simp; done) | rfl) (fun K hK => ?_)
  go_wp2_with fail
  generalize hw_ : World.alloc w_ _ = w2_
  obtain ⟨hX_, hb_, hs_⟩ := alloc_eq hw_
  generalize hg_ : w_.heap.size = g4 at hX_ hs_ ⊢
  refine hK _ _ (fun _ => hb_) ?_
  have HX := Lib.hid hX_
  clear hK K hw_ hX_
  have HB_ := Lib.hid (HB.out.grow' hb_)
  clear HB
  have HB := HB_
  clear HB_
  have HR_ := Lib.hid (HR.out.grow hb_)
  clear HR
  have HR := HR_
  clear HR_
  have HW_ := Lib.hid (HW.out.grow hb_)
  clear HW
  have HW := HW_
  clear HW_
  have HT_ := Lib.hid (HT.out.grow hb_)
  clear HT
  have HT := HT_
  clear HT_
  have HS1_ := Lib.hid (HS1.out.grow hb_)
  clear HS1
  have HS1 := HS1_
  clear HS1_
  clear hb_ hg_ hs_
  clear w_
  rename World => w_
  have HP := Lib.hid (show Parts w_ w_.heap.size (some ⟨g4, 0, none⟩) 2 [(.slice (some ⟨g3, 0, none⟩) 64 64, (padB key).map (· ^^^ 92)), (.slice (some ⟨gw, 0, none⟩) 32 32, sha ((padB key).map (· ^^^ 54) ++ bs))] from
    parts_blk HX.out rfl (by intro p hp; simp only [List.mem_cons, List.not_mem_nil, or_false] at hp; rcases hp with rfl | rfl; exact part_mk HS1.out (by omega); exact part_mk (HY.out.bytes HW.out.sl) (by omega)))
  refine pl_act rfl (by first | exact wanted_none rfl | (go_simp; done) | rfl) (fun K hK => ?_)
  go_wp2_with fail
  refine (dsum_any _ _ _ _ HD.out (by simp [cat]) _ HP.out (by omega) (by rw [List.length_append, List.length_map, HPL.out, sha_length]; omega) HT.out).mono ?_
  rintro e w_ ⟨rfl, hb_⟩
  go_wp2_with fail
  refine hK _ _ (fun _ => hb_) ?_
  clear hK K
  have HB_ := Lib.hid (HB.out.grow' hb_)
  clear HB
  have HB := HB_
  clear HB_
  have HR_ := Lib.hid (HR.out.grow hb_)
  clear HR
  have HR := HR_
  clear HR_
  clear hb_
  clear HP
  refine pl_act rfl (by first | exact wanted_none rfl | (go_simp; done) | rfl) (fun K hK => ?_)
  show wpList _ _ _ [⟨none, .store _ _ _, _, _, _, _⟩] _ _
  go_wp2_with (first | (with_reducible refine wpl_storeb (o := ⟨none, .store _ _ _, _, _, _, _⟩) rfl rfl row_id HR.out.blk rfl rfl HR.out.len HD.out.len HD.out.one ?_))
  intro w2_ hb2_ hg2_ hsz2_
  have HB_ := Lib.hid (put_below HB.out HG.out hg2_)
  have HX_ := Lib.hid (at_mk hb2_ HD.out.len)
  clear hb2_ hg2_ hsz2_ HB HR
  have HB := HB_
  have HR := HX_
  clear HB_ HX_
  try clear w_
  rename World => w_
  go_wp2_with fail
  refine hK _ _ (fun h => by cases h) ?_
  clear hK K
  refine pl_done ?_
  go_wp2_with fail
  exact ret_cell rfl HRI.out HR.out.blk rfl HR.out.len rfl ⟨rfl, HB.out⟩

theorem same_dig {xs ys : List Value} {a b : List UInt8} (h : Dig xs a) (k : Dig ys b) (w : World) : Calls Tryd.prog 68 #[.agg xs.toArray, .agg ys.toArray] w fun e w' => e = .returned (.bool (decide (a = b))) ∧ Below w.heap.size w w' := by
  rw [h.1, k.1]; exact same_any a b w h.2 k.2

set_option maxRecDepth 100000 in
set_option maxHeartbeats 1000000 in
theorem tis_any (A A2 : Option Addr) (n c n2 c2 : Nat) (key bs t : List UInt8) {xs : List Value} (hx : Dig xs t) (w : World) (hs : Sl w w.heap.size 1 A n (key.map B)) (hs2 : Sl w w.heap.size 1 A2 n2 (bs.map B)) (hc : n ≤ c) (hc2 : n2 ≤ c2) (hn : n ≤ 1099511627776) (hn2 : n2 ≤ 1000000) (ht : Tabs w) :
    Calls Tryd.prog 135 #[.slice A n c, .slice A2 n2 c2, .agg xs.toArray] w fun e w' => e = .returned (.bool (decide (tagB key bs = t))) ∧ Below w.heap.size w w' := by
  have HS := Lib.hid hs; have HT := Lib.hid ht; have HD := Lib.hid hx; have HS2 := Lib.hid hs2
  have HB := Lib.hid (Below.refl w.heap.size w)
  clear hs ht hx hs2
  obtain ⟨ys, hys⟩ : ∃ ys, ys = (tagB key bs).map B := ⟨_, rfl⟩
  have HY := Lib.hid (show Dig ys (tagB key bs) from ⟨hys, tagB_length _ _⟩)
  clear hys
  go_enter Tryd.func135, Tryd.ntmps135
  go_wp2_with (first | (with_reducible refine wpl_box (o := ⟨some 5, _, _, _, _, _⟩) rfl rfl rfl ?_))
  intro w2_ hb2_ hb_ hsz2_
  have HX_ := Lib.hid (at_mk hb2_ HD.out.len)
  clear hb2_ hsz2_
  have HB_ := Lib.hid (HB.out.grow' hb_)
  clear HB
  have HB := HB_
  clear HB_
  have HS_ := Lib.hid (HS.out.grow hb_)
  clear HS
  have HS := HS_
  clear HS_
  have HS2_ := Lib.hid (HS2.out.grow hb_)
  clear HS2
  have HS2 := HS2_
  clear HS2_
  have HT_ := Lib.hid (HT.out.grow hb_)
  clear HT
  have HT := HT_
  clear HT_
  have HV := HX_
  clear hb_ HX_
  try clear w_
  rename World => w_
  try go_wp2_with fail
  repeat' (first | (with_reducible refine wp_plan (id := 1) Grow [0,0,4,1,3,0] (.get 0 (.get 1 (.get 3 (.act 2 (.act 4 (.get 5 .done)))))) (by kernel_rfl) (by kernel_rfl) Grow.refl Grow.trans ?_) | go_values | go_skip | go_guarded | go_step | go_upon | go_back)
  intro w_ hd_
  have hb_ := hd_.grow
  have HB_ := Lib.hid (HB.out.grow' hb_)
  clear HB
  have HB := HB_
  clear HB_
  have HV_ := Lib.hid (HV.out.grow hb_)
  clear HV
  have HV := HV_
  clear HV_
  have HS_ := Lib.hid (HS.out.grow hb_)
  clear HS
  have HS := HS_
  clear HS_
  have HS2_ := Lib.hid (HS2.out.grow hb_)
  clear HS2
  have HS2 := HS2_
  clear HS2_
  have HT_ := Lib.hid (HT.out.grow hb_)
  clear HT
  have HT := HT_
  clear HT_
  clear hb_ hd_
  repeat (first | (refine pl_calm rfl rfl (by first | exact wanted_none rfl | (go_simp; done) | rfl) (fun w_ => by first | (go_simp; rfl) | (go_simp; done) | rfl) (fun K hK => ?_); go_simp; refine hK _ _ ?_; clear hK K) | (refine pl_skip rfl (by first | (go_simp; done) | rfl) (fun K hK => ?_); go_simp; refine hK _ _ ?_; clear hK K) | (refine pl_skipa rfl (by first | (go_simp; done) | rfl) (fun K hK => ?_); go_simp; refine hK _ _ ?_; clear hK K) | (refine pl_loadb rfl rfl (by first | exact wanted_none rfl | (go_simp; done) | rfl) rfl row_id HV.out.blk (by first | rfl | (go_simp; done) | rfl) HV.out.len (fun K hK => ?_); go_simp; refine hK _ _ ?_; clear hK K) | (refine pl_loadbnow rfl rfl (by first | exact wanted_none rfl | (go_simp; done) | rfl) rfl row_id HV.out.blk (by first | rfl | (go_simp; done) | rfl) HV.out.len (fun K hK => ?_); go_simp; refine hK _ _ ?_; clear hK K))
  refine pl_act rfl (by first | exact wanted_none rfl | (go_simp; done) | rfl) (fun K hK => ?_)
  go_wp2_with fail
  refine (tof_any _ _ _ _ _ _ _ _ HY.out _ HS.out HS2.out hc hc2 hn hn2 HT.out).mono ?_
  rintro e w_ ⟨rfl, hb_⟩
  go_wp2_with fail
  refine hK _ _ (fun _ => hb_) ?_
  clear hK K
  have HB_ := Lib.hid (HB.out.grow' hb_)
  clear HB
  have HB := HB_
  clear HB_
  clear hb_
  repeat (first | (refine pl_calm rfl rfl (by first | exact wanted_none rfl | (go_simp; done) | rfl) (fun w_ => by first | (go_simp; rfl) | (go_simp; done) | rfl) (fun K hK => ?_); go_simp; refine hK _ _ ?_; clear hK K) | (refine pl_skip rfl (by first | (go_simp; done) | rfl) (fun K hK => ?_); go_simp; refine hK _ _ ?_; clear hK K) | (refine pl_skipa rfl (by first | (go_simp; done) | rfl) (fun K hK => ?_); go_simp; refine hK _ _ ?_; clear hK K))
  refine pl_act rfl (by first | exact wanted_none rfl | (go_simp; done) | rfl) (fun K hK => ?_)
  go_wp2_with fail
  refine (same_dig HY.out HD.out _).mono ?_
  rintro e w_ ⟨rfl, hb_⟩
  go_wp2_with fail
  refine hK _ _ (fun _ => hb_) ?_
  clear hK K
  have HB_ := Lib.hid (HB.out.grow' hb_)
  clear HB
  have HB := HB_
  clear HB_
  clear hb_
  repeat (first | (refine pl_calm rfl rfl (by first | exact wanted_none rfl | (go_simp; done) | rfl) (fun w_ => by first | (go_simp; rfl) | (go_simp; done) | rfl) (fun K hK => ?_); go_simp; refine hK _ _ ?_; clear hK K) | (refine pl_skip rfl (by first | (go_simp; done) | rfl) (fun K hK => ?_); go_simp; refine hK _ _ ?_; clear hK K) | (refine pl_skipa rfl (by first | (go_simp; done) | rfl) (fun K hK => ?_); go_simp; refine hK _ _ ?_; clear hK K))
  refine pl_done ?_
  go_wp2_with fail
  go_ret
  exact ⟨rfl, HB.out⟩

end Go.Proofs.YtphmefhnffoafaaDoor

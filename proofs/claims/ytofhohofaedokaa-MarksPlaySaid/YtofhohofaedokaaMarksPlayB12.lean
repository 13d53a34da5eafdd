/- Contracts of the document's Put of headers and entries. Printed by mkhdrd.py. -/
import Derived.Test.YtofhohofaedokaaMarksPlayB11
import Derived.Test.YtofhohofaedokaaMarksPlayB10
import Derived.Test.YtofhohofaedokaaMarksPlayB6
import Derived.Test.YtofhohofaedokaaMarksPlayB1
set_option linter.unusedSimpArgs false
/- Contracts of the document's Put of headers and entries. Printed by mkhdrd.py. -/
namespace Go.Proofs.Ytofhohofaedokaa
open Go.RowKit Go.Shelf
set_option linter.unusedVariables false
theorem own_blk_far {w w2 : World} {base n c g : Nat} {A : Option Addr} {xs : List Value} {t : TypeId} {cs : List Value} (ho : w.ownsRow (g + 1) 5 1 (.slice A n c) n xs) (hg : w.grownBy w2 (A.map Addr.block)) (hb : Blk w g t cs) : Blk w2 g t cs :=
  hb.grown hg (fun e => by have := own_from ho g e.symm; omega)
theorem own_below_far {w0 w w2 : World} {n c g : Nat} {A : Option Addr} {xs : List Value} (ho : w.ownsRow (g + 1) 5 1 (.slice A n c) n xs) (hg : w.grownBy w2 (A.map Addr.block)) (hb : Grow w0 w) (hw : w0.heap.size ≤ g) : Grow w0 w2 :=
  below_grown hb hg hb.size (fun k hk => by have := own_from ho k hk; omega)

set_option maxRecDepth 100000 in
set_option maxHeartbeats 2000000 in
theorem rhput_any (x : Hdr) (w : World) (hx : x.ok) (hr : rightH x = true) : Calls Try.prog 62 #[.agg (hdrV x).toArray] w fun e w' => ∃ A c, e = .returned (.slice A (putHB x).length c) ∧ Sl w' w'.heap.size 1 A (putHB x).length ((putHB x).map B) ∧ (putHB x).length ≤ c ∧ Grow w w' := by
  have HXO := Lib.hid hx
  have HL := Lib.hid (hdrV_length hx)
  obtain ⟨⟨hs1, hs2⟩, ⟨hh1, hh2⟩, hp1, hp2⟩ := rightH_iff.1 hr
  obtain ⟨_, _, _, hpl, hrl⟩ := hx
  obtain ⟨xs, xh, xp, prev, root⟩ := x
  obtain ⟨ns, rfl⟩ := nat_of hs1
  obtain ⟨nh, rfl⟩ := nat_of (show 0 ≤ xh by simp only at hh1; omega)
  obtain ⟨np, rfl⟩ := nat_of hp1
  simp only at hs2 hh1 hh2 hp2 hpl hrl
  have us := conv_u64 (n := ns) (by omega); have uh := conv_u64 (n := nh) (by omega); have up := conv_u64 (n := np) (by omega)
  have ls := numB_le (n := ns) (by omega); have lh := numB_le (n := nh) (by omega); have lp := numB_le (n := np) (by omega)
  have HFE := Lib.hid (show putHB ⟨(ns : Int), (nh : Int), (np : Int), prev, root⟩ = numB ns ++ numB nh ++ numB np ++ prev ++ root by unfold putHB; simp only [Int.toNat_natCast])
  clear hr
  obtain ⟨cs, hcs⟩ : ∃ cs, cs = hdrV ⟨(ns : Int), (nh : Int), (np : Int), prev, root⟩ := ⟨_, rfl⟩
  have HCS := Lib.hid hcs
  rw [← hcs]
  rw [← hcs] at HL
  clear hcs
  obtain ⟨gh, hgh⟩ : ∃ gh, gh = w.heap.size := ⟨_, rfl⟩
  have HG := Lib.hid hgh
  have HGW := Lib.hid (show w.heap.size ≤ gh by omega)
  go_enter Try.func62, Try.ntmps62
  go_wp2_with (first | (with_reducible refine wpl_box (o := ⟨some 1, _, _, _, _, _⟩) rfl rfl rfl ?_))
  intro w_ hb1 hbw1 hsz1
  rw [← hgh] at hb1 hbw1 hsz1 ⊢
  have HH := Lib.hid hb1
  rw [HCS.out] at HH
  have HB := Lib.hid (show Grow w w_ by rw [hgh] at hbw1; exact hbw1)
  clear hb1 hbw1 hsz1 hgh HCS
  try go_wp2_with fail
  repeat' (first | (with_reducible refine wp_plan (id := 1) Grow [0,2,0,4,0,1,0,3,3,0] (.get 0 (.get 1 (.get 2 (.get 4 (.get 5 (.get 6 (.act 3 (.act 7 (.act 8 (.get 9 .done)))))))))) (by kernel_rfl) (by kernel_rfl) Grow.refl Grow.trans ?_) | go_values | go_skip | go_guarded | go_step | go_upon | go_back)
  intro w_ hd_
  have hb_ := hd_.grow
  have HB_ := Lib.hid (HB.out.grow' hb_)
  clear HB
  have HB := HB_
  clear HB_
  have HH_ := Lib.hid (HH.out.grow hb_)
  clear HH
  have HH := HH_
  clear HH_
  clear hb_ hd_
  have c0 := Lib.hid (HH.out.at_ (hdr_at HXO.out).1)
  have c1 := Lib.hid (HH.out.at_ (hdr_at HXO.out).2.1)
  repeat (first | (refine pl_calm rfl rfl (by first | exact wanted_none rfl | (go_simp; done) | rfl) (fun w_ => by first | (go_simp; rfl) | (go_simp; done) | rfl) (fun K hK => ?_); go_simp; refine hK _ _ ?_; clear hK K) | (refine pl_skip rfl (by first | (go_simp; done) | rfl) (fun K hK => ?_); go_simp; refine hK _ _ ?_; clear hK K) | (refine pl_skipa rfl (by first | (go_simp; done) | rfl) (fun K hK => ?_); go_simp; refine hK _ _ ?_; clear hK K) | (refine pl_load rfl rfl (by first | exact wanted_none rfl | (go_simp; done) | rfl) rfl (by first | rfl | (go_simp; rfl)) (by kernel_rfl) (by first | exact c0.out | exact c1.out) (fun K hK => ?_); go_simp; refine hK _ _ ?_; clear hK K) | (refine pl_loadnow rfl rfl (by first | exact wanted_none rfl | (go_simp; done) | rfl) rfl (by first | rfl | (go_simp; rfl)) (by kernel_rfl) (by first | exact c0.out | exact c1.out) (fun K hK => ?_); go_simp; refine hK _ _ ?_; clear hK K))
  clear c0 c1
  have HLT := Lib.hid (show gh + 1 ≤ w_.heap.size from HH.out.lt)
  refine pl_act rfl (by first | exact wanted_none rfl | (go_simp; done) | rfl) (fun K hK => ?_)
  go_wp2_with fail
  refine (rnum_any ns _ (by omega)).mono ?_
  rintro e w_ ⟨A1, d1, rfl, ho_, hc_, hb_⟩
  go_wp2_with fail
  refine hK _ _ (fun _ => hb_) ?_
  clear hK K
  have HB_ := Lib.hid (HB.out.grow' hb_)
  clear HB
  have HB := HB_
  clear HB_
  have HH_ := Lib.hid (HH.out.grow hb_)
  clear HH
  have HH := HH_
  clear HH_
  clear hb_
  have HO1 := Lib.hid ho_
  clear ho_ hc_
  refine pl_act rfl (by first | exact wanted_none rfl | (go_simp; done) | rfl) (fun K hK => ?_)
  go_wp2_with fail
  refine (rnum_any nh _ (by omega)).mono ?_
  rintro e w_ ⟨A2, d2, rfl, ho_, hc_, hb_⟩
  go_wp2_with fail
  refine hK _ _ (fun _ => hb_) ?_
  clear hK K
  have HB_ := Lib.hid (HB.out.grow' hb_)
  clear HB
  have HB := HB_
  clear HB_
  have HH_ := Lib.hid (HH.out.grow hb_)
  clear HH
  have HH := HH_
  clear HH_
  have HO1_ := Lib.hid (HO1.out.grow hb_)
  clear HO1
  have HO1 := HO1_
  clear HO1_
  clear hb_
  have HSL := Lib.hid (Sl.of_own ho_)
  clear ho_ hc_
  refine pl_act rfl (by exact wanted_none rfl) (fun K hK => ?_)
  have HONE := Lib.hid (all_bytes (numB nh))
  have HO2 := Lib.hid (own_base HO1.out (show gh + 1 ≤ _ from HLT.out))
  clear HO1
  refine wpl_apps rfl rfl el_u8 HO2.out rfl HSL.out rfl HONE.out (by omega) (by omega) (by have := HH.out.lt; omega) ?_
  intro A1 c1 w3 ho_ hg_ hA_
  obtain ⟨n1, hn3⟩ : ∃ k, k = (numB ns).length + (numB nh).length := ⟨_, rfl⟩
  obtain ⟨ac1, hac⟩ : ∃ k, k = numB ns ++ numB nh := ⟨_, rfl⟩
  rw [← hn3] at ho_ ⊢
  have HO_ := Lib.hid (show w3.ownsRow (gh + 1) 5 1 (.slice A1 n1 c1) n1 (ac1.map B) by rw [hac, List.map_append]; exact ho_)
  have HN_ := Lib.hid (show n1 = ac1.length by rw [hac, List.length_append, hn3])
  have HL_ := Lib.hid (show n1 ≤ 64 by rw [hn3]; omega)
  have HAC1 := Lib.hid hac
  have HH_ := Lib.hid (own_blk_far (base := 0) HO2.out hg_ HH.out)
  have HB_ := Lib.hid (own_below_far HO2.out hg_ HB.out HGW.out)
  clear ho_ hg_ hA_ hn3 hac HH HB HO2 HSL HONE
  have HO := HO_; have HN := HN_; have HH := HH_; have HB := HB_; have HNL := HL_
  clear HO_ HN_ HH_ HB_ HL_
  try clear w_
  rename World => w_
  go_wp2_with fail
  refine hK _ _ (fun h => by cases h) ?_
  clear hK K
  repeat (first | (refine pl_calm rfl rfl (by first | exact wanted_none rfl | (go_simp; done) | rfl) (fun w_ => by first | (go_simp; rfl) | (go_simp; done) | rfl) (fun K hK => ?_); go_simp; refine hK _ _ ?_; clear hK K) | (refine pl_skip rfl (by first | (go_simp; done) | rfl) (fun K hK => ?_); go_simp; refine hK _ _ ?_; clear hK K) | (refine pl_skipa rfl (by first | (go_simp; done) | rfl) (fun K hK => ?_); go_simp; refine hK _ _ ?_; clear hK K))
  refine pl_done ?_
  have c0 := HH.out.at_ (hdr_at HXO.out).2.2
  go_wp2_with fail
  refine (rnum_any np _ (by omega)).mono ?_
  rintro e w2_ ⟨A2, d2, rfl, ho_, hc_, hb_⟩
  have HSL := Lib.hid (Sl.of_own ho_)
  have HONE := Lib.hid (all_bytes (numB np))
  clear ho_ hc_ c0
  have HH_ := Lib.hid (HH.out.grow hb_)
  have HB_ := Lib.hid (HB.out.grow' hb_)
  have HO_ := Lib.hid (HO.out.grow hb_)
  clear HH HB HO
  have HH := HH_
  have HB := HB_
  have HO := HO_
  clear HH_ HB_ HO_
  clear hb_
  try clear w_
  rename World => w_
  have hn_ := HNL.out
  have hgl_ := HH.out.lt
  go_wp2_with (at_builtin; refine wpl_apps rfl rfl el_u8 HO.out rfl HSL.out rfl HONE.out (by omega) (by omega) (by omega) ?_)
  clear hn_ hgl_
  intro A2 c2 w3 ho_ hg_ hA_
  obtain ⟨n2, hn3⟩ : ∃ k, k = n1 + (numB np).length := ⟨_, rfl⟩
  obtain ⟨ac2, hac⟩ : ∃ k, k = ac1 ++ numB np := ⟨_, rfl⟩
  rw [← hn3] at ho_ ⊢
  have HO_ := Lib.hid (show w3.ownsRow (gh + 1) 5 1 (.slice A2 n2 c2) n2 (ac2.map B) by rw [hac, List.map_append]; exact ho_)
  have HN_ := Lib.hid (show n2 = ac2.length by rw [hac, List.length_append, hn3, HN.out])
  have HL_ := Lib.hid (show n2 ≤ 96 by rw [hn3]; have := HNL.out; omega)
  have HAC2 := Lib.hid hac
  have HH_ := Lib.hid (own_blk_far (base := 0) HO.out hg_ HH.out)
  have HB_ := Lib.hid (own_below_far HO.out hg_ HB.out HGW.out)
  clear ho_ hg_ hA_ hn3 hac HH HB HO HSL HONE HN HNL
  have HO := HO_; have HN := HN_; have HH := HH_; have HB := HB_; have HNL := HL_
  clear HO_ HN_ HH_ HB_ HL_
  try clear w_
  rename World => w_
  have hm_ := midP HXO.out HH.out
  go_wp2_with (first | (with_reducible refine wpl_loadm (o := ⟨some 21, _, _, _, _, _⟩) rfl rfl row_aid hm_ rfl (by rw [List.length_map]; exact hpl) ?_))
  refine (tbytes_any (dig_map hpl) _).mono ?_
  rintro e w2_ ⟨A2, d2, rfl, hs_, hc_, hb_⟩
  have HSL := Lib.hid hs_
  have HONE := Lib.hid (all_bytes prev)
  clear hm_ hs_ hc_
  have HH_ := Lib.hid (HH.out.grow hb_)
  have HB_ := Lib.hid (HB.out.grow' hb_)
  have HO_ := Lib.hid (HO.out.grow hb_)
  clear HH HB HO
  have HH := HH_
  have HB := HB_
  have HO := HO_
  clear HH_ HB_ HO_
  clear hb_
  try clear w_
  rename World => w_
  have hn_ := HNL.out
  have hgl_ := HH.out.lt
  go_wp2_with (at_builtin; refine wpl_apps rfl rfl el_u8 HO.out rfl HSL.out rfl HONE.out (by omega) (by omega) (by omega) ?_)
  clear hn_ hgl_
  intro A3 c3 w3 ho_ hg_ hA_
  obtain ⟨n3, hn3⟩ : ∃ k, k = n2 + 32 := ⟨_, rfl⟩
  obtain ⟨ac3, hac⟩ : ∃ k, k = ac2 ++ prev := ⟨_, rfl⟩
  rw [← hn3] at ho_ ⊢
  have HO_ := Lib.hid (show w3.ownsRow (gh + 1) 5 1 (.slice A3 n3 c3) n3 (ac3.map B) by rw [hac, List.map_append]; exact ho_)
  have HN_ := Lib.hid (show n3 = ac3.length by rw [hac, List.length_append, hn3, HN.out, show prev.length = 32 from hpl])
  have HL_ := Lib.hid (show n3 ≤ 128 by rw [hn3]; have := HNL.out; omega)
  have HAC3 := Lib.hid hac
  have HH_ := Lib.hid (own_blk_far (base := 0) HO.out hg_ HH.out)
  have HB_ := Lib.hid (own_below_far HO.out hg_ HB.out HGW.out)
  clear ho_ hg_ hA_ hn3 hac HH HB HO HSL HONE HN HNL
  have HO := HO_; have HN := HN_; have HH := HH_; have HB := HB_; have HNL := HL_
  clear HO_ HN_ HH_ HB_ HL_
  try clear w_
  rename World => w_
  have hm_ := midR HXO.out HH.out
  go_wp2_with (first | (with_reducible refine wpl_loadm (o := ⟨some 26, _, _, _, _, _⟩) rfl rfl row_aid hm_ rfl (by rw [List.length_map]; exact hrl) ?_))
  refine (tbytes_any (dig_map hrl) _).mono ?_
  rintro e w2_ ⟨A2, d2, rfl, hs_, hc_, hb_⟩
  have HSL := Lib.hid hs_
  have HONE := Lib.hid (all_bytes root)
  clear hm_ hs_ hc_
  have HH_ := Lib.hid (HH.out.grow hb_)
  have HB_ := Lib.hid (HB.out.grow' hb_)
  have HO_ := Lib.hid (HO.out.grow hb_)
  clear HH HB HO
  have HH := HH_
  have HB := HB_
  have HO := HO_
  clear HH_ HB_ HO_
  clear hb_
  try clear w_
  rename World => w_
  have hn_ := HNL.out
  have hgl_ := HH.out.lt
  go_wp2_with (at_builtin; refine wpl_apps rfl rfl el_u8 HO.out rfl HSL.out rfl HONE.out (by omega) (by omega) (by omega) ?_)
  clear hn_ hgl_
  intro A4 c4 w3 ho_ hg_ hA_
  obtain ⟨n4, hn3⟩ : ∃ k, k = n3 + 32 := ⟨_, rfl⟩
  obtain ⟨ac4, hac⟩ : ∃ k, k = ac3 ++ root := ⟨_, rfl⟩
  rw [← hn3] at ho_ ⊢
  have HO_ := Lib.hid (show w3.ownsRow (gh + 1) 5 1 (.slice A4 n4 c4) n4 (ac4.map B) by rw [hac, List.map_append]; exact ho_)
  have HN_ := Lib.hid (show n4 = ac4.length by rw [hac, List.length_append, hn3, HN.out, show root.length = 32 from hrl])
  have HL_ := Lib.hid (show n4 ≤ 160 by rw [hn3]; have := HNL.out; omega)
  have HAC4 := Lib.hid hac
  have HH_ := Lib.hid (own_blk_far (base := 0) HO.out hg_ HH.out)
  have HB_ := Lib.hid (own_below_far HO.out hg_ HB.out HGW.out)
  clear ho_ hg_ hA_ hn3 hac HH HB HO HSL HONE HN HNL
  have HO := HO_; have HN := HN_; have HH := HH_; have HB := HB_; have HNL := HL_
  clear HO_ HN_ HH_ HB_ HL_
  try clear w_
  rename World => w_
  have HEQ := Lib.hid (show ac4 = numB ns ++ numB nh ++ numB np ++ prev ++ root by rw [HAC4.out, HAC3.out, HAC2.out, HAC1.out])
  go_wp2_with fail
  go_ret
  have ho := HO.out
  rw [HN.out, HEQ.out] at ho ⊢
  rw [HFE.out]
  exact ⟨_, _, rfl, Sl.of_own ho, own_cap1 ho, HB.out⟩
set_option maxRecDepth 100000 in
set_option maxHeartbeats 2000000 in
theorem reput_any (x : Ent) (w : World) (hx : x.ok) (hr : rightE x = true) : Calls Try.prog 61 #[.agg (entV x).toArray] w fun e w' => ∃ A c, e = .returned (.slice A (putEB x).length c) ∧ Sl w' w'.heap.size 1 A (putEB x).length ((putEB x).map B) ∧ (putEB x).length ≤ c ∧ Grow w w' := by
  have HXO := Lib.hid hx
  have HL := Lib.hid (entV_length hx)
  obtain ⟨⟨hk1, hk2⟩, ⟨hs1, hs2⟩, ha2, ⟨hy1, hy2⟩, hp1, hp2⟩ := rightE_iff.1 hr
  obtain ⟨_, _, htx, ⟨ha1, _⟩, _, _⟩ := hx
  obtain ⟨xk, xs, tx, xa, xy, xp⟩ := x
  obtain ⟨nk, rfl⟩ := nat_of (show 0 ≤ xk by simp only at hk1; omega)
  obtain ⟨ns, rfl⟩ := nat_of hs1
  obtain ⟨na, rfl⟩ := nat_of ha1
  obtain ⟨ny, rfl⟩ := nat_of hy1
  obtain ⟨np, rfl⟩ := nat_of hp1
  simp only at hk1 hk2 hs2 ha2 hy2 hp2 htx
  have uk := conv_u64 (n := nk) (by omega); have us := conv_u64 (n := ns) (by omega); have uy := conv_u64 (n := ny) (by omega); have up := conv_u64 (n := np) (by omega)
  have lk := numB_le (n := nk) (by omega); have ls := numB_le (n := ns) (by omega); have la := numB_le (n := na) (by omega); have ly := numB_le (n := ny) (by omega); have lp := numB_le (n := np) (by omega)
  have HFE := Lib.hid (show putEB ⟨(nk : Int), (ns : Int), tx, (na : Int), (ny : Int), (np : Int)⟩ = numB nk ++ numB ns ++ tx ++ numB na ++ numB ny ++ numB np by unfold putEB; simp only [Int.toNat_natCast])
  clear hr
  obtain ⟨cs, hcs⟩ : ∃ cs, cs = entV ⟨(nk : Int), (ns : Int), tx, (na : Int), (ny : Int), (np : Int)⟩ := ⟨_, rfl⟩
  have HCS := Lib.hid hcs
  rw [← hcs]
  rw [← hcs] at HL
  clear hcs
  obtain ⟨gh, hgh⟩ : ∃ gh, gh = w.heap.size := ⟨_, rfl⟩
  have HG := Lib.hid hgh
  have HGW := Lib.hid (show w.heap.size ≤ gh by omega)
  go_enter Try.func61, Try.ntmps61
  go_wp2_with (first | (with_reducible refine wpl_box (o := ⟨some 1, _, _, _, _, _⟩) rfl rfl rfl ?_))
  intro w_ hb1 hbw1 hsz1
  rw [← hgh] at hb1 hbw1 hsz1 ⊢
  have HH := Lib.hid hb1
  rw [HCS.out] at HH
  have HB := Lib.hid (show Grow w w_ by rw [hgh] at hbw1; exact hbw1)
  clear hb1 hbw1 hsz1 hgh HCS
  try go_wp2_with fail
  repeat' (first | (with_reducible refine wp_plan (id := 1) Grow [0,2,0,4,0,1,0,3,3,0] (.get 0 (.get 1 (.get 2 (.get 4 (.get 5 (.get 6 (.act 3 (.act 7 (.act 8 (.get 9 .done)))))))))) (by kernel_rfl) (by kernel_rfl) Grow.refl Grow.trans ?_) | go_values | go_skip | go_guarded | go_step | go_upon | go_back)
  intro w_ hd_
  have hb_ := hd_.grow
  have HB_ := Lib.hid (HB.out.grow' hb_)
  clear HB
  have HB := HB_
  clear HB_
  have HH_ := Lib.hid (HH.out.grow hb_)
  clear HH
  have HH := HH_
  clear HH_
  clear hb_ hd_
  have c0 := Lib.hid (HH.out.at_ (ent_at HXO.out).1)
  have c1 := Lib.hid (HH.out.at_ (ent_at HXO.out).2.1)
  repeat (first | (refine pl_calm rfl rfl (by first | exact wanted_none rfl | (go_simp; done) | rfl) (fun w_ => by first | (go_simp; rfl) | (go_simp; done) | rfl) (fun K hK => ?_); go_simp; refine hK _ _ ?_; clear hK K) | (refine pl_skip rfl (by first | (go_simp; done) | rfl) (fun K hK => ?_); go_simp; refine hK _ _ ?_; clear hK K) | (refine pl_skipa rfl (by first | (go_simp; done) | rfl) (fun K hK => ?_); go_simp; refine hK _ _ ?_; clear hK K) | (refine pl_load rfl rfl (by first | exact wanted_none rfl | (go_simp; done) | rfl) rfl (by first | rfl | (go_simp; rfl)) (by kernel_rfl) (by first | exact c0.out | exact c1.out) (fun K hK => ?_); go_simp; refine hK _ _ ?_; clear hK K) | (refine pl_loadnow rfl rfl (by first | exact wanted_none rfl | (go_simp; done) | rfl) rfl (by first | rfl | (go_simp; rfl)) (by kernel_rfl) (by first | exact c0.out | exact c1.out) (fun K hK => ?_); go_simp; refine hK _ _ ?_; clear hK K))
  clear c0 c1
  have HLT := Lib.hid (show gh + 1 ≤ w_.heap.size from HH.out.lt)
  refine pl_act rfl (by first | exact wanted_none rfl | (go_simp; done) | rfl) (fun K hK => ?_)
  go_wp2_with fail
  refine (rnum_any nk _ (by omega)).mono ?_
  rintro e w_ ⟨A1, d1, rfl, ho_, hc_, hb_⟩
  go_wp2_with fail
  refine hK _ _ (fun _ => hb_) ?_
  clear hK K
  have HB_ := Lib.hid (HB.out.grow' hb_)
  clear HB
  have HB := HB_
  clear HB_
  have HH_ := Lib.hid (HH.out.grow hb_)
  clear HH
  have HH := HH_
  clear HH_
  clear hb_
  have HO1 := Lib.hid ho_
  clear ho_ hc_
  refine pl_act rfl (by first | exact wanted_none rfl | (go_simp; done) | rfl) (fun K hK => ?_)
  go_wp2_with fail
  refine (rnum_any ns _ (by omega)).mono ?_
  rintro e w_ ⟨A2, d2, rfl, ho_, hc_, hb_⟩
  go_wp2_with fail
  refine hK _ _ (fun _ => hb_) ?_
  clear hK K
  have HB_ := Lib.hid (HB.out.grow' hb_)
  clear HB
  have HB := HB_
  clear HB_
  have HH_ := Lib.hid (HH.out.grow hb_)
  clear HH
  have HH := HH_
  clear HH_
  have HO1_ := Lib.hid (HO1.out.grow hb_)
  clear HO1
  have HO1 := HO1_
  clear HO1_
  clear hb_
  have HSL := Lib.hid (Sl.of_own ho_)
  clear ho_ hc_
  refine pl_act rfl (by exact wanted_none rfl) (fun K hK => ?_)
  have HONE := Lib.hid (all_bytes (numB ns))
  have HO2 := Lib.hid (own_base HO1.out (show gh + 1 ≤ _ from HLT.out))
  clear HO1
  refine wpl_apps rfl rfl el_u8 HO2.out rfl HSL.out rfl HONE.out (by omega) (by omega) (by have := HH.out.lt; omega) ?_
  intro A1 c1 w3 ho_ hg_ hA_
  obtain ⟨n1, hn3⟩ : ∃ k, k = (numB nk).length + (numB ns).length := ⟨_, rfl⟩
  obtain ⟨ac1, hac⟩ : ∃ k, k = numB nk ++ numB ns := ⟨_, rfl⟩
  rw [← hn3] at ho_ ⊢
  have HO_ := Lib.hid (show w3.ownsRow (gh + 1) 5 1 (.slice A1 n1 c1) n1 (ac1.map B) by rw [hac, List.map_append]; exact ho_)
  have HN_ := Lib.hid (show n1 = ac1.length by rw [hac, List.length_append, hn3])
  have HL_ := Lib.hid (show n1 ≤ 64 by rw [hn3]; omega)
  have HAC1 := Lib.hid hac
  have HH_ := Lib.hid (own_blk_far (base := 0) HO2.out hg_ HH.out)
  have HB_ := Lib.hid (own_below_far HO2.out hg_ HB.out HGW.out)
  clear ho_ hg_ hA_ hn3 hac HH HB HO2 HSL HONE
  have HO := HO_; have HN := HN_; have HH := HH_; have HB := HB_; have HNL := HL_
  clear HO_ HN_ HH_ HB_ HL_
  try clear w_
  rename World => w_
  go_wp2_with fail
  refine hK _ _ (fun h => by cases h) ?_
  clear hK K
  repeat (first | (refine pl_calm rfl rfl (by first | exact wanted_none rfl | (go_simp; done) | rfl) (fun w_ => by first | (go_simp; rfl) | (go_simp; done) | rfl) (fun K hK => ?_); go_simp; refine hK _ _ ?_; clear hK K) | (refine pl_skip rfl (by first | (go_simp; done) | rfl) (fun K hK => ?_); go_simp; refine hK _ _ ?_; clear hK K) | (refine pl_skipa rfl (by first | (go_simp; done) | rfl) (fun K hK => ?_); go_simp; refine hK _ _ ?_; clear hK K))
  refine pl_done ?_
  have hm_ := midE HXO.out HH.out
  go_wp2_with (first | (with_reducible refine wpl_loadm (o := ⟨some 15, _, _, _, _, _⟩) rfl rfl row_aid hm_ rfl (by rw [List.length_map]; exact htx) ?_))
  refine (tbytes_any (dig_map htx) _).mono ?_
  rintro e w2_ ⟨A2, d2, rfl, hs_, hc_, hb_⟩
  have HSL := Lib.hid hs_
  have HONE := Lib.hid (all_bytes tx)
  clear hm_ hs_ hc_
  have HH_ := Lib.hid (HH.out.grow hb_)
  have HB_ := Lib.hid (HB.out.grow' hb_)
  have HO_ := Lib.hid (HO.out.grow hb_)
  clear HH HB HO
  have HH := HH_
  have HB := HB_
  have HO := HO_
  clear HH_ HB_ HO_
  clear hb_
  try clear w_
  rename World => w_
  have hn_ := HNL.out
  have hgl_ := HH.out.lt
  go_wp2_with (at_builtin; refine wpl_apps rfl rfl el_u8 HO.out rfl HSL.out rfl HONE.out (by omega) (by omega) (by omega) ?_)
  clear hn_ hgl_
  intro A2 c2 w3 ho_ hg_ hA_
  obtain ⟨n2, hn3⟩ : ∃ k, k = n1 + 32 := ⟨_, rfl⟩
  obtain ⟨ac2, hac⟩ : ∃ k, k = ac1 ++ tx := ⟨_, rfl⟩
  rw [← hn3] at ho_ ⊢
  have HO_ := Lib.hid (show w3.ownsRow (gh + 1) 5 1 (.slice A2 n2 c2) n2 (ac2.map B) by rw [hac, List.map_append]; exact ho_)
  have HN_ := Lib.hid (show n2 = ac2.length by rw [hac, List.length_append, hn3, HN.out, show tx.length = 32 from htx])
  have HL_ := Lib.hid (show n2 ≤ 96 by rw [hn3]; have := HNL.out; omega)
  have HAC2 := Lib.hid hac
  have HH_ := Lib.hid (own_blk_far (base := 0) HO.out hg_ HH.out)
  have HB_ := Lib.hid (own_below_far HO.out hg_ HB.out HGW.out)
  clear ho_ hg_ hA_ hn3 hac HH HB HO HSL HONE HN HNL
  have HO := HO_; have HN := HN_; have HH := HH_; have HB := HB_; have HNL := HL_
  clear HO_ HN_ HH_ HB_ HL_
  try clear w_
  rename World => w_
  have c0 := HH.out.at_ (ent_at HXO.out).2.2.1
  go_wp2_with fail
  refine (rnum_any na _ (by omega)).mono ?_
  rintro e w2_ ⟨A2, d2, rfl, ho_, hc_, hb_⟩
  have HSL := Lib.hid (Sl.of_own ho_)
  have HONE := Lib.hid (all_bytes (numB na))
  clear ho_ hc_ c0
  have HH_ := Lib.hid (HH.out.grow hb_)
  have HB_ := Lib.hid (HB.out.grow' hb_)
  have HO_ := Lib.hid (HO.out.grow hb_)
  clear HH HB HO
  have HH := HH_
  have HB := HB_
  have HO := HO_
  clear HH_ HB_ HO_
  clear hb_
  try clear w_
  rename World => w_
  have hn_ := HNL.out
  have hgl_ := HH.out.lt
  go_wp2_with (at_builtin; refine wpl_apps rfl rfl el_u8 HO.out rfl HSL.out rfl HONE.out (by omega) (by omega) (by omega) ?_)
  clear hn_ hgl_
  intro A3 c3 w3 ho_ hg_ hA_
  obtain ⟨n3, hn3⟩ : ∃ k, k = n2 + (numB na).length := ⟨_, rfl⟩
  obtain ⟨ac3, hac⟩ : ∃ k, k = ac2 ++ numB na := ⟨_, rfl⟩
  rw [← hn3] at ho_ ⊢
  have HO_ := Lib.hid (show w3.ownsRow (gh + 1) 5 1 (.slice A3 n3 c3) n3 (ac3.map B) by rw [hac, List.map_append]; exact ho_)
  have HN_ := Lib.hid (show n3 = ac3.length by rw [hac, List.length_append, hn3, HN.out])
  have HL_ := Lib.hid (show n3 ≤ 128 by rw [hn3]; have := HNL.out; omega)
  have HAC3 := Lib.hid hac
  have HH_ := Lib.hid (own_blk_far (base := 0) HO.out hg_ HH.out)
  have HB_ := Lib.hid (own_below_far HO.out hg_ HB.out HGW.out)
  clear ho_ hg_ hA_ hn3 hac HH HB HO HSL HONE HN HNL
  have HO := HO_; have HN := HN_; have HH := HH_; have HB := HB_; have HNL := HL_
  clear HO_ HN_ HH_ HB_ HL_
  try clear w_
  rename World => w_
  have c0 := HH.out.at_ (ent_at HXO.out).2.2.2.1
  go_wp2_with fail
  refine (rnum_any ny _ (by omega)).mono ?_
  rintro e w2_ ⟨A2, d2, rfl, ho_, hc_, hb_⟩
  have HSL := Lib.hid (Sl.of_own ho_)
  have HONE := Lib.hid (all_bytes (numB ny))
  clear ho_ hc_ c0
  have HH_ := Lib.hid (HH.out.grow hb_)
  have HB_ := Lib.hid (HB.out.grow' hb_)
  have HO_ := Lib.hid (HO.out.grow hb_)
  clear HH HB HO
  have HH := HH_
  have HB := HB_
  have HO := HO_
  clear HH_ HB_ HO_
  clear hb_
  try clear w_
  rename World => w_
  have hn_ := HNL.out
  have hgl_ := HH.out.lt
  go_wp2_with (at_builtin; refine wpl_apps rfl rfl el_u8 HO.out rfl HSL.out rfl HONE.out (by omega) (by omega) (by omega) ?_)
  clear hn_ hgl_
  intro A4 c4 w3 ho_ hg_ hA_
  obtain ⟨n4, hn3⟩ : ∃ k, k = n3 + (numB ny).length := ⟨_, rfl⟩
  obtain ⟨ac4, hac⟩ : ∃ k, k = ac3 ++ numB ny := ⟨_, rfl⟩
  rw [← hn3] at ho_ ⊢
  have HO_ := Lib.hid (show w3.ownsRow (gh + 1) 5 1 (.slice A4 n4 c4) n4 (ac4.map B) by rw [hac, List.map_append]; exact ho_)
  have HN_ := Lib.hid (show n4 = ac4.length by rw [hac, List.length_append, hn3, HN.out])
  have HL_ := Lib.hid (show n4 ≤ 160 by rw [hn3]; have := HNL.out; omega)
  have HAC4 := Lib.hid hac
  have HH_ := Lib.hid (own_blk_far (base := 0) HO.out hg_ HH.out)
  have HB_ := Lib.hid (own_below_far HO.out hg_ HB.out HGW.out)
  clear ho_ hg_ hA_ hn3 hac HH HB HO HSL HONE HN HNL
  have HO := HO_; have HN := HN_; have HH := HH_; have HB := HB_; have HNL := HL_
  clear HO_ HN_ HH_ HB_ HL_
  try clear w_
  rename World => w_
  have c0 := HH.out.at_ (ent_at HXO.out).2.2.2.2
  go_wp2_with fail
  refine (rnum_any np _ (by omega)).mono ?_
  rintro e w2_ ⟨A2, d2, rfl, ho_, hc_, hb_⟩
  have HSL := Lib.hid (Sl.of_own ho_)
  have HONE := Lib.hid (all_bytes (numB np))
  clear ho_ hc_ c0
  have HH_ := Lib.hid (HH.out.grow hb_)
  have HB_ := Lib.hid (HB.out.grow' hb_)
  have HO_ := Lib.hid (HO.out.grow hb_)
  clear HH HB HO
  have HH := HH_
  have HB := HB_
  have HO := HO_
  clear HH_ HB_ HO_
  clear hb_
  try clear w_
  rename World => w_
  have hn_ := HNL.out
  have hgl_ := HH.out.lt
  go_wp2_with (at_builtin; refine wpl_apps rfl rfl el_u8 HO.out rfl HSL.out rfl HONE.out (by omega) (by omega) (by omega) ?_)
  clear hn_ hgl_
  intro A5 c5 w3 ho_ hg_ hA_
  obtain ⟨n5, hn3⟩ : ∃ k, k = n4 + (numB np).length := ⟨_, rfl⟩
  obtain ⟨ac5, hac⟩ : ∃ k, k = ac4 ++ numB np := ⟨_, rfl⟩
  rw [← hn3] at ho_ ⊢
  have HO_ := Lib.hid (show w3.ownsRow (gh + 1) 5 1 (.slice A5 n5 c5) n5 (ac5.map B) by rw [hac, List.map_append]; exact ho_)
  have HN_ := Lib.hid (show n5 = ac5.length by rw [hac, List.length_append, hn3, HN.out])
  have HL_ := Lib.hid (show n5 ≤ 192 by rw [hn3]; have := HNL.out; omega)
  have HAC5 := Lib.hid hac
  have HH_ := Lib.hid (own_blk_far (base := 0) HO.out hg_ HH.out)
  have HB_ := Lib.hid (own_below_far HO.out hg_ HB.out HGW.out)
  clear ho_ hg_ hA_ hn3 hac HH HB HO HSL HONE HN HNL
  have HO := HO_; have HN := HN_; have HH := HH_; have HB := HB_; have HNL := HL_
  clear HO_ HN_ HH_ HB_ HL_
  try clear w_
  rename World => w_
  have HEQ := Lib.hid (show ac5 = numB nk ++ numB ns ++ tx ++ numB na ++ numB ny ++ numB np by rw [HAC5.out, HAC4.out, HAC3.out, HAC2.out, HAC1.out])
  go_wp2_with fail
  go_ret
  have ho := HO.out
  rw [HN.out, HEQ.out] at ho ⊢
  rw [HFE.out]
  exact ⟨_, _, rfl, Sl.of_own ho, own_cap1 ho, HB.out⟩
end Go.Proofs.Ytofhohofaedokaa

/- Contracts of the document's Id of a header, and of the leaves. -/
namespace Go.Proofs.Ytofhohofaedokaa
open Go.RowKit Go.Shelf
set_option linter.unusedVariables false

def okL (x : Ent) (i : Int) : Bool := rightE x && decide (i ≤ 4611686018427387904)
theorem leavesB_yes {c : List UInt8} {x : Ent} {i : Int} (h : okL x i = true) : leavesB c x i = [c, putEB x, numB i.toNat] := by
  unfold okL at h; simp only [Bool.and_eq_true, decide_eq_true_eq] at h; unfold leavesB; rw [if_pos h]
theorem leavesB_no {c : List UInt8} {x : Ent} {i : Int} (h : okL x i = false) : leavesB c x i = [] := by
  unfold leavesB; rw [if_neg]; intro hh; unfold okL at h; rw [hh.1] at h; simp at h; omega
theorem parts3 {w : World} {g : Nat} {t : TypeId} {A1 A2 A3 : Option Addr} {n1 c1 n2 c2 n3 c3 : Nat} {b1 b2 b3 : List UInt8} (hb : Blk w g t [.slice A1 n1 c1, .slice A2 n2 c2, .slice A3 n3 c3]) (h1 : Sl w w.heap.size 1 A1 n1 (b1.map B)) (k1 : n1 ≤ c1) (h2 : Sl w w.heap.size 1 A2 n2 (b2.map B)) (k2 : n2 ≤ c2) (h3 : Sl w w.heap.size 1 A3 n3 (b3.map B)) (k3 : n3 ≤ c3) :
    ∃ ps, Parts w w.heap.size (some ⟨g, 0, none⟩) 3 ps ∧ ps.map Prod.snd = [b1, b2, b3] :=
  ⟨[(.slice A1 n1 c1, b1), (.slice A2 n2 c2, b2), (.slice A3 n3 c3, b3)], parts_blk hb rfl (by intro p hp; simp only [List.mem_cons, List.not_mem_nil, or_false] at hp; rcases hp with rfl | rfl | rfl; exact part_mk h1 k1; exact part_mk h2 k2; exact part_mk h3 k3), rfl⟩
/-- A list of lists of bytes that was handed back. -/
def LS (w : World) (A : Option Addr) (n c : Nat) (ls : List (List UInt8)) : Prop := ∃ ps, Parts w w.heap.size A n ps ∧ ps.map Prod.snd = ls ∧ n ≤ c
theorem LS.grow {w w2 : World} {A : Option Addr} {n c : Nat} {ls : List (List UInt8)} (h : LS w A n c ls) (k : Grow w w2) : LS w2 A n c ls := by obtain ⟨ps, h1, h2⟩ := h; exact ⟨ps, h1.grow k, h2⟩
theorem LS.nil (w : World) : LS w none 0 0 [] := ⟨[], ⟨Sl.nil, fun p hp => by cases hp⟩, rfl, Nat.le_refl _⟩

end Go.Proofs.Ytofhohofaedokaa

/- A digest stored in the midst of a struct; headers built. Printed by mknext.py. -/
namespace Go.Proofs.Ytofhohofaedokaa
open Go.RowKit Go.Shelf
set_option linter.unusedVariables false

theorem blk_setCells {g : Nat} {t : TypeId} : ∀ (vs : List Value) (o : Nat) (w : World) (cs : List Value), Blk w g t cs → o + vs.length ≤ cs.length → Blk (w.setCells g o vs) g t (splice cs o vs)
  | [], o, w, cs, h, _ => by simpa [splice, World.setCells] using h
  | v :: r, o, w, cs, h, hl => by
    simp only [List.length_cons] at hl
    have h1 := blk_setCells r (o + 1) _ _ (h.set_ o v) (by rw [List.length_set]; omega)
    have e : splice (cs.set o v) (o + 1) r = splice cs o (v :: r) := by
      apply List.ext_getElem?
      intro k
      rw [splice_get _ _ _ _ (by rw [List.length_set]; omega), splice_get _ _ _ _ (by simp only [List.length_cons]; omega)]
      simp only [List.length_cons]
      by_cases h1 : k = o
      · subst h1
        rw [if_neg (by omega), if_pos (by omega), List.getElem?_set, if_pos rfl, if_pos (by omega), Nat.sub_self]; rfl
      · by_cases h2 : o + 1 ≤ k ∧ k < o + 1 + r.length
        · rw [if_pos h2, if_pos (by omega), show k - o = (k - (o + 1)) + 1 by omega, List.getElem?_cons_succ]
        · rw [if_neg h2, if_neg (by omega), List.getElem?_set, if_neg (by omega)]
    rw [e] at h1
    exact h1
theorem grown_setCells (g : Nat) : ∀ (vs : List Value) (o : Nat) (w : World), w.grownBy (w.setCells g o vs) (some g) ∧ (w.setCells g o vs).heap.size = w.heap.size
  | [], o, w => ⟨⟨rfl, rfl, rfl, Nat.le_refl _, fun _ _ _ => rfl⟩, rfl⟩
  | v :: r, o, w => by
    obtain ⟨h1, h2⟩ := grown_setCells g r (o + 1) (w.setCell ⟨g, o, none⟩ v)
    exact ⟨grown_trans (grown_set w g o v) h1, h2.trans (by simp)⟩
section
variable {P : Program} {ops : Array Oper} {rest : List Oper} {o : Oper} {a : Act} {w : World} {Q : Exit → Act → World → Prop}
theorem wpl_storem (hgd : o.guard = none) {T : TypeId} {x y : Operand} (ho : o.op = .store T x y) {n : Nat} (hT : RowT P T n) {g off : Nat} {t : TypeId} {old cs : List Value} (hb : Blk w g t old) (hx : a.eval x = .pointer (some ⟨g, off, none⟩)) (hy : a.eval y = .agg cs.toArray)
    (hn : cs.length = n) (hle : off + n ≤ old.length) (h1 : ∀ u ∈ cs, u.oneCell' = true)
    (h : ∀ w', Blk w' g t (splice old off cs) → w.grownBy w' (some g) → w'.heap.size = w.heap.size → wpList P ops Q rest (a.put o.dst undef) w') : wpList P ops Q (o :: rest) a w := by
  obtain ⟨d, hu, hd, hi⟩ := hT
  refine wpList_store_mid hgd T x y ho g off cs.toArray hx hy (fun j hj => ?_) (by rw [hi]; simp [hn]) (all_oneCell_toArray h1) ?_
  · simp only [List.size_toArray] at hj
    exact ⟨by rw [hb.at_ (List.getElem?_eq_getElem (show off + j < old.length by omega))]; rfl, hb.frozen _⟩
  · obtain ⟨h2, h3⟩ := grown_setCells g cs off w
    exact h _ (blk_setCells cs off w old hb (by omega)) h2 h3
end
theorem built_hdr0 (parts : List (Nat × Value)) : Try.prog.built 34 parts = Instr.fill (fun i => (#[(0, 1), (1, 1), (2, 1), (3, 32), (35, 32)] : Array (Nat × Nat))[i]?) (hdrV noHdr).toArray parts := by kernel_rfl
theorem zero_hdr2 : (Try.prog.info? 34).map (·.zero) = some (some (.agg (hdrV noHdr).toArray)) := by rw [zeroHdr_eq]; exact zero_hdr
theorem built_hdrE : Try.prog.built 34 [] = some (hdrV noHdr).toArray := by rw [built_hdr0]; rfl
theorem built_hdr4 {s ep : Int} {root : List UInt8} (hr : root.length = 32) : Try.prog.built 34 [(0, .int .i64 s), (1, .int .i64 1), (2, .int .i64 ep), (4, .agg (root.map B).toArray)] = some (hdrV ⟨s, 1, ep, zeroD, root⟩).toArray := by
  have e0 : (root.map B).length = 32 := by rw [List.length_map, hr]
  have hz : zeroD.length = 32 := by simp [zeroD]
  rw [built_hdr0, fill_cons (off := 0) (s := 1) (cs := [.int .i64 s]) rfl rfl rfl (by simp [hdrV, noHdr]), fill_cons (off := 1) (s := 1) (cs := [.int .i64 1]) rfl rfl rfl (by simp [hdrV, noHdr, splice]),
    fill_cons (off := 2) (s := 1) (cs := [.int .i64 ep]) rfl rfl rfl (by simp [hdrV, noHdr, splice]), fill_cons (off := 35) (s := 32) (cs := root.map B) rfl rfl e0 (by simp [hdrV, noHdr, splice]), fill_nil]
  congr 2
  have h35 : (hdrV ⟨s, 1, ep, zeroD, root⟩) = ([.int .i64 s, .int .i64 1, .int .i64 ep] ++ zeroD.map B) ++ (root.map B ++ []) := by simp [hdrV]
  rw [h35]
  refine Eq.trans ?_ (splice_mid (off := 35) (old := (List.replicate 32 (0 : UInt8)).map B) (by simp [hz]) (by simp [hr]))
  rfl
theorem hdr_next {s h ep s2 h2 : Int} {prev prev2 root : List UInt8} (hp : prev.length = 32) (hq : prev2.length = 32) : splice (((hdrV ⟨s, h, ep, prev, root⟩).set 0 (.int .i64 s2)).set 1 (.int .i64 h2)) 3 (prev2.map B) = hdrV ⟨s2, h2, ep, prev2, root⟩ := by
  have e1 : ((hdrV ⟨s, h, ep, prev, root⟩).set 0 (.int .i64 s2)).set 1 (.int .i64 h2) = [.int .i64 s2, .int .i64 h2, .int .i64 ep] ++ (prev.map B ++ root.map B) := rfl
  rw [e1, splice_mid (off := 3) rfl (by simp [hp, hq])]; rfl
theorem nextB_no {p : Hdr} {first : Bool} {ls : List (List UInt8)} {s ep : Int} (h : nextOK p first ls s ep = false) : nextB p first ls s ep = noHdr := by unfold nextB; rw [if_neg (by simp [h])]
theorem nextB_yes {p : Hdr} {first : Bool} {ls : List (List UInt8)} {s ep : Int} (h : nextOK p first ls s ep = true) : nextB p first ls s ep = nextH p first ls s ep := by unfold nextB; rw [if_pos h]
theorem hdr_one (h : Hdr) : ∀ u ∈ hdrV h, u.oneCell' = true := by
  intro u hu
  unfold hdrV at hu
  simp only [List.mem_cons, List.mem_append, List.mem_map] at hu
  rcases hu with rfl | rfl | rfl | ⟨_, _, rfl⟩ | ⟨_, _, rfl⟩ <;> rfl
end Go.Proofs.Ytofhohofaedokaa

/- The contract of header.Next. Printed by mknext.py. -/
namespace Go.Proofs.Ytofhohofaedokaa
open Go.RowKit Go.Shelf
set_option linter.unusedVariables false
end Go.Proofs.Ytofhohofaedokaa

/- The document's example of seisinlaw10. -/
namespace Go.Proofs.Ytofhohofaedokaa
open Go.RowKit Go.Shelf
set_option linter.unusedVariables false
section
variable {P : Program} {ops : Array Oper} {rest : List Oper} {o : Oper} {a : Act} {w : World} {Q : Exit → Act → World → Prop}
end
def doneE : Ent := ⟨3, 0, zeroD, 0, 0, 0⟩
theorem doneE_ok : doneE.ok := by simp [doneE, Ent.ok, I64, U64, zeroD]
theorem bt_done : Try.prog.built 31 [(0, .int .i64 3)] = some (entV doneE).toArray := by kernel_rfl
theorem okL_done : okL doneE 5 = true := by decide
end Go.Proofs.Ytofhohofaedokaa

/- The contract of the document's Next. Printed by mknext.py. -/
namespace Go.Proofs.Ytofhohofaedokaa
open Go.RowKit Go.Shelf
set_option linter.unusedVariables false
end Go.Proofs.Ytofhohofaedokaa

/- The document's answer of layer 1 (the same bytes), and lists of lists of bytes that were handed back. -/
namespace Go.Proofs.Ytofhohofaedokaa
open Go.RowKit Go.Shelf
set_option linter.unusedVariables false
def KeepC (w : World) (a : Addr) (v : Value) : Prop := w.cell? a = some v
theorem KeepC.grow {w w' : World} {a : Addr} {v : Value} (h : KeepC w a v) (k : Grow w w') : KeepC w' a v := by
  unfold KeepC at *
  rw [k.cell (World.block_lt_of_cell? w _ h)]; exact h
theorem LS.at_ {w : World} {A : Option Addr} {n c : Nat} {ls : List (List UInt8)} (h : LS w A n c ls) {k : Nat} (hk : k < n) :
    ∃ b off A2 n2 c2 bs, A = some ⟨b, off, none⟩ ∧ ls[k]? = some bs ∧ KeepC w ⟨b, off + k, none⟩ (.slice A2 n2 c2) ∧ n2 = bs.length ∧ Sl w w.heap.size 1 A2 n2 (bs.map B) := by
  obtain ⟨ps, hp, hl, _⟩ := h
  obtain ⟨b, off, A2, c2, bs, e, hps, hc, hcc, hs⟩ := hp.at_ hk
  refine ⟨b, off, A2, bs.length, c2, bs, e, ?_, hc, rfl, hs⟩
  rw [← hl, List.getElem?_map, hps]; rfl
theorem nextB_ok {p : Hdr} {first : Bool} {ls : List (List UInt8)} {s ep : Int} : (nextB p first ls s ep).ok := by
  by_cases h : nextOK p first ls s ep = true
  · rw [nextB_yes h]
    have hr : rightH (nextH p first ls s ep) = true := by unfold nextOK at h; simp only [Bool.and_eq_true] at h; exact h.2
    have hb := rightH_iff.1 hr
    have hl : (nextH p first ls s ep).prev.length = 32 ∧ (nextH p first ls s ep).root.length = 32 := by unfold nextH; split <;> simp [zeroD, hidB_len, rootB_len]
    exact ⟨⟨by omega, by omega⟩, ⟨by omega, by omega⟩, ⟨by omega, by omega⟩, hl.1, hl.2⟩
  · rw [nextB_no (by simpa using h)]; exact noHdr_ok
def HV (xs : List Value) : Prop := xs.length = 67 ∧ ∀ u ∈ xs, u.oneCell' = true
theorem HV.len {xs : List Value} (h : HV xs) : xs.length = 67 := h.1
theorem HV.one {xs : List Value} (h : HV xs) : ∀ u ∈ xs, u.oneCell' = true := h.2
theorem hv_of {x : Hdr} (h : x.ok) : HV (hdrV x) := ⟨hdrV_length h, hdr_one x⟩
theorem len_header : (hdrV noHdr).length = 67 := hdrV_length noHdr_ok
theorem zero_header : (Try.prog.info? 34).map (·.zero) = some (some (.agg (hdrV noHdr).toArray)) := zero_hdr2
def LenE (xs : List Value) (n : Nat) : Prop := xs.length = n
theorem LenE.len {xs : List Value} {n : Nat} (h : LenE xs n) : xs.length = n := h
set_option maxRecDepth 100000 in
set_option maxHeartbeats 1000000 in
theorem bytes1_any {res : Bool} {A A2 : Option Addr} {n c n2 c2 : Nat} {xs ys : List UInt8} (hres : decide (xs = ys) = res) (w : World) (h1 : Sl w w.heap.size 1 A n (xs.map B)) (h2 : Sl w w.heap.size 1 A2 n2 (ys.map B)) (hn : n ≤ 1000000) :
    Calls Try.prog 27 #[.slice A n c, .slice A2 n2 c2] w fun e w' => e = .returned (.bool res) ∧ Below w.heap.size w w' := by
  have H1 := Lib.hid h1; have H2 := Lib.hid h2
  have HL1 := Lib.hid (show xs.length = n by have := h1.len; simpa using this)
  have HL2 := Lib.hid (show ys.length = n2 by have := h2.len; simpa using this)
  have HRES := Lib.hid hres
  clear h1 h2 hres
  by_cases hnn : n = n2
  · subst hnn
    have z1 : ((n : Int) != (n : Int)) = false := by simp
    go_enter Try.func27, Try.ntmps27
    go_wp2_with fail
    go_loopw [5] (fun i wr => ∃ k : Nat, k ≤ n ∧ i = .int .i64 k ∧ Hid (xs.take k = ys.take k) ∧ Hid (Below w.heap.size w wr)) (fun i _ => n - (intOf i).toNat)
    case atStart => exact ⟨0, by omega, rfl, Lib.hid (by simp), Lib.hid (Below.refl _ _)⟩
    case round =>
      obtain ⟨k, hk, rfl, heq, hbw⟩ := hrel
      by_cases hlt : k < n
      · have HB := hbw
        have H1A := Lib.hid ((H1.out.below HB.out).more HB.out.size)
        have H2A := Lib.hid ((H2.out.below HB.out).more HB.out.size)
        obtain ⟨x, hx⟩ : ∃ x, xs[k]? = some x := ⟨_, List.getElem?_eq_getElem (by rw [HL1.out]; exact hlt)⟩
        obtain ⟨y, hy⟩ : ∃ y, ys[k]? = some y := ⟨_, List.getElem?_eq_getElem (by rw [HL2.out]; exact hlt)⟩
        have HX := Lib.hid hx; have HY := Lib.hid hy
        clear hx hy
        by_cases hxy : x = y
        · subst hxy
          try go_wp2_with fail
          repeat' (first | (with_reducible refine wp_plan (id := 6) Grow [0,0,0,2,0,0,0,2,0] (.get 0 (.get 1 (.get 2 (.get 3 (.get 4 (.get 5 (.get 6 (.get 7 (.get 8 .done))))))))) (by kernel_rfl) (by kernel_rfl) Grow.refl Grow.trans ?_) | go_values | go_skip | go_guarded | go_step | go_upon | go_back)
          intro w_ hd_
          have hb_ := hd_.grow
          have HB_ := Lib.hid (HB.out.grow' hb_)
          clear HB
          have HB := HB_
          clear HB_
          have H1A_ := Lib.hid (H1A.out.grow hb_)
          clear H1A
          have H1A := H1A_
          clear H1A_
          have H2A_ := Lib.hid (H2A.out.grow hb_)
          clear H2A
          have H2A := H2A_
          clear H2A_
          clear hb_ hd_
          obtain ⟨b1, o1, u1, rfl, hb1, hu1, hc1⟩ := H1A.out.at_ hlt
          obtain ⟨b2, o2, u2, rfl, hb2, hu2, hc2⟩ := H2A.out.at_ hlt
          obtain rfl : u1 = .int .u8 (b8 x) := by rw [List.getElem?_map, HX.out] at hu1; exact (Option.some.inj hu1).symm
          obtain rfl : u2 = .int .u8 (b8 x) := by rw [List.getElem?_map, HY.out] at hu2; exact (Option.some.inj hu2).symm
          clear hb1 hb2 hu1 hu2
          repeat (first | (refine pl_calm rfl rfl (by first | exact wanted_none rfl | (go_simp; done) | rfl) (fun w_ => by first | (go_simp; rfl) | (go_simp; done) | rfl) (fun K hK => ?_); go_simp; refine hK _ _ ?_; clear hK K) | (refine pl_skip rfl (by first | (go_simp; done) | rfl) (fun K hK => ?_); go_simp; refine hK _ _ ?_; clear hK K) | (refine pl_skipa rfl (by first | (go_simp; done) | rfl) (fun K hK => ?_); go_simp; refine hK _ _ ?_; clear hK K) | (refine pl_load rfl rfl (by first | exact wanted_none rfl | (go_simp; done) | rfl) rfl (by first | rfl | (go_simp; rfl)) (by kernel_rfl) (by first | exact hc1 | exact hc2) (fun K hK => ?_); go_simp; refine hK _ _ ?_; clear hK K) | (refine pl_loadnow rfl rfl (by first | exact wanted_none rfl | (go_simp; done) | rfl) rfl (by first | rfl | (go_simp; rfl)) (by kernel_rfl) (by first | exact hc1 | exact hc2) (fun K hK => ?_); go_simp; refine hK _ _ ?_; clear hK K))
          refine pl_done ?_
          clear hc1 hc2
          have HE := Lib.hid (show xs.take (k + 1) = ys.take (k + 1) by rw [List.take_add_one, List.take_add_one, heq.out, HX.out, HY.out])
          go_wp2_with fail
          go_roundw
          case rel => exact ⟨k + 1, by omega, by go_num, HE, HB⟩
          case measure => simp [intOf]; omega
        · have hbb : ((b8 x) != (b8 y)) = true := by
            have : b8 x ≠ b8 y := fun h => hxy (b8_inj h)
            simpa using this
          have HF := Lib.hid (show res = false by
            rw [← HRES.out]
            have : xs ≠ ys := fun h => by
              subst h
              have h1 := HX.out
              rw [HY.out] at h1
              exact hxy (Option.some.inj h1).symm
            simpa using this)
          have hne : b8 x ≠ b8 y := fun h => hxy (b8_inj h)
          have hq := eq_false hne
          clear hxy
          try go_wp2_with fail
          repeat' (first | (with_reducible refine wp_plan (id := 6) Grow [0,0,0,2,0,0,0,2,0] (.get 0 (.get 1 (.get 2 (.get 3 (.get 4 (.get 5 (.get 6 (.get 7 (.get 8 .done))))))))) (by kernel_rfl) (by kernel_rfl) Grow.refl Grow.trans ?_) | go_values | go_skip | go_guarded | go_step | go_upon | go_back)
          intro w_ hd_
          have hb_ := hd_.grow
          have HB_ := Lib.hid (HB.out.grow' hb_)
          clear HB
          have HB := HB_
          clear HB_
          have H1A_ := Lib.hid (H1A.out.grow hb_)
          clear H1A
          have H1A := H1A_
          clear H1A_
          have H2A_ := Lib.hid (H2A.out.grow hb_)
          clear H2A
          have H2A := H2A_
          clear H2A_
          clear hb_ hd_
          obtain ⟨b1, o1, u1, rfl, hb1, hu1, hc1⟩ := H1A.out.at_ hlt
          obtain ⟨b2, o2, u2, rfl, hb2, hu2, hc2⟩ := H2A.out.at_ hlt
          obtain rfl : u1 = .int .u8 (b8 x) := by rw [List.getElem?_map, HX.out] at hu1; exact (Option.some.inj hu1).symm
          obtain rfl : u2 = .int .u8 (b8 y) := by rw [List.getElem?_map, HY.out] at hu2; exact (Option.some.inj hu2).symm
          clear hb1 hb2 hu1 hu2
          repeat (first | (refine pl_calm rfl rfl (by first | exact wanted_none rfl | (go_simp; done) | rfl) (fun w_ => by first | (go_simp; rfl) | (go_simp; done) | rfl) (fun K hK => ?_); go_simp; refine hK _ _ ?_; clear hK K) | (refine pl_skip rfl (by first | (go_simp; done) | rfl) (fun K hK => ?_); go_simp; refine hK _ _ ?_; clear hK K) | (refine pl_skipa rfl (by first | (go_simp; done) | rfl) (fun K hK => ?_); go_simp; refine hK _ _ ?_; clear hK K) | (refine pl_load rfl rfl (by first | exact wanted_none rfl | (go_simp; done) | rfl) rfl (by first | rfl | (go_simp; rfl)) (by kernel_rfl) (by first | exact hc1 | exact hc2) (fun K hK => ?_); go_simp; refine hK _ _ ?_; clear hK K) | (refine pl_loadnow rfl rfl (by first | exact wanted_none rfl | (go_simp; done) | rfl) rfl (by first | rfl | (go_simp; rfl)) (by kernel_rfl) (by first | exact hc1 | exact hc2) (fun K hK => ?_); go_simp; refine hK _ _ ?_; clear hK K))
          refine pl_done ?_
          clear hc1 hc2
          go_wp2_with fail
          go_ret
          exact ⟨by rw [HF.out]; rfl, HB.out⟩
      · obtain rfl : k = n := by omega
        have HT := Lib.hid (show res = true by
          rw [← HRES.out]
          have h := heq.out
          rw [List.take_of_length_le (by rw [HL1.out]; exact Nat.le_refl _), List.take_of_length_le (by rw [HL2.out]; exact Nat.le_refl _)] at h
          simpa using h)
        go_wp2_with fail
        go_ret
        exact ⟨by rw [HT.out]; rfl, hbw.out⟩
  · have z1 : ((n : Int) != (n2 : Int)) = true := by simp; omega
    have HF := Lib.hid (show res = false by
      rw [← HRES.out]
      have : xs ≠ ys := fun h => by subst h; exact hnn (by rw [← HL1.out, ← HL2.out])
      simpa using this)
    have hz : ¬ ((n : Int) = (n2 : Int)) := by omega
    have hzq := eq_false hz
    go_enter Try.func27, Try.ntmps27
    go_wp2_with fail
    go_ret
    exact ⟨by rw [HF.out]; rfl, Below.refl _ _⟩
end Go.Proofs.Ytofhohofaedokaa

/- Rows of headers: the chain that HeaderRow lays (plain), and slices of headers. -/
namespace Go.Proofs.Ytofhohofaedokaa
open Go.RowKit Go.Shelf
set_option linter.unusedVariables false
def entK (k : Nat) : Ent := ⟨3, 0, zeroD, 0, 0, (k : Int)⟩
theorem entK_ok {k : Nat} (h : k ≤ 1000) : (entK k).ok := by
  simp only [entK, Ent.ok, I64, U64]
  exact ⟨by omega, by omega, by simp [zeroD], by omega, by omega, by omega⟩
theorem okK {k : Nat} (h : k ≤ 1000) : okL (entK k) (k : Int) = true := by
  unfold okL
  rw [rightE_iff.2 (by simp only [entK]; omega)]
  simp; omega
def lvK (l : List UInt8) (k : Nat) : List (List UInt8) := leavesB l (entK k) (k : Int)
theorem lvK_len {l : List UInt8} {k : Nat} (h : k ≤ 1000) : (lvK l k).length = 3 := by unfold lvK; rw [leavesB_yes (okK h)]; rfl
theorem lvK_le {l : List UInt8} {k : Nat} (h : k ≤ 1000) (hl : l.length ≤ 1000) : ∀ q ∈ lvK l k, q.length ≤ 1000000 := by
  intro q hq
  unfold lvK at hq
  rw [leavesB_yes (okK h)] at hq
  have hr : rightE (entK k) = true := by have := okK h; unfold okL at this; simp only [Bool.and_eq_true] at this; exact this.1
  have h1 := putEB_len (entK_ok h) hr
  have h2 := numB_le (n := (k : Int).toNat) (by omega)
  simp only [List.mem_cons, List.not_mem_nil, or_false] at hq
  rcases hq with rfl | rfl | rfl <;> omega
/-- The chain: the header behind k rounds. -/
def rowH (ls : List (List UInt8)) : Nat → Hdr
  | 0 => noHdr
  | k + 1 => nextB (rowH ls k) (decide (k = 0)) (lvK (ls.getD k []) k) 5 (k : Int)
theorem row_all (ls : List (List UInt8)) : ∀ k, k ≤ 1000 → nextOK (rowH ls k) (decide (k = 0)) (lvK (ls.getD k []) k) 5 (k : Int) = true ∧ (rowH ls (k + 1)).shard = 5 ∧ (rowH ls (k + 1)).height = (k : Int) + 1 ∧ (rowH ls (k + 1)).epoch = (k : Int)
  | 0, h => by
    have e : nextOK (rowH ls 0) (decide ((0 : Nat) = 0)) (lvK (ls.getD 0 []) 0) 5 ((0 : Nat) : Int) = true := by
      unfold nextOK
      rw [lvK_len (by omega), show rightH (nextH (rowH ls 0) (decide ((0 : Nat) = 0)) (lvK (ls.getD 0 []) 0) 5 ((0 : Nat) : Int)) = true from rightH_iff.2 (by unfold nextH; simp)]; simp
    refine ⟨e, ?_⟩
    show (nextB _ _ _ _ _).shard = 5 ∧ (nextB _ _ _ _ _).height = _ ∧ (nextB _ _ _ _ _).epoch = _
    rw [nextB_yes e]; simp [nextH]
  | k + 1, h => by
    obtain ⟨_, h1, h2, h3⟩ := row_all ls k (by omega)
    have hf : decide (k + 1 = 0) = false := by simp
    have e : nextOK (rowH ls (k + 1)) (decide (k + 1 = 0)) (lvK (ls.getD (k + 1) []) (k + 1)) 5 ((k + 1 : Nat) : Int) = true := by
      unfold nextOK
      rw [lvK_len (by omega), hf, show rightH (rowH ls (k + 1)) = true from rightH_iff.2 (by rw [h1, h2, h3]; omega), show rightH (nextH (rowH ls (k + 1)) false (lvK (ls.getD (k + 1) []) (k + 1)) 5 ((k + 1 : Nat) : Int)) = true from rightH_iff.2 (by unfold nextH; simp only [Bool.false_eq_true, if_false, h1, h2]; omega)]
      simp [h3]; omega
    refine ⟨e, ?_⟩
    show (nextB _ _ _ _ _).shard = 5 ∧ (nextB _ _ _ _ _).height = _ ∧ (nextB _ _ _ _ _).epoch = _
    rw [nextB_yes e, hf]; simp only [nextH, Bool.false_eq_true, if_false, h1, h2]; simp
theorem rowH_ok {ls : List (List UInt8)} : ∀ k, (rowH ls k).ok
  | 0 => noHdr_ok
  | k + 1 => nextB_ok
theorem row_follows {ls : List (List UInt8)} {k : Nat} (h : k + 1 ≤ 1000) : followsB (rowH ls (k + 1)) (rowH ls (k + 2)) = true := by
  have e := (row_all ls (k + 1) h).1
  rw [show decide (k + 1 = 0) = false by simp] at e
  have := next_follows e
  show followsB _ (nextB _ _ _ _ _) = true
  rw [show decide (k + 1 = 0) = false by simp]; exact this
/-- Another header in the place of the row's k-th: its successor in the row does not follow it, unless their digests are the same. -/
theorem row_else {ls : List (List UInt8)} {k : Nat} {o : Hdr} (h : k + 1 ≤ 1000) (hd : hidB o ≠ hidB (rowH ls (k + 1))) : followsB o (rowH ls (k + 2)) = false := by
  cases hf : followsB o (rowH ls (k + 2)) with
  | false => rfl
  | true => exact absurd (follows_one hf (row_follows h)) hd
def hdrsV (hs : List Hdr) : List Value := hs.flatMap hdrV
theorem hdrsV_snoc {hs : List Hdr} {h : Hdr} : hdrsV (hs ++ [h]) = hdrsV hs ++ hdrV h := by simp [hdrsV]
def rowUp (ls : List (List UInt8)) (k : Nat) : List Hdr := (List.range k).map fun i => rowH ls (i + 1)
theorem rowUp_succ {ls : List (List UInt8)} {k : Nat} : rowUp ls (k + 1) = rowUp ls k ++ [rowH ls (k + 1)] := by simp [rowUp, List.range_succ]
theorem hdrsV_len : ∀ (hs : List Hdr), (∀ h ∈ hs, h.ok) → (hdrsV hs).length = 67 * hs.length
  | [], _ => rfl
  | h :: hs, hk => by
    show (hdrV h ++ hdrsV hs).length = _
    rw [List.length_append, hdrV_length (hk h (List.mem_cons_self ..)), hdrsV_len hs fun x hx => hk x (List.mem_cons_of_mem _ hx), List.length_cons]; omega
theorem hdrsV_at : ∀ (hs : List Hdr) (i j : Nat) (h : Hdr) (u : Value), (∀ h ∈ hs, h.ok) → hs[i]? = some h → (hdrV h)[j]? = some u → (hdrsV hs)[67 * i + j]? = some u
  | [], i, j, h, u, _, hi, _ => by simp at hi
  | x :: xs, 0, j, h, u, hk, hi, hu => by
    simp only [List.getElem?_cons_zero, Option.some.injEq] at hi
    subst hi
    show (hdrV x ++ hdrsV xs)[67 * 0 + j]? = some u
    rw [List.getElem?_append_left (by have := (List.getElem?_eq_some_iff.1 hu).1; omega), Nat.mul_zero, Nat.zero_add]; exact hu
  | x :: xs, i + 1, j, h, u, hk, hi, hu => by
    rw [List.getElem?_cons_succ] at hi
    show (hdrV x ++ hdrsV xs)[67 * (i + 1) + j]? = some u
    rw [List.getElem?_append_right (by rw [hdrV_length (hk x (List.mem_cons_self ..))]; omega), hdrV_length (hk x (List.mem_cons_self ..)), show 67 * (i + 1) + j - 67 = 67 * i + j by omega]
    exact hdrsV_at xs i j h u (fun y hy => hk y (List.mem_cons_of_mem _ hy)) hi hu
theorem info_header : (Try.prog.info? 34).map (fun i => (i.zero, i.size, i.bytes)) = some (some (.agg zeroHdr), 67, 88) := by kernel_rfl
theorem u64_keep {k : Nat} (h : k ≤ 1000) : IntKind.u64.wrap (k : Int) = (k : Int) := IntWalk.u64_in _ (by omega)
theorem built_ent0 (parts : List (Nat × Value)) : Try.prog.built 31 parts = Instr.fill (fun i => (#[(0, 1), (1, 1), (2, 32), (34, 1), (35, 1), (36, 1)] : Array (Nat × Nat))[i]?) (entV noEnt).toArray parts := by kernel_rfl
theorem built_entK {k : Nat} : Try.prog.built 31 [(0, .int .i64 3), (5, .int .i64 (k : Int))] = some (entV (entK k)).toArray := by
  rw [built_ent0, fill_cons (off := 0) (s := 1) (cs := [.int .i64 3]) rfl rfl rfl (by simp [entV, noEnt]), fill_cons (off := 36) (s := 1) (cs := [.int .i64 (k : Int)]) rfl rfl rfl (by simp [entV, noEnt, splice]), fill_nil]
  rfl
theorem LS.at2 {w : World} {A : Option Addr} {n c : Nat} {ls : List (List UInt8)} (h : LS w A n c ls) {k : Nat} (hk : k < n) :
    ∃ b off A2 n2 c2 bs, A = some ⟨b, off, none⟩ ∧ ls[k]? = some bs ∧ KeepC w ⟨b, off + k, none⟩ (.slice A2 n2 c2) ∧ n2 = bs.length ∧ n2 ≤ c2 ∧ Sl w w.heap.size 1 A2 n2 (bs.map B) := by
  obtain ⟨ps, hp, hl, _⟩ := h
  obtain ⟨b, off, A2, c2, bs, e, hps, hc, hcc, hs⟩ := hp.at_ hk
  refine ⟨b, off, A2, bs.length, c2, bs, e, ?_, hc, rfl, hcc, hs⟩
  rw [← hl, List.getElem?_map, hps]; rfl
theorem fold_setH_aux : ∀ (ys : List Value) (k : Nat) (z : Array Value), z.size = k + ys.length → ((ys.zipIdx k).foldl (fun cs x => cs.setIfInBounds x.2 x.1) z).toList = z.toList.take k ++ ys
  | [], k, z, h => by
    simp only [List.zipIdx_nil, List.foldl_nil, List.append_nil]
    rw [List.take_of_length_le (by simpa using Nat.le_of_eq h)]
  | y :: ys, k, z, h => by
    rw [List.zipIdx_cons, List.foldl_cons, fold_setH_aux ys (k + 1) _ (by simp only [Array.size_setIfInBounds, List.length_cons] at *; omega)]
    simp only [Array.toList_setIfInBounds]
    have hk : k < z.toList.length := by simp only [List.length_cons, Array.length_toList] at *; omega
    rw [List.take_add_one, List.getElem?_set_self hk, Option.toList_some, List.take_set_of_le (Nat.le_refl _), List.append_assoc]
    rfl
theorem fold_setH (z : Array Value) (ys : List Value) (h : z.size = ys.length) : (ys.zipIdx.foldl (fun cs x => cs.setIfInBounds x.2 x.1) z).toList = ys := by
  have := fold_setH_aux ys 0 z (by omega)
  simpa using this
def OwnH (w : World) (base : Nat) (A : Option Addr) (n c : Nat) (hs : List Value) : Prop := w.ownsRow base 34 67 (.slice A n c) n hs
theorem OwnH.grow {w w' : World} {base n c : Nat} {A : Option Addr} {hs : List Value} (h : OwnH w base A n c hs) (k : Grow w w') : OwnH w' base A n c hs := own_below h k
theorem OwnH.far {w w' : World} {g n c : Nat} {A : Option Addr} {hs : List Value} (h : OwnH w (g + 1) A n c hs) (k : w.grownBy w' (some g)) : OwnH w' (g + 1) A n c hs :=
  own_kept h k fun g' e he => by
    have h1 := own_from h g' (by rw [e]; rfl)
    simp only [Option.some.injEq] at he
    omega
theorem rowUp_at {ls : List (List UInt8)} {n i : Nat} (h : i < n) : (rowUp ls n)[i]? = some (rowH ls (i + 1)) := by simp [rowUp, h]
theorem OwnH.mid {w : World} {base g n c i : Nat} {ls : List (List UInt8)} (h : OwnH w base (some ⟨g, 0, none⟩) n c (hdrsV (rowUp ls n))) (hi : i < n) : ∀ j u, (hdrV (rowH ls (i + 1)))[j]? = some u → w.cell? ⟨g, 0 + i * 67 + j, none⟩ = some u := by
  intro j u hu
  have hj : j < 67 := by have := (List.getElem?_eq_some_iff.1 hu).1; rw [hdrV_length (rowH_ok _)] at this; exact this
  have hc := World.ownsRow.cellAt (show World.ownsRow _ _ _ _ _ _ _ from h) (0 + i * 67 + j) (by omega)
  rw [hc, show 0 + i * 67 + j = 67 * i + j by omega]
  exact hdrsV_at (rowUp ls n) i j _ u (fun x hx => by
    obtain ⟨q, hq⟩ := List.getElem?_of_mem hx
    have hqn : q < n := by have := (List.getElem?_eq_some_iff.1 hq).1; simpa [rowUp] using this
    rw [rowUp_at hqn] at hq
    cases hq; exact rowH_ok _) (rowUp_at hi) hu
theorem map_B_injH : ∀ {a b : List UInt8}, a.map B = b.map B → a = b
  | [], [], _ => rfl
  | [], _ :: _, h => by simp at h
  | _ :: _, [], h => by simp at h
  | x :: a, y :: b, h => by
    simp only [List.map_cons, List.cons.injEq] at h
    have h1 : x = y := by have := h.1; unfold B at this; exact b8_inj (by injection this)
    rw [h1, map_B_injH h.2]
theorem hdrV_inj {x y : Hdr} (hx : x.ok) (hy : y.ok) (h : hdrV x = hdrV y) : x = y := by
  obtain ⟨a1, a2, a3, p, r⟩ := x
  obtain ⟨b1, b2, b3, q, s⟩ := y
  have h0 : [Value.int .i64 a1, .int .i64 a2, .int .i64 a3] ++ (p.map B ++ r.map B) = [Value.int .i64 b1, .int .i64 b2, .int .i64 b3] ++ (q.map B ++ s.map B) := by
    simpa [hdrV] using h
  obtain ⟨h1, h2⟩ := List.append_inj h0 rfl
  obtain ⟨h3, h4⟩ := List.append_inj h2 (by rw [List.length_map, List.length_map]; exact hx.2.2.2.1.trans hy.2.2.2.1.symm)
  have e1 := map_B_injH h3
  have e2 := map_B_injH h4
  simp only [List.cons.injEq, Value.int.injEq, true_and, and_true] at h1
  obtain ⟨rfl, rfl, rfl⟩ := h1
  rw [e1, e2]
end Go.Proofs.Ytofhohofaedokaa

/- The walk's halt at one operation: what follows is done by hand. No program in sight. -/
namespace Go.Proofs.Ytofhohofaedokaa
open Go.RowKit
set_option linter.unusedVariables false
def StopT (p : Prop) : Prop := p
theorem wpl_stop {P : Program} {ops : Array Oper} {rest : List Oper} {o : Oper} {a : Act} {w : World} {Q : Exit → Act → World → Prop} (h : StopT (wpList P ops Q (o :: rest) a w)) : wpList P ops Q (o :: rest) a w := h
theorem stop_go {p : Prop} (h : p) : StopT p := h
end Go.Proofs.Ytofhohofaedokaa

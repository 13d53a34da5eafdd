/- Contracts of the document's Put of headers and entries. Printed by mkhdrd.py. -/
import Derived.Test.YtobmldegjajocaaCommandFormsT9
import Derived.Test.YtobmldegjajocaaCommandFormsT8
import Derived.Test.YtobmldegjajocaaCommandFormsT4
import Derived.Test.YtobmldegjajocaaCommandFormsT1
set_option linter.unusedSimpArgs false
/- Contracts of the document's Put of headers and entries. Printed by mkhdrd.py. -/
namespace Go.Proofs.Ytobmldegjajocaa
open Go.RowKit Go.Shelf
set_option linter.unusedVariables false
theorem own_blk_far {w w2 : World} {base n c g : Nat} {A : Option Addr} {xs : List Value} {t : TypeId} {cs : List Value} (ho : w.ownsRow (g + 1) 5 1 (.slice A n c) n xs) (hg : w.grownBy w2 (A.map Addr.block)) (hb : Blk w g t cs) : Blk w2 g t cs :=
  hb.grown hg (fun e => by have := own_from ho g e.symm; omega)
theorem own_below_far {w0 w w2 : World} {n c g : Nat} {A : Option Addr} {xs : List Value} (ho : w.ownsRow (g + 1) 5 1 (.slice A n c) n xs) (hg : w.grownBy w2 (A.map Addr.block)) (hb : Grow w0 w) (hw : w0.heap.size ≤ g) : Grow w0 w2 :=
  below_grown hb hg hb.size (fun k hk => by have := own_from ho k hk; omega)
set_option maxRecDepth 100000 in
set_option maxHeartbeats 2000000 in
theorem rhput_any (x : Hdr) (w : World) (hx : x.ok) (hr : rightH x = true) : Calls Try.prog 67 #[.agg (hdrV x).toArray] w fun e w' => ∃ A c, e = .returned (.slice A (putHB x).length c) ∧ Sl w' w'.heap.size 1 A (putHB x).length ((putHB x).map B) ∧ (putHB x).length ≤ c ∧ Grow w w' := by
  have HXO := Lib.hid hx
  have HL := Lib.hid (hdrV_length hx)
  obtain ⟨⟨hs1, hs2⟩, ⟨hh1, hh2⟩, hp1, hp2⟩ := rightH_iff.1 hr
  obtain ⟨_, _, _, hpl, hrl⟩ := hx
  obtain ⟨xs, xh, xp, prev, root⟩ := x
  obtain ⟨ns, rfl⟩ := nat_of hs1
  obtain ⟨nh, rfl⟩ := nat_of (show 0 ≤ xh by simp only at hh1; omega)
  obtain ⟨np, rfl⟩ := nat_of hp1
  simp only at hs2 hh1 hh2 hp2 hpl hrl
  have us := conv_u64 (n := ns) (by omega); have uh := conv_u64 (n := nh) (by omega); have up := conv_u64 (n := np) (by omega)
  have ls := numB_le (n := ns) (by omega); have lh := numB_le (n := nh) (by omega); have lp := numB_le (n := np) (by omega)
  have HFE := Lib.hid (show putHB ⟨(ns : Int), (nh : Int), (np : Int), prev, root⟩ = numB ns ++ numB nh ++ numB np ++ prev ++ root by unfold putHB; simp only [Int.toNat_natCast])
  clear hr
  obtain ⟨cs, hcs⟩ : ∃ cs, cs = hdrV ⟨(ns : Int), (nh : Int), (np : Int), prev, root⟩ := ⟨_, rfl⟩
  have HCS := Lib.hid hcs
  rw [← hcs]
  rw [← hcs] at HL
  clear hcs
  obtain ⟨gh, hgh⟩ : ∃ gh, gh = w.heap.size := ⟨_, rfl⟩
  have HG := Lib.hid hgh
  have HGW := Lib.hid (show w.heap.size ≤ gh by omega)
  go_enter Try.func67, Try.ntmps67
  go_wp2_with (first | (with_reducible refine wpl_box (o := ⟨some 1, _, _, _, _, _⟩) rfl rfl rfl ?_))
  intro w_ hb1 hbw1 hsz1
  rw [← hgh] at hb1 hbw1 hsz1 ⊢
  have HH := Lib.hid hb1
  rw [HCS.out] at HH
  have HB := Lib.hid (show Grow w w_ by rw [hgh] at hbw1; exact hbw1)
  clear hb1 hbw1 hsz1 hgh HCS
  try go_wp2_with fail
  repeat' (first | (with_reducible refine wp_plan (id := 1) Grow [0,2,0,4,0,1,0,3,3,0] (.get 0 (.get 1 (.get 2 (.get 4 (.get 5 (.get 6 (.act 3 (.act 7 (.act 8 (.get 9 .done)))))))))) (by kernel_rfl) (by kernel_rfl) Grow.refl Grow.trans ?_) | go_values | go_skip | go_guarded | go_step | go_upon | go_back)
  intro w_ hd_
  have hb_ := hd_.grow
  have HB_ := Lib.hid (HB.out.grow' hb_)
  clear HB
  have HB := HB_
  clear HB_
  have HH_ := Lib.hid (HH.out.grow hb_)
  clear HH
  have HH := HH_
  clear HH_
  clear hb_ hd_
  have c0 := Lib.hid (HH.out.at_ (hdr_at HXO.out).1)
  have c1 := Lib.hid (HH.out.at_ (hdr_at HXO.out).2.1)
  repeat (first | (refine pl_calm rfl rfl (by first | exact wanted_none rfl | (go_simp; done) | rfl) (fun w_ => by first | (go_simp; rfl) | (go_simp; done) | rfl) (fun K hK => ?_); go_simp; refine hK _ _ ?_; clear hK K) | (refine pl_skip rfl (by first | (go_simp; done) | rfl) (fun K hK => ?_); go_simp; refine hK _ _ ?_; clear hK K) | (refine pl_skipa rfl (by first | (go_simp; done) | rfl) (fun K hK => ?_); go_simp; refine hK _ _ ?_; clear hK K) | (refine pl_load rfl rfl (by first | exact wanted_none rfl | (go_simp; done) | rfl) rfl (by first | rfl | (go_simp; rfl)) (by kernel_rfl) (by first | exact c0.out | exact c1.out) (fun K hK => ?_); go_simp; refine hK _ _ ?_; clear hK K) | (refine pl_loadnow rfl rfl (by first | exact wanted_none rfl | (go_simp; done) | rfl) rfl (by first | rfl | (go_simp; rfl)) (by kernel_rfl) (by first | exact c0.out | exact c1.out) (fun K hK => ?_); go_simp; refine hK _ _ ?_; clear hK K))
  clear c0 c1
  have HLT := Lib.hid (show gh + 1 ≤ w_.heap.size from HH.out.lt)
  refine pl_act rfl (by first | exact wanted_none rfl | (go_simp; done) | rfl) (fun K hK => ?_)
  go_wp2_with fail
  refine (rnum_any ns _ (by omega)).mono ?_
  rintro e w_ ⟨A1, d1, rfl, ho_, hc_, hb_⟩
  go_wp2_with fail
  refine hK _ _ (fun _ => hb_) ?_
  clear hK K
  have HB_ := Lib.hid (HB.out.grow' hb_)
  clear HB
  have HB := HB_
  clear HB_
  have HH_ := Lib.hid (HH.out.grow hb_)
  clear HH
  have HH := HH_
  clear HH_
  clear hb_
  have HO1 := Lib.hid ho_
  clear ho_ hc_
  refine pl_act rfl (by first | exact wanted_none rfl | (go_simp; done) | rfl) (fun K hK => ?_)
  go_wp2_with fail
  refine (rnum_any nh _ (by omega)).mono ?_
  rintro e w_ ⟨A2, d2, rfl, ho_, hc_, hb_⟩
  go_wp2_with fail
  refine hK _ _ (fun _ => hb_) ?_
  clear hK K
  have HB_ := Lib.hid (HB.out.grow' hb_)
  clear HB
  have HB := HB_
  clear HB_
  have HH_ := Lib.hid (HH.out.grow hb_)
  clear HH
  have HH := HH_
  clear HH_
  have HO1_ := Lib.hid (HO1.out.grow hb_)
  clear HO1
  have HO1 := HO1_
  clear HO1_
  clear hb_
  have HSL := Lib.hid (Sl.of_own ho_)
  clear ho_ hc_
  refine pl_act rfl (by exact wanted_none rfl) (fun K hK => ?_)
  have HONE := Lib.hid (all_bytes (numB nh))
  have HO2 := Lib.hid (own_base HO1.out (show gh + 1 ≤ _ from HLT.out))
  clear HO1
  refine wpl_apps rfl rfl el_u8 HO2.out rfl HSL.out rfl HONE.out (by omega) (by omega) (by have := HH.out.lt; omega) ?_
  intro A1 c1 w3 ho_ hg_ hA_
  obtain ⟨n1, hn3⟩ : ∃ k, k = (numB ns).length + (numB nh).length := ⟨_, rfl⟩
  obtain ⟨ac1, hac⟩ : ∃ k, k = numB ns ++ numB nh := ⟨_, rfl⟩
  rw [← hn3] at ho_ ⊢
  have HO_ := Lib.hid (show w3.ownsRow (gh + 1) 5 1 (.slice A1 n1 c1) n1 (ac1.map B) by rw [hac, List.map_append]; exact ho_)
  have HN_ := Lib.hid (show n1 = ac1.length by rw [hac, List.length_append, hn3])
  have HL_ := Lib.hid (show n1 ≤ 64 by rw [hn3]; omega)
  have HAC1 := Lib.hid hac
  have HH_ := Lib.hid (own_blk_far (base := 0) HO2.out hg_ HH.out)
  have HB_ := Lib.hid (own_below_far HO2.out hg_ HB.out HGW.out)
  clear ho_ hg_ hA_ hn3 hac HH HB HO2 HSL HONE
  have HO := HO_; have HN := HN_; have HH := HH_; have HB := HB_; have HNL := HL_
  clear HO_ HN_ HH_ HB_ HL_
  try clear w_
  rename World => w_
  go_wp2_with fail
  refine hK _ _ (fun h => by cases h) ?_
  clear hK K
  repeat (first | (refine pl_calm rfl rfl (by first | exact wanted_none rfl | (go_simp; done) | rfl) (fun w_ => by first | (go_simp; rfl) | (go_simp; done) | rfl) (fun K hK => ?_); go_simp; refine hK _ _ ?_; clear hK K) | (refine pl_skip rfl (by first | (go_simp; done) | rfl) (fun K hK => ?_); go_simp; refine hK _ _ ?_; clear hK K) | (refine pl_skipa rfl (by first | (go_simp; done) | rfl) (fun K hK => ?_); go_simp; refine hK _ _ ?_; clear hK K))
  refine pl_done ?_
  have c0 := HH.out.at_ (hdr_at HXO.out).2.2
  go_wp2_with fail
  refine (rnum_any np _ (by omega)).mono ?_
  rintro e w2_ ⟨A2, d2, rfl, ho_, hc_, hb_⟩
  have HSL := Lib.hid (Sl.of_own ho_)
  have HONE := Lib.hid (all_bytes (numB np))
  clear ho_ hc_ c0
  have HH_ := Lib.hid (HH.out.grow hb_)
  have HB_ := Lib.hid (HB.out.grow' hb_)
  have HO_ := Lib.hid (HO.out.grow hb_)
  clear HH HB HO
  have HH := HH_
  have HB := HB_
  have HO := HO_
  clear HH_ HB_ HO_
  clear hb_
  try clear w_
  rename World => w_
  have hn_ := HNL.out
  have hgl_ := HH.out.lt
  go_wp2_with (at_builtin; refine wpl_apps rfl rfl el_u8 HO.out rfl HSL.out rfl HONE.out (by omega) (by omega) (by omega) ?_)
  clear hn_ hgl_
  intro A2 c2 w3 ho_ hg_ hA_
  obtain ⟨n2, hn3⟩ : ∃ k, k = n1 + (numB np).length := ⟨_, rfl⟩
  obtain ⟨ac2, hac⟩ : ∃ k, k = ac1 ++ numB np := ⟨_, rfl⟩
  rw [← hn3] at ho_ ⊢
  have HO_ := Lib.hid (show w3.ownsRow (gh + 1) 5 1 (.slice A2 n2 c2) n2 (ac2.map B) by rw [hac, List.map_append]; exact ho_)
  have HN_ := Lib.hid (show n2 = ac2.length by rw [hac, List.length_append, hn3, HN.out])
  have HL_ := Lib.hid (show n2 ≤ 96 by rw [hn3]; have := HNL.out; omega)
  have HAC2 := Lib.hid hac
  have HH_ := Lib.hid (own_blk_far (base := 0) HO.out hg_ HH.out)
  have HB_ := Lib.hid (own_below_far HO.out hg_ HB.out HGW.out)
  clear ho_ hg_ hA_ hn3 hac HH HB HO HSL HONE HN HNL
  have HO := HO_; have HN := HN_; have HH := HH_; have HB := HB_; have HNL := HL_
  clear HO_ HN_ HH_ HB_ HL_
  try clear w_
  rename World => w_
  have hm_ := midP HXO.out HH.out
  go_wp2_with (first | (with_reducible refine wpl_loadm (o := ⟨some 21, _, _, _, _, _⟩) rfl rfl row_aid hm_ rfl (by rw [List.length_map]; exact hpl) ?_))
  refine (tbytes_any (dig_map hpl) _).mono ?_
  rintro e w2_ ⟨A2, d2, rfl, hs_, hc_, hb_⟩
  have HSL := Lib.hid hs_
  have HONE := Lib.hid (all_bytes prev)
  clear hm_ hs_ hc_
  have HH_ := Lib.hid (HH.out.grow hb_)
  have HB_ := Lib.hid (HB.out.grow' hb_)
  have HO_ := Lib.hid (HO.out.grow hb_)
  clear HH HB HO
  have HH := HH_
  have HB := HB_
  have HO := HO_
  clear HH_ HB_ HO_
  clear hb_
  try clear w_
  rename World => w_
  have hn_ := HNL.out
  have hgl_ := HH.out.lt
  go_wp2_with (at_builtin; refine wpl_apps rfl rfl el_u8 HO.out rfl HSL.out rfl HONE.out (by omega) (by omega) (by omega) ?_)
  clear hn_ hgl_
  intro A3 c3 w3 ho_ hg_ hA_
  obtain ⟨n3, hn3⟩ : ∃ k, k = n2 + 32 := ⟨_, rfl⟩
  obtain ⟨ac3, hac⟩ : ∃ k, k = ac2 ++ prev := ⟨_, rfl⟩
  rw [← hn3] at ho_ ⊢
  have HO_ := Lib.hid (show w3.ownsRow (gh + 1) 5 1 (.slice A3 n3 c3) n3 (ac3.map B) by rw [hac, List.map_append]; exact ho_)
  have HN_ := Lib.hid (show n3 = ac3.length by rw [hac, List.length_append, hn3, HN.out, show prev.length = 32 from hpl])
  have HL_ := Lib.hid (show n3 ≤ 128 by rw [hn3]; have := HNL.out; omega)
  have HAC3 := Lib.hid hac
  have HH_ := Lib.hid (own_blk_far (base := 0) HO.out hg_ HH.out)
  have HB_ := Lib.hid (own_below_far HO.out hg_ HB.out HGW.out)
  clear ho_ hg_ hA_ hn3 hac HH HB HO HSL HONE HN HNL
  have HO := HO_; have HN := HN_; have HH := HH_; have HB := HB_; have HNL := HL_
  clear HO_ HN_ HH_ HB_ HL_
  try clear w_
  rename World => w_
  have hm_ := midR HXO.out HH.out
  go_wp2_with (first | (with_reducible refine wpl_loadm (o := ⟨some 26, _, _, _, _, _⟩) rfl rfl row_aid hm_ rfl (by rw [List.length_map]; exact hrl) ?_))
  refine (tbytes_any (dig_map hrl) _).mono ?_
  rintro e w2_ ⟨A2, d2, rfl, hs_, hc_, hb_⟩
  have HSL := Lib.hid hs_
  have HONE := Lib.hid (all_bytes root)
  clear hm_ hs_ hc_
  have HH_ := Lib.hid (HH.out.grow hb_)
  have HB_ := Lib.hid (HB.out.grow' hb_)
  have HO_ := Lib.hid (HO.out.grow hb_)
  clear HH HB HO
  have HH := HH_
  have HB := HB_
  have HO := HO_
  clear HH_ HB_ HO_
  clear hb_
  try clear w_
  rename World => w_
  have hn_ := HNL.out
  have hgl_ := HH.out.lt
  go_wp2_with (at_builtin; refine wpl_apps rfl rfl el_u8 HO.out rfl HSL.out rfl HONE.out (by omega) (by omega) (by omega) ?_)
  clear hn_ hgl_
  intro A4 c4 w3 ho_ hg_ hA_
  obtain ⟨n4, hn3⟩ : ∃ k, k = n3 + 32 := ⟨_, rfl⟩
  obtain ⟨ac4, hac⟩ : ∃ k, k = ac3 ++ root := ⟨_, rfl⟩
  rw [← hn3] at ho_ ⊢
  have HO_ := Lib.hid (show w3.ownsRow (gh + 1) 5 1 (.slice A4 n4 c4) n4 (ac4.map B) by rw [hac, List.map_append]; exact ho_)
  have HN_ := Lib.hid (show n4 = ac4.length by rw [hac, List.length_append, hn3, HN.out, show root.length = 32 from hrl])
  have HL_ := Lib.hid (show n4 ≤ 160 by rw [hn3]; have := HNL.out; omega)
  have HAC4 := Lib.hid hac
  have HH_ := Lib.hid (own_blk_far (base := 0) HO.out hg_ HH.out)
  have HB_ := Lib.hid (own_below_far HO.out hg_ HB.out HGW.out)
  clear ho_ hg_ hA_ hn3 hac HH HB HO HSL HONE HN HNL
  have HO := HO_; have HN := HN_; have HH := HH_; have HB := HB_; have HNL := HL_
  clear HO_ HN_ HH_ HB_ HL_
  try clear w_
  rename World => w_
  have HEQ := Lib.hid (show ac4 = numB ns ++ numB nh ++ numB np ++ prev ++ root by rw [HAC4.out, HAC3.out, HAC2.out, HAC1.out])
  go_wp2_with fail
  go_ret
  have ho := HO.out
  rw [HN.out, HEQ.out] at ho ⊢
  rw [HFE.out]
  exact ⟨_, _, rfl, Sl.of_own ho, own_cap1 ho, HB.out⟩
set_option maxRecDepth 100000 in
set_option maxHeartbeats 2000000 in
theorem reput_any (x : Ent) (w : World) (hx : x.ok) (hr : rightE x = true) : Calls Try.prog 66 #[.agg (entV x).toArray] w fun e w' => ∃ A c, e = .returned (.slice A (putEB x).length c) ∧ Sl w' w'.heap.size 1 A (putEB x).length ((putEB x).map B) ∧ (putEB x).length ≤ c ∧ Grow w w' := by
  have HXO := Lib.hid hx
  have HL := Lib.hid (entV_length hx)
  obtain ⟨⟨hk1, hk2⟩, ⟨hs1, hs2⟩, ha2, ⟨hy1, hy2⟩, hp1, hp2⟩ := rightE_iff.1 hr
  obtain ⟨_, _, htx, ⟨ha1, _⟩, _, _⟩ := hx
  obtain ⟨xk, xs, tx, xa, xy, xp⟩ := x
  obtain ⟨nk, rfl⟩ := nat_of (show 0 ≤ xk by simp only at hk1; omega)
  obtain ⟨ns, rfl⟩ := nat_of hs1
  obtain ⟨na, rfl⟩ := nat_of ha1
  obtain ⟨ny, rfl⟩ := nat_of hy1
  obtain ⟨np, rfl⟩ := nat_of hp1
  simp only at hk1 hk2 hs2 ha2 hy2 hp2 htx
  have uk := conv_u64 (n := nk) (by omega); have us := conv_u64 (n := ns) (by omega); have uy := conv_u64 (n := ny) (by omega); have up := conv_u64 (n := np) (by omega)
  have lk := numB_le (n := nk) (by omega); have ls := numB_le (n := ns) (by omega); have la := numB_le (n := na) (by omega); have ly := numB_le (n := ny) (by omega); have lp := numB_le (n := np) (by omega)
  have HFE := Lib.hid (show putEB ⟨(nk : Int), (ns : Int), tx, (na : Int), (ny : Int), (np : Int)⟩ = numB nk ++ numB ns ++ tx ++ numB na ++ numB ny ++ numB np by unfold putEB; simp only [Int.toNat_natCast])
  clear hr
  obtain ⟨cs, hcs⟩ : ∃ cs, cs = entV ⟨(nk : Int), (ns : Int), tx, (na : Int), (ny : Int), (np : Int)⟩ := ⟨_, rfl⟩
  have HCS := Lib.hid hcs
  rw [← hcs]
  rw [← hcs] at HL
  clear hcs
  obtain ⟨gh, hgh⟩ : ∃ gh, gh = w.heap.size := ⟨_, rfl⟩
  have HG := Lib.hid hgh
  have HGW := Lib.hid (show w.heap.size ≤ gh by omega)
  go_enter Try.func66, Try.ntmps66
  go_wp2_with (first | (with_reducible refine wpl_box (o := ⟨some 1, _, _, _, _, _⟩) rfl rfl rfl ?_))
  intro w_ hb1 hbw1 hsz1
  rw [← hgh] at hb1 hbw1 hsz1 ⊢
  have HH := Lib.hid hb1
  rw [HCS.out] at HH
  have HB := Lib.hid (show Grow w w_ by rw [hgh] at hbw1; exact hbw1)
  clear hb1 hbw1 hsz1 hgh HCS
  try go_wp2_with fail
  repeat' (first | (with_reducible refine wp_plan (id := 1) Grow [0,2,0,4,0,1,0,3,3,0] (.get 0 (.get 1 (.get 2 (.get 4 (.get 5 (.get 6 (.act 3 (.act 7 (.act 8 (.get 9 .done)))))))))) (by kernel_rfl) (by kernel_rfl) Grow.refl Grow.trans ?_) | go_values | go_skip | go_guarded | go_step | go_upon | go_back)
  intro w_ hd_
  have hb_ := hd_.grow
  have HB_ := Lib.hid (HB.out.grow' hb_)
  clear HB
  have HB := HB_
  clear HB_
  have HH_ := Lib.hid (HH.out.grow hb_)
  clear HH
  have HH := HH_
  clear HH_
  clear hb_ hd_
  have c0 := Lib.hid (HH.out.at_ (ent_at HXO.out).1)
  have c1 := Lib.hid (HH.out.at_ (ent_at HXO.out).2.1)
  repeat (first | (refine pl_calm rfl rfl (by first | exact wanted_none rfl | (go_simp; done) | rfl) (fun w_ => by first | (go_simp; rfl) | (go_simp; done) | rfl) (fun K hK => ?_); go_simp; refine hK _ _ ?_; clear hK K) | (refine pl_skip rfl (by first | (go_simp; done) | rfl) (fun K hK => ?_); go_simp; refine hK _ _ ?_; clear hK K) | (refine pl_skipa rfl (by first | (go_simp; done) | rfl) (fun K hK => ?_); go_simp; refine hK _ _ ?_; clear hK K) | (refine pl_load rfl rfl (by first | exact wanted_none rfl | (go_simp; done) | rfl) rfl (by first | rfl | (go_simp; rfl)) (by kernel_rfl) (by first | exact c0.out | exact c1.out) (fun K hK => ?_); go_simp; refine hK _ _ ?_; clear hK K) | (refine pl_loadnow rfl rfl (by first | exact wanted_none rfl | (go_simp; done) | rfl) rfl (by first | rfl | (go_simp; rfl)) (by kernel_rfl) (by first | exact c0.out | exact c1.out) (fun K hK => ?_); go_simp; refine hK _ _ ?_; clear hK K))
  clear c0 c1
  have HLT := Lib.hid (show gh + 1 ≤ w_.heap.size from HH.out.lt)
  refine pl_act rfl (by first | exact wanted_none rfl | (go_simp; done) | rfl) (fun K hK => ?_)
  go_wp2_with fail
  refine (rnum_any nk _ (by omega)).mono ?_
  rintro e w_ ⟨A1, d1, rfl, ho_, hc_, hb_⟩
  go_wp2_with fail
  refine hK _ _ (fun _ => hb_) ?_
  clear hK K
  have HB_ := Lib.hid (HB.out.grow' hb_)
  clear HB
  have HB := HB_
  clear HB_
  have HH_ := Lib.hid (HH.out.grow hb_)
  clear HH
  have HH := HH_
  clear HH_
  clear hb_
  have HO1 := Lib.hid ho_
  clear ho_ hc_
  refine pl_act rfl (by first | exact wanted_none rfl | (go_simp; done) | rfl) (fun K hK => ?_)
  go_wp2_with fail
  refine (rnum_any ns _ (by omega)).mono ?_
  rintro e w_ ⟨A2, d2, rfl, ho_, hc_, hb_⟩
  go_wp2_with fail
  refine hK _ _ (fun _ => hb_) ?_
  clear hK K
  have HB_ := Lib.hid (HB.out.grow' hb_)
  clear HB
  have HB := HB_
  clear HB_
  have HH_ := Lib.hid (HH.out.grow hb_)
  clear HH
  have HH := HH_
  clear HH_
  have HO1_ := Lib.hid (HO1.out.grow hb_)
  clear HO1
  have HO1 := HO1_
  clear HO1_
  clear hb_
  have HSL := Lib.hid (Sl.of_own ho_)
  clear ho_ hc_
  refine pl_act rfl (by exact wanted_none rfl) (fun K hK => ?_)
  have HONE := Lib.hid (all_bytes (numB ns))
  have HO2 := Lib.hid (own_base HO1.out (show gh + 1 ≤ _ from HLT.out))
  clear HO1
  refine wpl_apps rfl rfl el_u8 HO2.out rfl HSL.out rfl HONE.out (by omega) (by omega) (by have := HH.out.lt; omega) ?_
  intro A1 c1 w3 ho_ hg_ hA_
  obtain ⟨n1, hn3⟩ : ∃ k, k = (numB nk).length + (numB ns).length := ⟨_, rfl⟩
  obtain ⟨ac1, hac⟩ : ∃ k, k = numB nk ++ numB ns := ⟨_, rfl⟩
  rw [← hn3] at ho_ ⊢
  have HO_ := Lib.hid (show w3.ownsRow (gh + 1) 5 1 (.slice A1 n1 c1) n1 (ac1.map B) by rw [hac, List.map_append]; exact ho_)
  have HN_ := Lib.hid (show n1 = ac1.length by rw [hac, List.length_append, hn3])
  have HL_ := Lib.hid (show n1 ≤ 64 by rw [hn3]; omega)
  have HAC1 := Lib.hid hac
  have HH_ := Lib.hid (own_blk_far (base := 0) HO2.out hg_ HH.out)
  have HB_ := Lib.hid (own_below_far HO2.out hg_ HB.out HGW.out)
  clear ho_ hg_ hA_ hn3 hac HH HB HO2 HSL HONE
  have HO := HO_; have HN := HN_; have HH := HH_; have HB := HB_; have HNL := HL_
  clear HO_ HN_ HH_ HB_ HL_
  try clear w_
  rename World => w_
  go_wp2_with fail
  refine hK _ _ (fun h => by cases h) ?_
  clear hK K
  repeat (first | (refine pl_calm rfl rfl (by first | exact wanted_none rfl | (go_simp; done) | rfl) (fun w_ => by first | (go_simp; rfl) | (go_simp; done) | rfl) (fun K hK => ?_); go_simp; refine hK _ _ ?_; clear hK K) | (refine pl_skip rfl (by first | (go_simp; done) | rfl) (fun K hK => ?_); go_simp; refine hK _ _ ?_; clear hK K) | (refine pl_skipa rfl (by first | (go_simp; done) | rfl) (fun K hK => ?_); go_simp; refine hK _ _ ?_; clear hK K))
  refine pl_done ?_
  have hm_ := midE HXO.out HH.out
  go_wp2_with (first | (with_reducible refine wpl_loadm (o := ⟨some 15, _, _, _, _, _⟩) rfl rfl row_aid hm_ rfl (by rw [List.length_map]; exact htx) ?_))
  refine (tbytes_any (dig_map htx) _).mono ?_
  rintro e w2_ ⟨A2, d2, rfl, hs_, hc_, hb_⟩
  have HSL := Lib.hid hs_
  have HONE := Lib.hid (all_bytes tx)
  clear hm_ hs_ hc_
  have HH_ := Lib.hid (HH.out.grow hb_)
  have HB_ := Lib.hid (HB.out.grow' hb_)
  have HO_ := Lib.hid (HO.out.grow hb_)
  clear HH HB HO
  have HH := HH_
  have HB := HB_
  have HO := HO_
  clear HH_ HB_ HO_
  clear hb_
  try clear w_
  rename World => w_
  have hn_ := HNL.out
  have hgl_ := HH.out.lt
  go_wp2_with (at_builtin; refine wpl_apps rfl rfl el_u8 HO.out rfl HSL.out rfl HONE.out (by omega) (by omega) (by omega) ?_)
  clear hn_ hgl_
  intro A2 c2 w3 ho_ hg_ hA_
  obtain ⟨n2, hn3⟩ : ∃ k, k = n1 + 32 := ⟨_, rfl⟩
  obtain ⟨ac2, hac⟩ : ∃ k, k = ac1 ++ tx := ⟨_, rfl⟩
  rw [← hn3] at ho_ ⊢
  have HO_ := Lib.hid (show w3.ownsRow (gh + 1) 5 1 (.slice A2 n2 c2) n2 (ac2.map B) by rw [hac, List.map_append]; exact ho_)
  have HN_ := Lib.hid (show n2 = ac2.length by rw [hac, List.length_append, hn3, HN.out, show tx.length = 32 from htx])
  have HL_ := Lib.hid (show n2 ≤ 96 by rw [hn3]; have := HNL.out; omega)
  have HAC2 := Lib.hid hac
  have HH_ := Lib.hid (own_blk_far (base := 0) HO.out hg_ HH.out)
  have HB_ := Lib.hid (own_below_far HO.out hg_ HB.out HGW.out)
  clear ho_ hg_ hA_ hn3 hac HH HB HO HSL HONE HN HNL
  have HO := HO_; have HN := HN_; have HH := HH_; have HB := HB_; have HNL := HL_
  clear HO_ HN_ HH_ HB_ HL_
  try clear w_
  rename World => w_
  have c0 := HH.out.at_ (ent_at HXO.out).2.2.1
  go_wp2_with fail
  refine (rnum_any na _ (by omega)).mono ?_
  rintro e w2_ ⟨A2, d2, rfl, ho_, hc_, hb_⟩
  have HSL := Lib.hid (Sl.of_own ho_)
  have HONE := Lib.hid (all_bytes (numB na))
  clear ho_ hc_ c0
  have HH_ := Lib.hid (HH.out.grow hb_)
  have HB_ := Lib.hid (HB.out.grow' hb_)
  have HO_ := Lib.hid (HO.out.grow hb_)
  clear HH HB HO
  have HH := HH_
  have HB := HB_
  have HO := HO_
  clear HH_ HB_ HO_
  clear hb_
  try clear w_
  rename World => w_
  have hn_ := HNL.out
  have hgl_ := HH.out.lt
  go_wp2_with (at_builtin; refine wpl_apps rfl rfl el_u8 HO.out rfl HSL.out rfl HONE.out (by omega) (by omega) (by omega) ?_)
  clear hn_ hgl_
  intro A3 c3 w3 ho_ hg_ hA_
  obtain ⟨n3, hn3⟩ : ∃ k, k = n2 + (numB na).length := ⟨_, rfl⟩
  obtain ⟨ac3, hac⟩ : ∃ k, k = ac2 ++ numB na := ⟨_, rfl⟩
  rw [← hn3] at ho_ ⊢
  have HO_ := Lib.hid (show w3.ownsRow (gh + 1) 5 1 (.slice A3 n3 c3) n3 (ac3.map B) by rw [hac, List.map_append]; exact ho_)
  have HN_ := Lib.hid (show n3 = ac3.length by rw [hac, List.length_append, hn3, HN.out])
  have HL_ := Lib.hid (show n3 ≤ 128 by rw [hn3]; have := HNL.out; omega)
  have HAC3 := Lib.hid hac
  have HH_ := Lib.hid (own_blk_far (base := 0) HO.out hg_ HH.out)
  have HB_ := Lib.hid (own_below_far HO.out hg_ HB.out HGW.out)
  clear ho_ hg_ hA_ hn3 hac HH HB HO HSL HONE HN HNL
  have HO := HO_; have HN := HN_; have HH := HH_; have HB := HB_; have HNL := HL_
  clear HO_ HN_ HH_ HB_ HL_
  try clear w_
  rename World => w_
  have c0 := HH.out.at_ (ent_at HXO.out).2.2.2.1
  go_wp2_with fail
  refine (rnum_any ny _ (by omega)).mono ?_
  rintro e w2_ ⟨A2, d2, rfl, ho_, hc_, hb_⟩
  have HSL := Lib.hid (Sl.of_own ho_)
  have HONE := Lib.hid (all_bytes (numB ny))
  clear ho_ hc_ c0
  have HH_ := Lib.hid (HH.out.grow hb_)
  have HB_ := Lib.hid (HB.out.grow' hb_)
  have HO_ := Lib.hid (HO.out.grow hb_)
  clear HH HB HO
  have HH := HH_
  have HB := HB_
  have HO := HO_
  clear HH_ HB_ HO_
  clear hb_
  try clear w_
  rename World => w_
  have hn_ := HNL.out
  have hgl_ := HH.out.lt
  go_wp2_with (at_builtin; refine wpl_apps rfl rfl el_u8 HO.out rfl HSL.out rfl HONE.out (by omega) (by omega) (by omega) ?_)
  clear hn_ hgl_
  intro A4 c4 w3 ho_ hg_ hA_
  obtain ⟨n4, hn3⟩ : ∃ k, k = n3 + (numB ny).length := ⟨_, rfl⟩
  obtain ⟨ac4, hac⟩ : ∃ k, k = ac3 ++ numB ny := ⟨_, rfl⟩
  rw [← hn3] at ho_ ⊢
  have HO_ := Lib.hid (show w3.ownsRow (gh + 1) 5 1 (.slice A4 n4 c4) n4 (ac4.map B) by rw [hac, List.map_append]; exact ho_)
  have HN_ := Lib.hid (show n4 = ac4.length by rw [hac, List.length_append, hn3, HN.out])
  have HL_ := Lib.hid (show n4 ≤ 160 by rw [hn3]; have := HNL.out; omega)
  have HAC4 := Lib.hid hac
  have HH_ := Lib.hid (own_blk_far (base := 0) HO.out hg_ HH.out)
  have HB_ := Lib.hid (own_below_far HO.out hg_ HB.out HGW.out)
  clear ho_ hg_ hA_ hn3 hac HH HB HO HSL HONE HN HNL
  have HO := HO_; have HN := HN_; have HH := HH_; have HB := HB_; have HNL := HL_
  clear HO_ HN_ HH_ HB_ HL_
  try clear w_
  rename World => w_
  have c0 := HH.out.at_ (ent_at HXO.out).2.2.2.2
  go_wp2_with fail
  refine (rnum_any np _ (by omega)).mono ?_
  rintro e w2_ ⟨A2, d2, rfl, ho_, hc_, hb_⟩
  have HSL := Lib.hid (Sl.of_own ho_)
  have HONE := Lib.hid (all_bytes (numB np))
  clear ho_ hc_ c0
  have HH_ := Lib.hid (HH.out.grow hb_)
  have HB_ := Lib.hid (HB.out.grow' hb_)
  have HO_ := Lib.hid (HO.out.grow hb_)
  clear HH HB HO
  have HH := HH_
  have HB := HB_
  have HO := HO_
  clear HH_ HB_ HO_
  clear hb_
  try clear w_
  rename World => w_
  have hn_ := HNL.out
  have hgl_ := HH.out.lt
  go_wp2_with (at_builtin; refine wpl_apps rfl rfl el_u8 HO.out rfl HSL.out rfl HONE.out (by omega) (by omega) (by omega) ?_)
  clear hn_ hgl_
  intro A5 c5 w3 ho_ hg_ hA_
  obtain ⟨n5, hn3⟩ : ∃ k, k = n4 + (numB np).length := ⟨_, rfl⟩
  obtain ⟨ac5, hac⟩ : ∃ k, k = ac4 ++ numB np := ⟨_, rfl⟩
  rw [← hn3] at ho_ ⊢
  have HO_ := Lib.hid (show w3.ownsRow (gh + 1) 5 1 (.slice A5 n5 c5) n5 (ac5.map B) by rw [hac, List.map_append]; exact ho_)
  have HN_ := Lib.hid (show n5 = ac5.length by rw [hac, List.length_append, hn3, HN.out])
  have HL_ := Lib.hid (show n5 ≤ 192 by rw [hn3]; have := HNL.out; omega)
  have HAC5 := Lib.hid hac
  have HH_ := Lib.hid (own_blk_far (base := 0) HO.out hg_ HH.out)
  have HB_ := Lib.hid (own_below_far HO.out hg_ HB.out HGW.out)
  clear ho_ hg_ hA_ hn3 hac HH HB HO HSL HONE HN HNL
  have HO := HO_; have HN := HN_; have HH := HH_; have HB := HB_; have HNL := HL_
  clear HO_ HN_ HH_ HB_ HL_
  try clear w_
  rename World => w_
  have HEQ := Lib.hid (show ac5 = numB nk ++ numB ns ++ tx ++ numB na ++ numB ny ++ numB np by rw [HAC5.out, HAC4.out, HAC3.out, HAC2.out, HAC1.out])
  go_wp2_with fail
  go_ret
  have ho := HO.out
  rw [HN.out, HEQ.out] at ho ⊢
  rw [HFE.out]
  exact ⟨_, _, rfl, Sl.of_own ho, own_cap1 ho, HB.out⟩
end Go.Proofs.Ytobmldegjajocaa
/- Contracts of the document's Id of a header, and of the leaves. -/
namespace Go.Proofs.Ytobmldegjajocaa
open Go.RowKit Go.Shelf
set_option linter.unusedVariables false
end Go.Proofs.Ytobmldegjajocaa
/- A digest stored in the midst of a struct; headers built. Printed by mknext.py. -/
namespace Go.Proofs.Ytobmldegjajocaa
open Go.RowKit Go.Shelf
set_option linter.unusedVariables false
theorem blk_setCells {g : Nat} {t : TypeId} : ∀ (vs : List Value) (o : Nat) (w : World) (cs : List Value), Blk w g t cs → o + vs.length ≤ cs.length → Blk (w.setCells g o vs) g t (splice cs o vs)
  | [], o, w, cs, h, _ => by simpa [splice, World.setCells] using h
  | v :: r, o, w, cs, h, hl => by
    simp only [List.length_cons] at hl
    have h1 := blk_setCells r (o + 1) _ _ (h.set_ o v) (by rw [List.length_set]; omega)
    have e : splice (cs.set o v) (o + 1) r = splice cs o (v :: r) := by
      apply List.ext_getElem?
      intro k
      rw [splice_get _ _ _ _ (by rw [List.length_set]; omega), splice_get _ _ _ _ (by simp only [List.length_cons]; omega)]
      simp only [List.length_cons]
      by_cases h1 : k = o
      · subst h1
        rw [if_neg (by omega), if_pos (by omega), List.getElem?_set, if_pos rfl, if_pos (by omega), Nat.sub_self]; rfl
      · by_cases h2 : o + 1 ≤ k ∧ k < o + 1 + r.length
        · rw [if_pos h2, if_pos (by omega), show k - o = (k - (o + 1)) + 1 by omega, List.getElem?_cons_succ]
        · rw [if_neg h2, if_neg (by omega), List.getElem?_set, if_neg (by omega)]
    rw [e] at h1
    exact h1
theorem grown_setCells (g : Nat) : ∀ (vs : List Value) (o : Nat) (w : World), w.grownBy (w.setCells g o vs) (some g) ∧ (w.setCells g o vs).heap.size = w.heap.size
  | [], o, w => ⟨⟨rfl, rfl, rfl, Nat.le_refl _, fun _ _ _ => rfl⟩, rfl⟩
  | v :: r, o, w => by
    obtain ⟨h1, h2⟩ := grown_setCells g r (o + 1) (w.setCell ⟨g, o, none⟩ v)
    exact ⟨grown_trans (grown_set w g o v) h1, h2.trans (by simp)⟩
section
variable {P : Program} {ops : Array Oper} {rest : List Oper} {o : Oper} {a : Act} {w : World} {Q : Exit → Act → World → Prop}
theorem wpl_storem (hgd : o.guard = none) {T : TypeId} {x y : Operand} (ho : o.op = .store T x y) {n : Nat} (hT : RowT P T n) {g off : Nat} {t : TypeId} {old cs : List Value} (hb : Blk w g t old) (hx : a.eval x = .pointer (some ⟨g, off, none⟩)) (hy : a.eval y = .agg cs.toArray)
    (hn : cs.length = n) (hle : off + n ≤ old.length) (h1 : ∀ u ∈ cs, u.oneCell' = true)
    (h : ∀ w', Blk w' g t (splice old off cs) → w.grownBy w' (some g) → w'.heap.size = w.heap.size → wpList P ops Q rest (a.put o.dst undef) w') : wpList P ops Q (o :: rest) a w := by
  obtain ⟨d, hu, hd, hi⟩ := hT
  refine wpList_store_mid hgd T x y ho g off cs.toArray hx hy (fun j hj => ?_) (by rw [hi]; simp [hn]) (all_oneCell_toArray h1) ?_
  · simp only [List.size_toArray] at hj
    exact ⟨by rw [hb.at_ (List.getElem?_eq_getElem (show off + j < old.length by omega))]; rfl, hb.frozen _⟩
  · obtain ⟨h2, h3⟩ := grown_setCells g cs off w
    exact h _ (blk_setCells cs off w old hb (by omega)) h2 h3
end
theorem built_hdr0 (parts : List (Nat × Value)) : Try.prog.built 57 parts = Instr.fill (fun i => (#[(0, 1), (1, 1), (2, 1), (3, 32), (35, 32)] : Array (Nat × Nat))[i]?) (hdrV noHdr).toArray parts := by kernel_rfl
theorem zero_hdr2 : (Try.prog.info? 57).map (·.zero) = some (some (.agg (hdrV noHdr).toArray)) := by rw [zeroHdr_eq]; exact zero_hdr
theorem built_hdrE : Try.prog.built 57 [] = some (hdrV noHdr).toArray := by rw [built_hdr0]; rfl
theorem hdr_one (h : Hdr) : ∀ u ∈ hdrV h, u.oneCell' = true := by
  intro u hu
  unfold hdrV at hu
  simp only [List.mem_cons, List.mem_append, List.mem_map] at hu
  rcases hu with rfl | rfl | rfl | ⟨_, _, rfl⟩ | ⟨_, _, rfl⟩ <;> rfl
end Go.Proofs.Ytobmldegjajocaa
/- The contract of header.Next. Printed by mknext.py. -/
namespace Go.Proofs.Ytobmldegjajocaa
open Go.RowKit Go.Shelf
set_option linter.unusedVariables false
end Go.Proofs.Ytobmldegjajocaa
/- The document's example of seisinlaw10. -/
namespace Go.Proofs.Ytobmldegjajocaa
open Go.RowKit Go.Shelf
set_option linter.unusedVariables false
section
variable {P : Program} {ops : Array Oper} {rest : List Oper} {o : Oper} {a : Act} {w : World} {Q : Exit → Act → World → Prop}
end
end Go.Proofs.Ytobmldegjajocaa
/- The contract of the document's Next. Printed by mknext.py. -/
namespace Go.Proofs.Ytobmldegjajocaa
open Go.RowKit Go.Shelf
set_option linter.unusedVariables false
end Go.Proofs.Ytobmldegjajocaa
/- The document's answer of layer 1 (the same bytes), and lists of lists of bytes that were handed back. -/
namespace Go.Proofs.Ytobmldegjajocaa
open Go.RowKit Go.Shelf
set_option linter.unusedVariables false
def HV (xs : List Value) : Prop := xs.length = 67 ∧ ∀ u ∈ xs, u.oneCell' = true
set_option maxRecDepth 100000 in
set_option maxHeartbeats 1000000 in
theorem bytes1_any {res : Bool} {A A2 : Option Addr} {n c n2 c2 : Nat} {xs ys : List UInt8} (hres : decide (xs = ys) = res) (w : World) (h1 : Sl w w.heap.size 1 A n (xs.map B)) (h2 : Sl w w.heap.size 1 A2 n2 (ys.map B)) (hn : n ≤ 1000000) :
    Calls Try.prog 11 #[.slice A n c, .slice A2 n2 c2] w fun e w' => e = .returned (.bool res) ∧ Below w.heap.size w w' := by
  have H1 := Lib.hid h1; have H2 := Lib.hid h2
  have HL1 := Lib.hid (show xs.length = n by have := h1.len; simpa using this)
  have HL2 := Lib.hid (show ys.length = n2 by have := h2.len; simpa using this)
  have HRES := Lib.hid hres
  clear h1 h2 hres
  by_cases hnn : n = n2
  · subst hnn
    have z1 : ((n : Int) != (n : Int)) = false := by simp
    go_enter Try.func11, Try.ntmps11
    go_wp2_with fail
    go_loopw [5] (fun i wr => ∃ k : Nat, k ≤ n ∧ i = .int .i64 k ∧ Hid (xs.take k = ys.take k) ∧ Hid (Below w.heap.size w wr)) (fun i _ => n - (intOf i).toNat)
    case atStart => exact ⟨0, by omega, rfl, Lib.hid (by simp), Lib.hid (Below.refl _ _)⟩
    case round =>
      obtain ⟨k, hk, rfl, heq, hbw⟩ := hrel
      by_cases hlt : k < n
      · have HB := hbw
        have H1A := Lib.hid ((H1.out.below HB.out).more HB.out.size)
        have H2A := Lib.hid ((H2.out.below HB.out).more HB.out.size)
        obtain ⟨x, hx⟩ : ∃ x, xs[k]? = some x := ⟨_, List.getElem?_eq_getElem (by rw [HL1.out]; exact hlt)⟩
        obtain ⟨y, hy⟩ : ∃ y, ys[k]? = some y := ⟨_, List.getElem?_eq_getElem (by rw [HL2.out]; exact hlt)⟩
        have HX := Lib.hid hx; have HY := Lib.hid hy
        clear hx hy
        by_cases hxy : x = y
        · subst hxy
          try go_wp2_with fail
          repeat' (first | (with_reducible refine wp_plan (id := 6) Grow [0,0,0,2,0,0,0,2,0] (.get 0 (.get 1 (.get 2 (.get 3 (.get 4 (.get 5 (.get 6 (.get 7 (.get 8 .done))))))))) (by kernel_rfl) (by kernel_rfl) Grow.refl Grow.trans ?_) | go_values | go_skip | go_guarded | go_step | go_upon | go_back)
          intro w_ hd_
          have hb_ := hd_.grow
          have HB_ := Lib.hid (HB.out.grow' hb_)
          clear HB
          have HB := HB_
          clear HB_
          have H1A_ := Lib.hid (H1A.out.grow hb_)
          clear H1A
          have H1A := H1A_
          clear H1A_
          have H2A_ := Lib.hid (H2A.out.grow hb_)
          clear H2A
          have H2A := H2A_
          clear H2A_
          clear hb_ hd_
          obtain ⟨b1, o1, u1, rfl, hb1, hu1, hc1⟩ := H1A.out.at_ hlt
          obtain ⟨b2, o2, u2, rfl, hb2, hu2, hc2⟩ := H2A.out.at_ hlt
          obtain rfl : u1 = .int .u8 (b8 x) := by rw [List.getElem?_map, HX.out] at hu1; exact (Option.some.inj hu1).symm
          obtain rfl : u2 = .int .u8 (b8 x) := by rw [List.getElem?_map, HY.out] at hu2; exact (Option.some.inj hu2).symm
          clear hb1 hb2 hu1 hu2
          repeat (first | (refine pl_calm rfl rfl (by first | exact wanted_none rfl | (go_simp; done) | rfl) (fun w_ => by first | (go_simp; rfl) | (go_simp; done) | rfl) (fun K hK => ?_); go_simp; refine hK _ _ ?_; clear hK K) | (refine pl_skip rfl (by first | (go_simp; done) | rfl) (fun K hK => ?_); go_simp; refine hK _ _ ?_; clear hK K) | (refine pl_skipa rfl (by first | (go_simp; done) | rfl) (fun K hK => ?_); go_simp; refine hK _ _ ?_; clear hK K) | (refine pl_load rfl rfl (by first | exact wanted_none rfl | (go_simp; done) | rfl) rfl (by first | rfl | (go_simp; rfl)) (by kernel_rfl) (by first | exact hc1 | exact hc2) (fun K hK => ?_); go_simp; refine hK _ _ ?_; clear hK K) | (refine pl_loadnow rfl rfl (by first | exact wanted_none rfl | (go_simp; done) | rfl) rfl (by first | rfl | (go_simp; rfl)) (by kernel_rfl) (by first | exact hc1 | exact hc2) (fun K hK => ?_); go_simp; refine hK _ _ ?_; clear hK K))
          refine pl_done ?_
          clear hc1 hc2
          have HE := Lib.hid (show xs.take (k + 1) = ys.take (k + 1) by rw [List.take_add_one, List.take_add_one, heq.out, HX.out, HY.out])
          go_wp2_with fail
          go_roundw
          case rel => exact ⟨k + 1, by omega, by go_num, HE, HB⟩
          case measure => simp [intOf]; omega
        · have hbb : ((b8 x) != (b8 y)) = true := by
            have : b8 x ≠ b8 y := fun h => hxy (b8_inj h)
            simpa using this
          have HF := Lib.hid (show res = false by
            rw [← HRES.out]
            have : xs ≠ ys := fun h => by
              subst h
              have h1 := HX.out
              rw [HY.out] at h1
              exact hxy (Option.some.inj h1).symm
            simpa using this)
          have hne : b8 x ≠ b8 y := fun h => hxy (b8_inj h)
          have hq := eq_false hne
          clear hxy
          try go_wp2_with fail
          repeat' (first | (with_reducible refine wp_plan (id := 6) Grow [0,0,0,2,0,0,0,2,0] (.get 0 (.get 1 (.get 2 (.get 3 (.get 4 (.get 5 (.get 6 (.get 7 (.get 8 .done))))))))) (by kernel_rfl) (by kernel_rfl) Grow.refl Grow.trans ?_) | go_values | go_skip | go_guarded | go_step | go_upon | go_back)
          intro w_ hd_
          have hb_ := hd_.grow
          have HB_ := Lib.hid (HB.out.grow' hb_)
          clear HB
          have HB := HB_
          clear HB_
          have H1A_ := Lib.hid (H1A.out.grow hb_)
          clear H1A
          have H1A := H1A_
          clear H1A_
          have H2A_ := Lib.hid (H2A.out.grow hb_)
          clear H2A
          have H2A := H2A_
          clear H2A_
          clear hb_ hd_
          obtain ⟨b1, o1, u1, rfl, hb1, hu1, hc1⟩ := H1A.out.at_ hlt
          obtain ⟨b2, o2, u2, rfl, hb2, hu2, hc2⟩ := H2A.out.at_ hlt
          obtain rfl : u1 = .int .u8 (b8 x) := by rw [List.getElem?_map, HX.out] at hu1; exact (Option.some.inj hu1).symm
          obtain rfl : u2 = .int .u8 (b8 y) := by rw [List.getElem?_map, HY.out] at hu2; exact (Option.some.inj hu2).symm
          clear hb1 hb2 hu1 hu2
          repeat (first | (refine pl_calm rfl rfl (by first | exact wanted_none rfl | (go_simp; done) | rfl) (fun w_ => by first | (go_simp; rfl) | (go_simp; done) | rfl) (fun K hK => ?_); go_simp; refine hK _ _ ?_; clear hK K) | (refine pl_skip rfl (by first | (go_simp; done) | rfl) (fun K hK => ?_); go_simp; refine hK _ _ ?_; clear hK K) | (refine pl_skipa rfl (by first | (go_simp; done) | rfl) (fun K hK => ?_); go_simp; refine hK _ _ ?_; clear hK K) | (refine pl_load rfl rfl (by first | exact wanted_none rfl | (go_simp; done) | rfl) rfl (by first | rfl | (go_simp; rfl)) (by kernel_rfl) (by first | exact hc1 | exact hc2) (fun K hK => ?_); go_simp; refine hK _ _ ?_; clear hK K) | (refine pl_loadnow rfl rfl (by first | exact wanted_none rfl | (go_simp; done) | rfl) rfl (by first | rfl | (go_simp; rfl)) (by kernel_rfl) (by first | exact hc1 | exact hc2) (fun K hK => ?_); go_simp; refine hK _ _ ?_; clear hK K))
          refine pl_done ?_
          clear hc1 hc2
          go_wp2_with fail
          go_ret
          exact ⟨by rw [HF.out]; rfl, HB.out⟩
      · obtain rfl : k = n := by omega
        have HT := Lib.hid (show res = true by
          rw [← HRES.out]
          have h := heq.out
          rw [List.take_of_length_le (by rw [HL1.out]; exact Nat.le_refl _), List.take_of_length_le (by rw [HL2.out]; exact Nat.le_refl _)] at h
          simpa using h)
        go_wp2_with fail
        go_ret
        exact ⟨by rw [HT.out]; rfl, hbw.out⟩
  · have z1 : ((n : Int) != (n2 : Int)) = true := by simp; omega
    have HF := Lib.hid (show res = false by
      rw [← HRES.out]
      have : xs ≠ ys := fun h => by subst h; exact hnn (by rw [← HL1.out, ← HL2.out])
      simpa using this)
    have hz : ¬ ((n : Int) = (n2 : Int)) := by omega
    have hzq := eq_false hz
    go_enter Try.func11, Try.ntmps11
    go_wp2_with fail
    go_ret
    exact ⟨by rw [HF.out]; rfl, Below.refl _ _⟩
end Go.Proofs.Ytobmldegjajocaa
/- Rows of headers: the chain that HeaderRow lays (plain), and slices of headers. -/
namespace Go.Proofs.Ytobmldegjajocaa
open Go.RowKit Go.Shelf
set_option linter.unusedVariables false
theorem map_B_injH : ∀ {a b : List UInt8}, a.map B = b.map B → a = b
  | [], [], _ => rfl
  | [], _ :: _, h => by simp at h
  | _ :: _, [], h => by simp at h
  | x :: a, y :: b, h => by
    simp only [List.map_cons, List.cons.injEq] at h
    have h1 : x = y := by have := h.1; unfold B at this; exact b8_inj (by injection this)
    rw [h1, map_B_injH h.2]
theorem hdrV_inj {x y : Hdr} (hx : x.ok) (hy : y.ok) (h : hdrV x = hdrV y) : x = y := by
  obtain ⟨a1, a2, a3, p, r⟩ := x
  obtain ⟨b1, b2, b3, q, s⟩ := y
  have h0 : [Value.int .i64 a1, .int .i64 a2, .int .i64 a3] ++ (p.map B ++ r.map B) = [Value.int .i64 b1, .int .i64 b2, .int .i64 b3] ++ (q.map B ++ s.map B) := by
    simpa [hdrV] using h
  obtain ⟨h1, h2⟩ := List.append_inj h0 rfl
  obtain ⟨h3, h4⟩ := List.append_inj h2 (by rw [List.length_map, List.length_map]; exact hx.2.2.2.1.trans hy.2.2.2.1.symm)
  have e1 := map_B_injH h3
  have e2 := map_B_injH h4
  simp only [List.cons.injEq, Value.int.injEq, true_and, and_true] at h1
  obtain ⟨rfl, rfl, rfl⟩ := h1
  rw [e1, e2]
end Go.Proofs.Ytobmldegjajocaa
/- The walk's halt at one operation: what follows is done by hand. No program in sight. -/
namespace Go.Proofs.Ytobmldegjajocaa
open Go.RowKit
set_option linter.unusedVariables false
def StopT (p : Prop) : Prop := p
theorem wpl_stop {P : Program} {ops : Array Oper} {rest : List Oper} {o : Oper} {a : Act} {w : World} {Q : Exit → Act → World → Prop} (h : StopT (wpList P ops Q (o :: rest) a w)) : wpList P ops Q (o :: rest) a w := h
theorem stop_go {p : Prop} (h : p) : StopT p := h
end Go.Proofs.Ytobmldegjajocaa

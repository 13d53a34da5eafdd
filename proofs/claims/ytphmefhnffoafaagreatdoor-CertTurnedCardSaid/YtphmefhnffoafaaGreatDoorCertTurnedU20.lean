/- Contracts of the document's Put of headers and entries. Printed by mkhdrd.py. -/
import Derived.Test.YtphmefhnffoafaaGreatDoorCertTurnedU19
import Derived.Test.YtphmefhnffoafaaGreatDoorCertTurnedU13
set_option linter.unusedSimpArgs false
namespace Go.Proofs.YtphmefhnffoafaaGreatDoor
open Go.RowKit Go.Shelf
set_option linter.unusedVariables false
theorem own_blk_far {w w2 : World} {base n c g : Nat} {A : Option Addr} {xs : List Value} {t : TypeId} {cs : List Value} (ho : w.ownsRow (g + 1) 5 1 (.slice A n c) n xs) (hg : w.grownBy w2 (A.map Addr.block)) (hb : Blk w g t cs) : Blk w2 g t cs :=
 hb.grown hg (fun e => by have := own_from ho g e.symm; omega)
theorem own_below_far {w0 w w2 : World} {n c g : Nat} {A : Option Addr} {xs : List Value} (ho : w.ownsRow (g + 1) 5 1 (.slice A n c) n xs) (hg : w.grownBy w2 (A.map Addr.block)) (hb : Grow w0 w) (hw : w0.heap.size ≤ g) : Grow w0 w2 :=
 below_grown hb hg hb.size (fun k hk => by have := own_from ho k hk; omega)
set_option maxRecDepth 100000 in
set_option maxHeartbeats 2000000 in
theorem rhput_any (x : Hdr) (w : World) (hx : x.ok) (hr : rightH x = true) : Calls Tryz.prog 21 #[.agg (hdrV x).toArray] w fun e w' => ∃ A c, e = .returned (.slice A (putHB x).length c) ∧ Sl w' w'.heap.size 1 A (putHB x).length ((putHB x).map B) ∧ (putHB x).length ≤ c ∧ Grow w w' := by
 have HXO := kp hx
 have HL := kp (hdrV_length hx)
 obtain ⟨⟨hs1, hs2⟩, ⟨hh1, hh2⟩, hp1, hp2⟩ := rightH_iff.1 hr
 obtain ⟨_, _, _, hpl, hrl⟩ := hx
 obtain ⟨xs, xh, xp, prev, root⟩ := x
 obtain ⟨ns, rfl⟩ := nat_of hs1
 obtain ⟨nh, rfl⟩ := nat_of (show 0 ≤ xh by simp only at hh1; omega)
 obtain ⟨np, rfl⟩ := nat_of hp1
 simp only at hs2 hh1 hh2 hp2 hpl hrl
 have us := conv_u64 (n := ns) (by omega); have uh := conv_u64 (n := nh) (by omega); have up := conv_u64 (n := np) (by omega)
 have ls := numB_le (n := ns) (by omega); have lh := numB_le (n := nh) (by omega); have lp := numB_le (n := np) (by omega)
 have HFE := kp (show putHB ⟨(ns : Int), (nh : Int), (np : Int), prev, root⟩ = numB ns ++ numB nh ++ numB np ++ prev ++ root by unfold putHB; simp only [Int.toNat_natCast])
 clear hr
 obtain ⟨cs, hcs⟩ : ∃ cs, cs = hdrV ⟨(ns : Int), (nh : Int), (np : Int), prev, root⟩ := ⟨_, rfl⟩
 have HCS := kp hcs
 rw [← hcs]
 rw [← hcs] at HL
 clear hcs
 obtain ⟨gh, hgh⟩ : ∃ gh, gh = w.heap.size := ⟨_, rfl⟩
 have HG := kp hgh
 have HGW := kp (show w.heap.size ≤ gh by omega)
 go_enter Tryz.func21, Tryz.ntmps21
 go_wp2_with (first | (with_reducible refine wpl_box (o := ⟨some 1, _, _, _, _, _⟩) rfl rfl rfl ?_))
 intro w_ hb1 hbw1 hsz1
 rw [← hgh] at hb1 hbw1 hsz1 ⊢
 have HH := kp hb1
 rw [HCS.out] at HH
 have HB := kp (show Grow w w_ by rw [hgh] at hbw1; exact hbw1)
 clear hb1 hbw1 hsz1 hgh HCS
 try go_wp2_with fail
 repeat' (first | (with_reducible refine wp_plan (id := 1) Grow [0,2,0,4,0,1,0,3,3,0] (.get 0 (.get 1 (.get 2 (.get 4 (.get 5 (.get 6 (.act 3 (.act 7 (.act 8 (.get 9 .done)))))))))) (by kernel_rfl) (by kernel_rfl) Grow.refl Grow.trans ?_) | go_values | go_skip | go_guarded | go_step | go_upon | go_back)
 intro w_ hd_
 have hb_ := hd_.grow
 replace HB := kp (HB.out.grow' hb_)
 replace HH := kp (HH.out.grow hb_)
 clear hb_ hd_
 have c0 := kp (HH.out.at_ (hdr_at HXO.out).1)
 have c1 := kp (HH.out.at_ (hdr_at HXO.out).2.1)
 repeat (first | (refine pl_calm rfl rfl (by first | exact wanted_none rfl | (go_simp; done) | rfl) (fun w_ => by first | (go_simp; rfl) | (go_simp; done) | rfl) (fun K hK => ?_); go_simp; refine hK _ _ ?_; clear hK K) | (refine pl_skip rfl (by first | (go_simp; done) | rfl) (fun K hK => ?_); go_simp; refine hK _ _ ?_; clear hK K) | (refine pl_skipa rfl (by first | (go_simp; done) | rfl) (fun K hK => ?_); go_simp; refine hK _ _ ?_; clear hK K) | (refine pl_load rfl rfl (by first | exact wanted_none rfl | (go_simp; done) | rfl) rfl (by first | rfl | (go_simp; rfl)) (by kernel_rfl) (by first | exact c0.out | exact c1.out) (fun K hK => ?_); go_simp; refine hK _ _ ?_; clear hK K) | (refine pl_loadnow rfl rfl (by first | exact wanted_none rfl | (go_simp; done) | rfl) rfl (by first | rfl | (go_simp; rfl)) (by kernel_rfl) (by first | exact c0.out | exact c1.out) (fun K hK => ?_); go_simp; refine hK _ _ ?_; clear hK K))
 clear c0 c1
 have HLT := kp (show gh + 1 ≤ w_.heap.size from HH.out.lt)
 refine pl_act rfl (by first | exact wanted_none rfl | (go_simp; done) | rfl) (fun K hK => ?_)
 go_wp2_with fail
 refine (rnum_any ns _ (by omega)).mono ?_
 rintro e w_ ⟨A1, d1, rfl, ho_, hc_, hb_⟩
 go_wp2_with fail
 refine hK _ _ (fun _ => hb_) ?_
 clear hK K
 replace HB := kp (HB.out.grow' hb_)
 replace HH := kp (HH.out.grow hb_)
 clear hb_
 have HO1 := kp ho_
 clear ho_ hc_
 refine pl_act rfl (by first | exact wanted_none rfl | (go_simp; done) | rfl) (fun K hK => ?_)
 go_wp2_with fail
 refine (rnum_any nh _ (by omega)).mono ?_
 rintro e w_ ⟨A2, d2, rfl, ho_, hc_, hb_⟩
 go_wp2_with fail
 refine hK _ _ (fun _ => hb_) ?_
 clear hK K
 replace HB := kp (HB.out.grow' hb_)
 replace HH := kp (HH.out.grow hb_)
 replace HO1 := kp (HO1.out.grow hb_)
 clear hb_
 have HSL := kp (Sl.of_own ho_)
 clear ho_ hc_
 refine pl_act rfl (by exact wanted_none rfl) (fun K hK => ?_)
 have HONE := kp (all_bytes (numB nh))
 have HO2 := kp (own_base HO1.out (show gh + 1 ≤ _ from HLT.out))
 clear HO1
 refine wpl_apps rfl rfl el_u8 HO2.out rfl HSL.out rfl HONE.out (by omega) (by omega) (by have := HH.out.lt; omega) ?_
 intro A1 c1 w3 ho_ hg_ hA_
 obtain ⟨n1, hn3⟩ : ∃ k, k = (numB ns).length + (numB nh).length := ⟨_, rfl⟩
 obtain ⟨ac1, hac⟩ : ∃ k, k = numB ns ++ numB nh := ⟨_, rfl⟩
 rw [← hn3] at ho_ ⊢
 have HO_ := kp (show w3.ownsRow (gh + 1) 5 1 (.slice A1 n1 c1) n1 (ac1.map B) by rw [hac, List.map_append]; exact ho_)
 have HN_ := kp (show n1 = ac1.length by rw [hac, List.length_append, hn3])
 have HL_ := kp (show n1 ≤ 64 by rw [hn3]; omega)
 have HAC1 := kp hac
 have HH_ := kp (own_blk_far (base := 0) HO2.out hg_ HH.out)
 have HB_ := kp (own_below_far HO2.out hg_ HB.out HGW.out)
 clear ho_ hg_ hA_ hn3 hac HH HB HO2 HSL HONE
 have HO := HO_; have HN := HN_; have HH := HH_; have HB := HB_; have HNL := HL_
 clear HO_ HN_ HH_ HB_ HL_
 try clear w_
 rename World => w_
 go_wp2_with fail
 refine hK _ _ (fun h => by cases h) ?_
 clear hK K
 repeat ((first | refine pl_calm rfl rfl (by first | exact wanted_none rfl | (go_simp; done) | rfl) (fun w_ => by first | (go_simp; rfl) | (go_simp; done) | rfl) (fun K hK => ?_) | refine pl_skip rfl (by first | (go_simp; done) | rfl) (fun K hK => ?_) | refine pl_skipa rfl (by first | (go_simp; done) | rfl) (fun K hK => ?_)); go_simp; refine hK _ _ ?_; clear hK K)
 refine pl_done ?_
 have c0 := HH.out.at_ (hdr_at HXO.out).2.2
 go_wp2_with fail
 refine (rnum_any np _ (by omega)).mono ?_
 rintro e w2_ ⟨A2, d2, rfl, ho_, hc_, hb_⟩
 have HSL := kp (Sl.of_own ho_)
 have HONE := kp (all_bytes (numB np))
 clear ho_ hc_ c0
 replace HH := kp (HH.out.grow hb_)
 replace HB := kp (HB.out.grow' hb_)
 replace HO := kp (HO.out.grow hb_)
 clear hb_
 try clear w_
 rename World => w_
 have hn_ := HNL.out
 have hgl_ := HH.out.lt
 go_wp2_with (at_builtin; refine wpl_apps rfl rfl el_u8 HO.out rfl HSL.out rfl HONE.out (by omega) (by omega) (by omega) ?_)
 clear hn_ hgl_
 intro A2 c2 w3 ho_ hg_ hA_
 obtain ⟨n2, hn3⟩ : ∃ k, k = n1 + (numB np).length := ⟨_, rfl⟩
 obtain ⟨ac2, hac⟩ : ∃ k, k = ac1 ++ numB np := ⟨_, rfl⟩
 rw [← hn3] at ho_ ⊢
 have HO_ := kp (show w3.ownsRow (gh + 1) 5 1 (.slice A2 n2 c2) n2 (ac2.map B) by rw [hac, List.map_append]; exact ho_)
 have HN_ := kp (show n2 = ac2.length by rw [hac, List.length_append, hn3, HN.out])
 have HL_ := kp (show n2 ≤ 96 by rw [hn3]; have := HNL.out; omega)
 have HAC2 := kp hac
 have HH_ := kp (own_blk_far (base := 0) HO.out hg_ HH.out)
 have HB_ := kp (own_below_far HO.out hg_ HB.out HGW.out)
 clear ho_ hg_ hA_ hn3 hac HH HB HO HSL HONE HN HNL
 have HO := HO_; have HN := HN_; have HH := HH_; have HB := HB_; have HNL := HL_
 clear HO_ HN_ HH_ HB_ HL_
 try clear w_
 rename World => w_
 have hm_ := midP HXO.out HH.out
 go_wp2_with (first | (with_reducible refine wpl_loadm (o := ⟨some 21, _, _, _, _, _⟩) rfl rfl row_aid hm_ rfl (by rw [List.length_map]; exact hpl) ?_))
 refine (tbytes_any (dig_map hpl) _).mono ?_
 rintro e w2_ ⟨A2, d2, rfl, hs_, hc_, hb_⟩
 have HSL := kp hs_
 have HONE := kp (all_bytes prev)
 clear hm_ hs_ hc_
 replace HH := kp (HH.out.grow hb_)
 replace HB := kp (HB.out.grow' hb_)
 replace HO := kp (HO.out.grow hb_)
 clear hb_
 try clear w_
 rename World => w_
 have hn_ := HNL.out
 have hgl_ := HH.out.lt
 go_wp2_with (at_builtin; refine wpl_apps rfl rfl el_u8 HO.out rfl HSL.out rfl HONE.out (by omega) (by omega) (by omega) ?_)
 clear hn_ hgl_
 intro A3 c3 w3 ho_ hg_ hA_
 obtain ⟨n3, hn3⟩ : ∃ k, k = n2 + 32 := ⟨_, rfl⟩
 obtain ⟨ac3, hac⟩ : ∃ k, k = ac2 ++ prev := ⟨_, rfl⟩
 rw [← hn3] at ho_ ⊢
 have HO_ := kp (show w3.ownsRow (gh + 1) 5 1 (.slice A3 n3 c3) n3 (ac3.map B) by rw [hac, List.map_append]; exact ho_)
 have HN_ := kp (show n3 = ac3.length by rw [hac, List.length_append, hn3, HN.out, show prev.length = 32 from hpl])
 have HL_ := kp (show n3 ≤ 128 by rw [hn3]; have := HNL.out; omega)
 have HAC3 := kp hac
 have HH_ := kp (own_blk_far (base := 0) HO.out hg_ HH.out)
 have HB_ := kp (own_below_far HO.out hg_ HB.out HGW.out)
 clear ho_ hg_ hA_ hn3 hac HH HB HO HSL HONE HN HNL
 have HO := HO_; have HN := HN_; have HH := HH_; have HB := HB_; have HNL := HL_
 clear HO_ HN_ HH_ HB_ HL_
 try clear w_
 rename World => w_
 have hm_ := midR HXO.out HH.out
 go_wp2_with (first | (with_reducible refine wpl_loadm (o := ⟨some 26, _, _, _, _, _⟩) rfl rfl row_aid hm_ rfl (by rw [List.length_map]; exact hrl) ?_))
 refine (tbytes_any (dig_map hrl) _).mono ?_
 rintro e w2_ ⟨A2, d2, rfl, hs_, hc_, hb_⟩
 have HSL := kp hs_
 have HONE := kp (all_bytes root)
 clear hm_ hs_ hc_
 replace HH := kp (HH.out.grow hb_)
 replace HB := kp (HB.out.grow' hb_)
 replace HO := kp (HO.out.grow hb_)
 clear hb_
 try clear w_
 rename World => w_
 have hn_ := HNL.out
 have hgl_ := HH.out.lt
 go_wp2_with (at_builtin; refine wpl_apps rfl rfl el_u8 HO.out rfl HSL.out rfl HONE.out (by omega) (by omega) (by omega) ?_)
 clear hn_ hgl_
 intro A4 c4 w3 ho_ hg_ hA_
 obtain ⟨n4, hn3⟩ : ∃ k, k = n3 + 32 := ⟨_, rfl⟩
 obtain ⟨ac4, hac⟩ : ∃ k, k = ac3 ++ root := ⟨_, rfl⟩
 rw [← hn3] at ho_ ⊢
 have HO_ := kp (show w3.ownsRow (gh + 1) 5 1 (.slice A4 n4 c4) n4 (ac4.map B) by rw [hac, List.map_append]; exact ho_)
 have HN_ := kp (show n4 = ac4.length by rw [hac, List.length_append, hn3, HN.out, show root.length = 32 from hrl])
 have HL_ := kp (show n4 ≤ 160 by rw [hn3]; have := HNL.out; omega)
 have HAC4 := kp hac
 have HH_ := kp (own_blk_far (base := 0) HO.out hg_ HH.out)
 have HB_ := kp (own_below_far HO.out hg_ HB.out HGW.out)
 clear ho_ hg_ hA_ hn3 hac HH HB HO HSL HONE HN HNL
 have HO := HO_; have HN := HN_; have HH := HH_; have HB := HB_; have HNL := HL_
 clear HO_ HN_ HH_ HB_ HL_
 try clear w_
 rename World => w_
 have HEQ := kp (show ac4 = numB ns ++ numB nh ++ numB np ++ prev ++ root by rw [HAC4.out, HAC3.out, HAC2.out, HAC1.out])
 go_wp2_with fail
 go_ret
 have ho := HO.out
 rw [HN.out, HEQ.out] at ho ⊢
 rw [HFE.out]
 exact ⟨_, _, rfl, Sl.of_own ho, own_cap1 ho, HB.out⟩
set_option maxRecDepth 100000 in
set_option maxHeartbeats 2000000 in
theorem reput_any (x : Ent) (w : World) (hx : x.ok) (hr : rightE x = true) : Calls Tryz.prog 37 #[.agg (entV x).toArray] w fun e w' => ∃ A c, e = .returned (.slice A (putEB x).length c) ∧ Sl w' w'.heap.size 1 A (putEB x).length ((putEB x).map B) ∧ (putEB x).length ≤ c ∧ Grow w w' := by
 have HXO := kp hx
 have HL := kp (entV_length hx)
 obtain ⟨⟨hk1, hk2⟩, ⟨hs1, hs2⟩, ha2, ⟨hy1, hy2⟩, hp1, hp2⟩ := rightE_iff.1 hr
 obtain ⟨_, _, htx, ⟨ha1, _⟩, _, _⟩ := hx
 obtain ⟨xk, xs, tx, xa, xy, xp⟩ := x
 obtain ⟨nk, rfl⟩ := nat_of (show 0 ≤ xk by simp only at hk1; omega)
 obtain ⟨ns, rfl⟩ := nat_of hs1
 obtain ⟨na, rfl⟩ := nat_of ha1
 obtain ⟨ny, rfl⟩ := nat_of hy1
 obtain ⟨np, rfl⟩ := nat_of hp1
 simp only at hk1 hk2 hs2 ha2 hy2 hp2 htx
 have uk := conv_u64 (n := nk) (by omega); have us := conv_u64 (n := ns) (by omega); have uy := conv_u64 (n := ny) (by omega); have up := conv_u64 (n := np) (by omega)
 have lk := numB_le (n := nk) (by omega); have ls := numB_le (n := ns) (by omega); have la := numB_le (n := na) (by omega); have ly := numB_le (n := ny) (by omega); have lp := numB_le (n := np) (by omega)
 have HFE := kp (show putEB ⟨(nk : Int), (ns : Int), tx, (na : Int), (ny : Int), (np : Int)⟩ = numB nk ++ numB ns ++ tx ++ numB na ++ numB ny ++ numB np by unfold putEB; simp only [Int.toNat_natCast])
 clear hr
 obtain ⟨cs, hcs⟩ : ∃ cs, cs = entV ⟨(nk : Int), (ns : Int), tx, (na : Int), (ny : Int), (np : Int)⟩ := ⟨_, rfl⟩
 have HCS := kp hcs
 rw [← hcs]
 rw [← hcs] at HL
 clear hcs
 obtain ⟨gh, hgh⟩ : ∃ gh, gh = w.heap.size := ⟨_, rfl⟩
 have HG := kp hgh
 have HGW := kp (show w.heap.size ≤ gh by omega)
 go_enter Tryz.func37, Tryz.ntmps37
 go_wp2_with (first | (with_reducible refine wpl_box (o := ⟨some 1, _, _, _, _, _⟩) rfl rfl rfl ?_))
 intro w_ hb1 hbw1 hsz1
 rw [← hgh] at hb1 hbw1 hsz1 ⊢
 have HH := kp hb1
 rw [HCS.out] at HH
 have HB := kp (show Grow w w_ by rw [hgh] at hbw1; exact hbw1)
 clear hb1 hbw1 hsz1 hgh HCS
 try go_wp2_with fail
 repeat' (first | (with_reducible refine wp_plan (id := 1) Grow [0,2,0,4,0,1,0,3,3,0] (.get 0 (.get 1 (.get 2 (.get 4 (.get 5 (.get 6 (.act 3 (.act 7 (.act 8 (.get 9 .done)))))))))) (by kernel_rfl) (by kernel_rfl) Grow.refl Grow.trans ?_) | go_values | go_skip | go_guarded | go_step | go_upon | go_back)
 intro w_ hd_
 have hb_ := hd_.grow
 replace HB := kp (HB.out.grow' hb_)
 replace HH := kp (HH.out.grow hb_)
 clear hb_ hd_
 have c0 := kp (HH.out.at_ (ent_at HXO.out).1)
 have c1 := kp (HH.out.at_ (ent_at HXO.out).2.1)
 repeat (first | (refine pl_calm rfl rfl (by first | exact wanted_none rfl | (go_simp; done) | rfl) (fun w_ => by first | (go_simp; rfl) | (go_simp; done) | rfl) (fun K hK => ?_); go_simp; refine hK _ _ ?_; clear hK K) | (refine pl_skip rfl (by first | (go_simp; done) | rfl) (fun K hK => ?_); go_simp; refine hK _ _ ?_; clear hK K) | (refine pl_skipa rfl (by first | (go_simp; done) | rfl) (fun K hK => ?_); go_simp; refine hK _ _ ?_; clear hK K) | (refine pl_load rfl rfl (by first | exact wanted_none rfl | (go_simp; done) | rfl) rfl (by first | rfl | (go_simp; rfl)) (by kernel_rfl) (by first | exact c0.out | exact c1.out) (fun K hK => ?_); go_simp; refine hK _ _ ?_; clear hK K) | (refine pl_loadnow rfl rfl (by first | exact wanted_none rfl | (go_simp; done) | rfl) rfl (by first | rfl | (go_simp; rfl)) (by kernel_rfl) (by first | exact c0.out | exact c1.out) (fun K hK => ?_); go_simp; refine hK _ _ ?_; clear hK K))
 clear c0 c1
 have HLT := kp (show gh + 1 ≤ w_.heap.size from HH.out.lt)
 refine pl_act rfl (by first | exact wanted_none rfl | (go_simp; done) | rfl) (fun K hK => ?_)
 go_wp2_with fail
 refine (rnum_any nk _ (by omega)).mono ?_
 rintro e w_ ⟨A1, d1, rfl, ho_, hc_, hb_⟩
 go_wp2_with fail
 refine hK _ _ (fun _ => hb_) ?_
 clear hK K
 replace HB := kp (HB.out.grow' hb_)
 replace HH := kp (HH.out.grow hb_)
 clear hb_
 have HO1 := kp ho_
 clear ho_ hc_
 refine pl_act rfl (by first | exact wanted_none rfl | (go_simp; done) | rfl) (fun K hK => ?_)
 go_wp2_with fail
 refine (rnum_any ns _ (by omega)).mono ?_
 rintro e w_ ⟨A2, d2, rfl, ho_, hc_, hb_⟩
 go_wp2_with fail
 refine hK _ _ (fun _ => hb_) ?_
 clear hK K
 replace HB := kp (HB.out.grow' hb_)
 replace HH := kp (HH.out.grow hb_)
 replace HO1 := kp (HO1.out.grow hb_)
 clear hb_
 have HSL := kp (Sl.of_own ho_)
 clear ho_ hc_
 refine pl_act rfl (by exact wanted_none rfl) (fun K hK => ?_)
 have HONE := kp (all_bytes (numB ns))
 have HO2 := kp (own_base HO1.out (show gh + 1 ≤ _ from HLT.out))
 clear HO1
 refine wpl_apps rfl rfl el_u8 HO2.out rfl HSL.out rfl HONE.out (by omega) (by omega) (by have := HH.out.lt; omega) ?_
 intro A1 c1 w3 ho_ hg_ hA_
 obtain ⟨n1, hn3⟩ : ∃ k, k = (numB nk).length + (numB ns).length := ⟨_, rfl⟩
 obtain ⟨ac1, hac⟩ : ∃ k, k = numB nk ++ numB ns := ⟨_, rfl⟩
 rw [← hn3] at ho_ ⊢
 have HO_ := kp (show w3.ownsRow (gh + 1) 5 1 (.slice A1 n1 c1) n1 (ac1.map B) by rw [hac, List.map_append]; exact ho_)
 have HN_ := kp (show n1 = ac1.length by rw [hac, List.length_append, hn3])
 have HL_ := kp (show n1 ≤ 64 by rw [hn3]; omega)
 have HAC1 := kp hac
 have HH_ := kp (own_blk_far (base := 0) HO2.out hg_ HH.out)
 have HB_ := kp (own_below_far HO2.out hg_ HB.out HGW.out)
 clear ho_ hg_ hA_ hn3 hac HH HB HO2 HSL HONE
 have HO := HO_; have HN := HN_; have HH := HH_; have HB := HB_; have HNL := HL_
 clear HO_ HN_ HH_ HB_ HL_
 try clear w_
 rename World => w_
 go_wp2_with fail
 refine hK _ _ (fun h => by cases h) ?_
 clear hK K
 repeat ((first | refine pl_calm rfl rfl (by first | exact wanted_none rfl | (go_simp; done) | rfl) (fun w_ => by first | (go_simp; rfl) | (go_simp; done) | rfl) (fun K hK => ?_) | refine pl_skip rfl (by first | (go_simp; done) | rfl) (fun K hK => ?_) | refine pl_skipa rfl (by first | (go_simp; done) | rfl) (fun K hK => ?_)); go_simp; refine hK _ _ ?_; clear hK K)
 refine pl_done ?_
 have hm_ := midE HXO.out HH.out
 go_wp2_with (first | (with_reducible refine wpl_loadm (o := ⟨some 15, _, _, _, _, _⟩) rfl rfl row_aid hm_ rfl (by rw [List.length_map]; exact htx) ?_))
 refine (tbytes_any (dig_map htx) _).mono ?_
 rintro e w2_ ⟨A2, d2, rfl, hs_, hc_, hb_⟩
 have HSL := kp hs_
 have HONE := kp (all_bytes tx)
 clear hm_ hs_ hc_
 replace HH := kp (HH.out.grow hb_)
 replace HB := kp (HB.out.grow' hb_)
 replace HO := kp (HO.out.grow hb_)
 clear hb_
 try clear w_
 rename World => w_
 have hn_ := HNL.out
 have hgl_ := HH.out.lt
 go_wp2_with (at_builtin; refine wpl_apps rfl rfl el_u8 HO.out rfl HSL.out rfl HONE.out (by omega) (by omega) (by omega) ?_)
 clear hn_ hgl_
 intro A2 c2 w3 ho_ hg_ hA_
 obtain ⟨n2, hn3⟩ : ∃ k, k = n1 + 32 := ⟨_, rfl⟩
 obtain ⟨ac2, hac⟩ : ∃ k, k = ac1 ++ tx := ⟨_, rfl⟩
 rw [← hn3] at ho_ ⊢
 have HO_ := kp (show w3.ownsRow (gh + 1) 5 1 (.slice A2 n2 c2) n2 (ac2.map B) by rw [hac, List.map_append]; exact ho_)
 have HN_ := kp (show n2 = ac2.length by rw [hac, List.length_append, hn3, HN.out, show tx.length = 32 from htx])
 have HL_ := kp (show n2 ≤ 96 by rw [hn3]; have := HNL.out; omega)
 have HAC2 := kp hac
 have HH_ := kp (own_blk_far (base := 0) HO.out hg_ HH.out)
 have HB_ := kp (own_below_far HO.out hg_ HB.out HGW.out)
 clear ho_ hg_ hA_ hn3 hac HH HB HO HSL HONE HN HNL
 have HO := HO_; have HN := HN_; have HH := HH_; have HB := HB_; have HNL := HL_
 clear HO_ HN_ HH_ HB_ HL_
 try clear w_
 rename World => w_
 have c0 := HH.out.at_ (ent_at HXO.out).2.2.1
 go_wp2_with fail
 refine (rnum_any na _ (by omega)).mono ?_
 rintro e w2_ ⟨A2, d2, rfl, ho_, hc_, hb_⟩
 have HSL := kp (Sl.of_own ho_)
 have HONE := kp (all_bytes (numB na))
 clear ho_ hc_ c0
 replace HH := kp (HH.out.grow hb_)
 replace HB := kp (HB.out.grow' hb_)
 replace HO := kp (HO.out.grow hb_)
 clear hb_
 try clear w_
 rename World => w_
 have hn_ := HNL.out
 have hgl_ := HH.out.lt
 go_wp2_with (at_builtin; refine wpl_apps rfl rfl el_u8 HO.out rfl HSL.out rfl HONE.out (by omega) (by omega) (by omega) ?_)
 clear hn_ hgl_
 intro A3 c3 w3 ho_ hg_ hA_
 obtain ⟨n3, hn3⟩ : ∃ k, k = n2 + (numB na).length := ⟨_, rfl⟩
 obtain ⟨ac3, hac⟩ : ∃ k, k = ac2 ++ numB na := ⟨_, rfl⟩
 rw [← hn3] at ho_ ⊢
 have HO_ := kp (show w3.ownsRow (gh + 1) 5 1 (.slice A3 n3 c3) n3 (ac3.map B) by rw [hac, List.map_append]; exact ho_)
 have HN_ := kp (show n3 = ac3.length by rw [hac, List.length_append, hn3, HN.out])
 have HL_ := kp (show n3 ≤ 128 by rw [hn3]; have := HNL.out; omega)
 have HAC3 := kp hac
 have HH_ := kp (own_blk_far (base := 0) HO.out hg_ HH.out)
 have HB_ := kp (own_below_far HO.out hg_ HB.out HGW.out)
 clear ho_ hg_ hA_ hn3 hac HH HB HO HSL HONE HN HNL
 have HO := HO_; have HN := HN_; have HH := HH_; have HB := HB_; have HNL := HL_
 clear HO_ HN_ HH_ HB_ HL_
 try clear w_
 rename World => w_
 have c0 := HH.out.at_ (ent_at HXO.out).2.2.2.1
 go_wp2_with fail
 refine (rnum_any ny _ (by omega)).mono ?_
 rintro e w2_ ⟨A2, d2, rfl, ho_, hc_, hb_⟩
 have HSL := kp (Sl.of_own ho_)
 have HONE := kp (all_bytes (numB ny))
 clear ho_ hc_ c0
 replace HH := kp (HH.out.grow hb_)
 replace HB := kp (HB.out.grow' hb_)
 replace HO := kp (HO.out.grow hb_)
 clear hb_
 try clear w_
 rename World => w_
 have hn_ := HNL.out
 have hgl_ := HH.out.lt
 go_wp2_with (at_builtin; refine wpl_apps rfl rfl el_u8 HO.out rfl HSL.out rfl HONE.out (by omega) (by omega) (by omega) ?_)
 clear hn_ hgl_
 intro A4 c4 w3 ho_ hg_ hA_
 obtain ⟨n4, hn3⟩ : ∃ k, k = n3 + (numB ny).length := ⟨_, rfl⟩
 obtain ⟨ac4, hac⟩ : ∃ k, k = ac3 ++ numB ny := ⟨_, rfl⟩
 rw [← hn3] at ho_ ⊢
 have HO_ := kp (show w3.ownsRow (gh + 1) 5 1 (.slice A4 n4 c4) n4 (ac4.map B) by rw [hac, List.map_append]; exact ho_)
 have HN_ := kp (show n4 = ac4.length by rw [hac, List.length_append, hn3, HN.out])
 have HL_ := kp (show n4 ≤ 160 by rw [hn3]; have := HNL.out; omega)
 have HAC4 := kp hac
 have HH_ := kp (own_blk_far (base := 0) HO.out hg_ HH.out)
 have HB_ := kp (own_below_far HO.out hg_ HB.out HGW.out)
 clear ho_ hg_ hA_ hn3 hac HH HB HO HSL HONE HN HNL
 have HO := HO_; have HN := HN_; have HH := HH_; have HB := HB_; have HNL := HL_
 clear HO_ HN_ HH_ HB_ HL_
 try clear w_
 rename World => w_
 have c0 := HH.out.at_ (ent_at HXO.out).2.2.2.2
 go_wp2_with fail
 refine (rnum_any np _ (by omega)).mono ?_
 rintro e w2_ ⟨A2, d2, rfl, ho_, hc_, hb_⟩
 have HSL := kp (Sl.of_own ho_)
 have HONE := kp (all_bytes (numB np))
 clear ho_ hc_ c0
 replace HH := kp (HH.out.grow hb_)
 replace HB := kp (HB.out.grow' hb_)
 replace HO := kp (HO.out.grow hb_)
 clear hb_
 try clear w_
 rename World => w_
 have hn_ := HNL.out
 have hgl_ := HH.out.lt
 go_wp2_with (at_builtin; refine wpl_apps rfl rfl el_u8 HO.out rfl HSL.out rfl HONE.out (by omega) (by omega) (by omega) ?_)
 clear hn_ hgl_
 intro A5 c5 w3 ho_ hg_ hA_
 obtain ⟨n5, hn3⟩ : ∃ k, k = n4 + (numB np).length := ⟨_, rfl⟩
 obtain ⟨ac5, hac⟩ : ∃ k, k = ac4 ++ numB np := ⟨_, rfl⟩
 rw [← hn3] at ho_ ⊢
 have HO_ := kp (show w3.ownsRow (gh + 1) 5 1 (.slice A5 n5 c5) n5 (ac5.map B) by rw [hac, List.map_append]; exact ho_)
 have HN_ := kp (show n5 = ac5.length by rw [hac, List.length_append, hn3, HN.out])
 have HL_ := kp (show n5 ≤ 192 by rw [hn3]; have := HNL.out; omega)
 have HAC5 := kp hac
 have HH_ := kp (own_blk_far (base := 0) HO.out hg_ HH.out)
 have HB_ := kp (own_below_far HO.out hg_ HB.out HGW.out)
 clear ho_ hg_ hA_ hn3 hac HH HB HO HSL HONE HN HNL
 have HO := HO_; have HN := HN_; have HH := HH_; have HB := HB_; have HNL := HL_
 clear HO_ HN_ HH_ HB_ HL_
 try clear w_
 rename World => w_
 have HEQ := kp (show ac5 = numB nk ++ numB ns ++ tx ++ numB na ++ numB ny ++ numB np by rw [HAC5.out, HAC4.out, HAC3.out, HAC2.out, HAC1.out])
 go_wp2_with fail
 go_ret
 have ho := HO.out
 rw [HN.out, HEQ.out] at ho ⊢
 rw [HFE.out]
 exact ⟨_, _, rfl, Sl.of_own ho, own_cap1 ho, HB.out⟩
set_option maxRecDepth 100000 in
set_option maxHeartbeats 1000000 in
theorem rhid_any (x : Hdr) {zs : List Value} (hz : Dig zs (hidB x)) (w : World) (hx : x.ok) : Calls Tryz.prog 56 #[.agg (hdrV x).toArray] w fun e w' => e = .returned (.agg zs.toArray) ∧ Below w.heap.size w w' := by
 have HR := kp (fun w => rhright_any x w hx)
 have HPP := kp (fun w h => rhput_any x w hx h)
 have HL := kp (hdrV_length hx)
 have HZ := kp hz
 have HPL := kp (fun h => putHB_len hx h)
 obtain ⟨r, hr⟩ : ∃ r, r = rightH x := ⟨_, rfl⟩
 have HRR := kp hr
 rw [← hr] at HR
 clear hr hx hz
 obtain ⟨cs, hcs⟩ : ∃ cs, cs = hdrV x := ⟨_, rfl⟩
 rw [← hcs] at HR HPP HL ⊢
 clear hcs
 obtain ⟨gh, hgh⟩ : ∃ gh, gh = w.heap.size := ⟨_, rfl⟩
 have HG := kp hgh
 go_enter Tryz.func56, Tryz.ntmps56
 go_wp2_with (first | (with_reducible refine wpl_box (o := ⟨some 1, _, _, _, _, _⟩) rfl rfl rfl ?_))
 intro w1 hb1 hbw1 hsz1
 rw [← hgh] at hb1 hbw1 hsz1 ⊢
 clear hgh
 go_wp2_with (first | (with_reducible refine wpl_alloc (o := ⟨some 2, _, _, _, _, _⟩) rfl rfl zero_id ?_))
 intro w2 hb2 hbw2 hsz2
 have HH := kp (hb1.below hbw2 (by omega))
 have HV := kp (at_mk hb2 len_id)
 have HB := kp (show Grow w w2 by rw [HG.out] at hbw1; exact Below.trans hbw1 (hbw2.mono (by have := HG.out; omega)))
 have HVG := kp (show w.heap.size ≤ gh + 1 by have := HG.out; omega)
 clear hb1 hb2 hbw1 hbw2 hsz1 hsz2
 go_wp2_with (first | (with_reducible refine wpl_loadb (o := ⟨some 3, _, _, _, _, _⟩) rfl rfl row_header HH.out rfl HL.out ?_))
 refine (HR.out _).mono ?_
 rintro e w_ ⟨rfl, hb_⟩
 replace HV := kp (HV.out.grow hb_)
 replace HB := kp (HB.out.grow' hb_)
 replace HH := kp (HH.out.grow hb_)
 clear hb_ HR
 try clear w2
 cases r with
 | false =>
  have HZ0 := kp (show zs = zeroD.map B by have h := HZ.out.1; unfold hidB at h; rw [← HRR.out] at h; exact h)
  have T0 := kp built_id0
  rw [← HZ0.out] at T0
  go_wp2_with (first | (refine wpl_build (o := ⟨some 6, _, _, _, _, _⟩) rfl rfl T0.out ?_) | (with_reducible refine wpl_storeb (o := ⟨none, .store _ _ _, _, _, _, _⟩) rfl rfl row_id HV.out.blk rfl rfl HV.out.len HZ.out.len HZ.out.one ?_))
  intro w4 hb4 hg4 hs4
  have HB4 := kp hb4
  have HBB := kp (put_below HB.out HVG.out hg4)
  clear hb4 hg4 hs4
  go_wp2_with fail
  refine ret_cell rfl row_id HB4.out rfl HZ.out.len rfl ?_
  exact ⟨rfl, HBB.out⟩
 | true =>
  have HZ1 := kp (show Dig zs (sha (underB 11 [putHB x])) by have h := HZ.out; unfold hidB at h; rw [if_pos HRR.out.symm] at h; exact h)
  obtain ⟨n, hn⟩ : ∃ n, n = (putHB x).length := ⟨_, rfl⟩
  have HN := kp hn.symm
  have hn91 : n ≤ 91 := by rw [hn]; exact HPL.out HRR.out.symm
  clear hn
  go_wp2_with (first | (with_reducible refine wpl_loadb (o := ⟨some 8, _, _, _, _, _⟩) rfl rfl row_header (HH.out.alloc _) rfl HL.out ?_))
  generalize hw_ : World.alloc w_ _ = w1_
  obtain ⟨hX_, hb1, hs_⟩ := alloc_eq hw_
  have HO := kp (own_blk (base := w_.heap.size) hX_ (n := 1) rfl (Nat.le_refl _) (by simp [maxLen]))
  have HG1 := kp hb1
  clear hw_ hX_ hb1 hs_
  refine (HPP.out _ HRR.out.symm).mono ?_
  rintro e w2_ ⟨A4, c4, rfl, hsl, hcc, hb_⟩
  rw [HN.out] at hsl ⊢
  have HSL := kp hsl
  have HO2 := kp (own_below HO.out hb_)
  have HG2 := kp (Grow.trans _ _ _ HG1.out hb_)
  clear hsl hcc hb_ HO HG1
  go_wp2_with fail
  refine (long_any _ _ _ (putHB x) _ HSL.out (by omega)).mono ?_
  rintro e w3_ ⟨A5, c5, rfl, ho_, hb_⟩
  have HLG := kp (Sl.of_own ho_)
  have HA := kp (all_bytes (beBytes n 4 ++ putHB x))
  have HO3 := kp (own_below HO2.out hb_)
  have HG3 := kp (Grow.trans _ _ _ HG2.out hb_)
  clear ho_ hb_ HO2 HSL HG2
  go_wp2_with (at_builtin; refine wpl_apps rfl rfl el_u8 HO3.out rfl HLG.out rfl HA.out (by omega) (by omega) HG3.out.size ?_)
  intro A6 c6 w4 ho hg hA
  have hb4 : Grow w_ w4 := app_below HG3.out HO3.out hg
  have HX := kp (show Sl w4 w4.heap.size 1 A6 (1 + (4 + n)) ((underB 11 [putHB x]).map B) by
   have h := Sl.of_own ho
   rw [under_eq 11 (putHB x) n HN.out]
   try simp only [List.map_append, List.map_cons, List.map_nil, List.cons_append, List.nil_append, List.append_assoc] at h
   simp only [List.map_append, List.map_cons, List.map_nil, List.cons_append, List.nil_append, List.append_assoc]
   exact h)
  have HB_ := kp (HB.out.grow' hb4)
  have HV_ := kp (HV.out.grow hb4)
  clear HB HV ho hg hA HO3 HG3 HLG HA hb4 HH
  go_wp2_with fail
  refine (dof_any _ _ _ HZ1.out _ HX.out (by omega)).mono ?_
  rintro e w5 ⟨rfl, hb5⟩
  have HV5 := kp (HV_.out.grow hb5)
  have HB5 := kp (HB_.out.grow' hb5)
  clear hb5 HV_ HB_
  go_wp2_with (first | (with_reducible refine wpl_storeb (o := ⟨none, .store _ _ _, _, _, _, _⟩) rfl rfl row_id HV5.out.blk rfl rfl HV5.out.len HZ.out.len HZ.out.one ?_))
  intro w6 hb6 hg6 hs6
  have HB6 := kp hb6
  have HBB := kp (put_below HB5.out HVG.out hg6)
  clear hb6 hg6 hs6
  go_wp2_with fail
  refine ret_cell rfl row_id HB6.out rfl HZ.out.len rfl ?_
  exact ⟨rfl, HBB.out⟩
def okL (x : Ent) (i : Int) : Bool := rightE x && decide (i ≤ 4611686018427387904)
theorem leavesB_yes {c : List UInt8} {x : Ent} {i : Int} (h : okL x i = true) : leavesB c x i = [c, putEB x, numB i.toNat] := by
 unfold okL at h; simp only [Bool.and_eq_true, decide_eq_true_eq] at h; unfold leavesB; rw [if_pos h]
theorem leavesB_no {c : List UInt8} {x : Ent} {i : Int} (h : okL x i = false) : leavesB c x i = [] := by
 unfold leavesB; rw [if_neg]; intro hh; unfold okL at h; rw [hh.1] at h; simp at h; omega
theorem parts3 {w : World} {g : Nat} {t : TypeId} {A1 A2 A3 : Option Addr} {n1 c1 n2 c2 n3 c3 : Nat} {b1 b2 b3 : List UInt8} (hb : Blk w g t [.slice A1 n1 c1, .slice A2 n2 c2, .slice A3 n3 c3]) (h1 : Sl w w.heap.size 1 A1 n1 (b1.map B)) (k1 : n1 ≤ c1) (h2 : Sl w w.heap.size 1 A2 n2 (b2.map B)) (k2 : n2 ≤ c2) (h3 : Sl w w.heap.size 1 A3 n3 (b3.map B)) (k3 : n3 ≤ c3) :
  ∃ ps, Parts w w.heap.size (some ⟨g, 0, none⟩) 3 ps ∧ ps.map Prod.snd = [b1, b2, b3] :=
 ⟨[(.slice A1 n1 c1, b1), (.slice A2 n2 c2, b2), (.slice A3 n3 c3, b3)], parts_blk hb rfl (by intro p hp; simp only [List.mem_cons, List.not_mem_nil, or_false] at hp; rcases hp with rfl | rfl | rfl; exact part_mk h1 k1; exact part_mk h2 k2; exact part_mk h3 k3), rfl⟩
def LS (w : World) (A : Option Addr) (n c : Nat) (ls : List (List UInt8)) : Prop := ∃ ps, Parts w w.heap.size A n ps ∧ ps.map Prod.snd = ls ∧ n ≤ c
theorem LS.grow {w w2 : World} {A : Option Addr} {n c : Nat} {ls : List (List UInt8)} (h : LS w A n c ls) (k : Grow w w2) : LS w2 A n c ls := by obtain ⟨ps, h1, h2⟩ := h; exact ⟨ps, h1.grow k, h2⟩
theorem LS.nil (w : World) : LS w none 0 0 [] := ⟨[], ⟨Sl.nil, fun p hp => by cases hp⟩, rfl, Nat.le_refl _⟩
set_option maxRecDepth 100000 in
set_option maxHeartbeats 1000000 in
theorem leaves_any (A : Option Addr) (n c : Nat) (bs : List UInt8) (x : Ent) (i : Int) (w : World) (hs : Sl w w.heap.size 1 A n (bs.map B)) (hc : n ≤ c) (hn : n ≤ 1000000) (hx : x.ok) (hi : U64 i) :
  Calls Tryz.prog 13 #[.slice A n c, .agg (entV x).toArray, .int .u64 i] w fun e w' => ∃ A' n' c', e = .returned (.tuple #[.slice A' n' c', .bool (okL x i)]) ∧ LS w' A' n' c' (leavesB bs x i) ∧ n' = (leavesB bs x i).length ∧ Grow w w' := by
 have HP := kp (fun w => eput_any x w hx)
 have HL := kp (entV_length hx)
 have HS := kp hs
 have HPL := kp (fun h => putEB_len hx h)
 obtain ⟨iN, rfl⟩ := nat_of hi.1
 have hi2 := hi.2
 obtain ⟨r, hr⟩ : ∃ r, r = rightE x := ⟨_, rfl⟩
 have HRR := kp hr
 unfold eformB at HP
 rw [← hr] at HP
 clear hr hs
 obtain ⟨cs, hcs⟩ : ∃ cs, cs = entV x := ⟨_, rfl⟩
 rw [← hcs] at HP HL ⊢
 clear hcs hi
 have HB := kp (Below.refl w.heap.size w)
 go_enter Tryz.func13, Tryz.ntmps13
 obtain ⟨gh, hgh⟩ : ∃ gh, gh = w.heap.size := ⟨_, rfl⟩
 have HG := kp hgh
 go_wp2_with (first | (with_reducible refine wpl_box (o := ⟨some 4, _, _, _, _, _⟩) rfl rfl rfl ?_))
 intro w1 hb1 hbw1 hsz1
 rw [← hgh] at hb1 hbw1 hsz1 ⊢
 clear hgh
 have HH := kp hb1
 have hg1 : Grow w w1 := by rw [HG.out] at hbw1; exact hbw1
 have HB1 := kp (HB.out.grow' hg1)
 have HS1 := kp (HS.out.grow hg1)
 clear hb1 hbw1 hsz1 hg1 HB HS
 go_wp2_with (first | (with_reducible refine wpl_loadb (o := ⟨some 12, _, _, _, _, _⟩) rfl rfl row_entry HH.out rfl HL.out ?_))
 refine (HP.out _).mono ?_
 rintro e w_ ⟨A2, c2, rfl, hs2, hc2, hb_⟩
 have HS2 := kp hs2; have HC2 := kp hc2
 have HB := kp (HB1.out.grow' hb_)
 have HS := kp (HS1.out.grow hb_)
 clear hb_ HB1 HS1 hs2 hc2 HP HH
 by_cases hok : okL x iN = true
 ·have HOK := kp hok
  have hr : r = true := by rw [HRR.out]; unfold okL at hok; simp only [Bool.and_eq_true] at hok; exact hok.1
  have hi62 : iN ≤ 4611686018427387904 := by unfold okL at hok; simp only [Bool.and_eq_true, decide_eq_true_eq] at hok; omega
  clear hok
  subst hr
  simp only [if_true]
  have d1 : decide ((4611686018427387904 : Int) < (iN : Int)) = false := by simp; omega
  have HS2x := kp (show Sl w_ w_.heap.size 1 A2 (putEB x).length ((putEB x).map B) from HS2.out)
  have HC2x := kp (show (putEB x).length ≤ c2 from HC2.out)
  have hE77 := HPL.out HRR.out.symm
  obtain ⟨ne, hne⟩ : ∃ k, k = (putEB x).length := ⟨_, rfl⟩
  rw [← hne] at HS2x HC2x hE77 ⊢
  clear HS2 HC2 hne
  go_wp2_with (first | (with_reducible refine wpl_alloc (o := ⟨some 10, _, _, _, _, _⟩) rfl rfl zero_pen ?_))
  intro w3 hb3 hbw3 hsz3
  obtain ⟨g, hg⟩ : ∃ g, g = w_.heap.size := ⟨_, rfl⟩
  rw [← hg] at hb3 hsz3 hbw3 ⊢
  have HPEN := kp (PenAt.new (K := fun k => k < g) hb3 (fun k hk => ⟨by omega, by omega⟩))
  have HGG := kp hg
  have HS3 := kp (show Sl w3 g 1 A n (bs.map B) by have h := HS.out; rw [← hg] at h; exact h.below hbw3)
  have HE3 := kp (show Sl w3 g 1 A2 ne ((putEB x).map B) by have h := HS2x.out; rw [← hg] at h; exact h.below hbw3)
  have HB3 := kp (show Grow w w3 from HB.out.grow' (by rw [hg] at hbw3; exact hbw3))
  have HGW := kp (show w.heap.size ≤ g by have := HB.out.size; omega)
  clear hb3 hbw3 hsz3 hg HS HS2x HB
  try clear w_
  go_wp2_with fail
  refine (num_any g iN _ [] _ HPEN.out (by simp) (by omega)).mono ?_
  rintro e w4 ⟨rfl, hp4, hk4⟩
  have HP4 := kp hp4
  have hbl := hk4.below (Bd := g) (fun k hk => hk)
  have HS4 := kp ((HS3.out.below hbl).more (Nat.le_of_lt hp4.lt))
  have HE4 := kp ((HE3.out.below hbl).more (Nat.le_of_lt hp4.lt))
  have HB4 := kp (show Grow w w4 from Below.trans (B := w.heap.size) HB3.out (hbl.mono HGW.out))
  clear hp4 hk4 hbl HS3 HE3 HB3 HPEN
  go_wp2_with fail
  refine (bclone_any A n c bs _ HS4.out hn).mono ?_
  rintro e w5 ⟨A5, c5, rfl, ho5, hc5, hb_⟩
  have HX5 := kp (Sl.of_own ho5)
  have HC5 := kp hc5
  have HP5 := kp (HP4.out.grow hb_)
  have HE5 := kp (HE4.out.grow hb_)
  have HB5 := kp (HB4.out.grow' hb_)
  clear ho5 hc5 hb_ HP4 HE4 HB4 HS4
  go_wp2_with fail
  refine (pbytes_any g _ ([] ++ numB iN) _ HP5.out (by rw [List.nil_append]; have := numB_le (n := iN) (by omega); omega)).mono ?_
  rintro e w6 ⟨A6, c6, rfl, ho6, hc6, hb_⟩
  rw [List.nil_append] at ho6 hc6 ⊢
  have HX6 := kp (Sl.of_own ho6)
  have HC6 := kp hc6
  have HX5_ := kp (HX5.out.grow hb_)
  have HE6 := kp (HE5.out.grow hb_)
  have HB6 := kp (HB5.out.grow' hb_)
  clear ho6 hc6 hb_ HP5 HE5 HB5 HX5
  go_wp2_with fail
  generalize hw_ : World.alloc w6 _ = w7
  obtain ⟨hX, hb, hsz⟩ := alloc_eq hw_
  have HP3 := kp (parts3 hX (HX5_.out.grow hb) HC5.out (HE6.out.grow hb) HC2x.out (HX6.out.grow hb) HC6.out)
  have HB7 := kp (HB6.out.grow' hb)
  clear hX hb hsz hw_
  go_ret2
  rw [leavesB_yes HOK.out, HOK.out, Int.toNat_natCast]
  obtain ⟨ps, hp1, hp2⟩ := HP3.out
  exact ⟨_, 3, 3, rfl, ⟨ps, hp1, hp2, Nat.le_refl _⟩, rfl, HB7.out⟩
 ·have hok2 : okL x iN = false := by simpa using hok
  have HOK := kp hok2
  have HE := kp (show r = false ∨ decide ((4611686018427387904 : Int) < (iN : Int)) = true by
   cases r with
   | false => exact .inl rfl
   | true =>
    right
    unfold okL at hok2; rw [← HRR.out] at hok2; simp at hok2 ⊢; omega)
  clear hok hok2 HS2 HC2
  cases r with
  | false =>
   go_wp2_with fail
   go_ret2
   rw [leavesB_no HOK.out, HOK.out]
   exact ⟨none, 0, 0, rfl, LS.nil _, rfl, HB.out⟩
  | true =>
   have d1 : decide ((4611686018427387904 : Int) < (iN : Int)) = true := by rcases HE.out with h | h; cases h; exact h
   go_wp2_with fail
   go_ret2
   rw [leavesB_no HOK.out, HOK.out]
   exact ⟨none, 0, 0, rfl, LS.nil _, rfl, HB.out⟩
set_option maxRecDepth 100000 in
set_option maxHeartbeats 1000000 in
theorem rleaves_any (A : Option Addr) (n c : Nat) (bs : List UInt8) (x : Ent) (i : Int) (w : World) (hs : Sl w w.heap.size 1 A n (bs.map B)) (hc : n ≤ c) (hn : n ≤ 1000000) (hx : x.ok) (hi : U64 i) :
  Calls Tryz.prog 17 #[.slice A n c, .agg (entV x).toArray, .int .u64 i] w fun e w' => ∃ A' n' c', e = .returned (.slice A' n' c') ∧ LS w' A' n' c' (leavesB bs x i) ∧ n' = (leavesB bs x i).length ∧ Grow w w' := by
 have HR := kp (fun w => reright_any x w hx)
 have HPP := kp (fun w h => reput_any x w hx h)
 have HL := kp (entV_length hx)
 have HS := kp hs
 obtain ⟨iN, rfl⟩ := nat_of hi.1
 have hi2 := hi.2
 obtain ⟨r, hr⟩ : ∃ r, r = rightE x := ⟨_, rfl⟩
 have HRR := kp hr
 rw [← hr] at HR
 clear hr hs
 obtain ⟨cs, hcs⟩ : ∃ cs, cs = entV x := ⟨_, rfl⟩
 rw [← hcs] at HR HPP HL ⊢
 clear hcs hi
 have HB := kp (Below.refl w.heap.size w)
 go_enter Tryz.func17, Tryz.ntmps17
 obtain ⟨gh, hgh⟩ : ∃ gh, gh = w.heap.size := ⟨_, rfl⟩
 have HG := kp hgh
 go_wp2_with (first | (with_reducible refine wpl_box (o := ⟨some 4, _, _, _, _, _⟩) rfl rfl rfl ?_))
 intro w1 hb1 hbw1 hsz1
 rw [← hgh] at hb1 hbw1 hsz1 ⊢
 clear hgh
 have HH1 := kp hb1
 have hg1 : Grow w w1 := by rw [HG.out] at hbw1; exact hbw1
 have HB1 := kp (HB.out.grow' hg1)
 have HS1 := kp (HS.out.grow hg1)
 clear hb1 hbw1 hsz1 hg1 HB HS
 go_wp2_with (first | (with_reducible refine wpl_loadb (o := ⟨some 7, _, _, _, _, _⟩) rfl rfl row_entry HH1.out rfl HL.out ?_))
 refine (HR.out _).mono ?_
 rintro e w_ ⟨rfl, hb_⟩
 have HB := kp (HB1.out.grow' hb_)
 have HS := kp (HS1.out.grow hb_)
 have HH := kp (HH1.out.grow hb_)
 clear hb_ HB1 HS1 HH1 HR
 by_cases hok : okL x iN = true
 ·have HOK := kp hok
  have hr : r = true := by rw [HRR.out]; unfold okL at hok; simp only [Bool.and_eq_true] at hok; exact hok.1
  have hi62 : iN ≤ 4611686018427387904 := by unfold okL at hok; simp only [Bool.and_eq_true, decide_eq_true_eq] at hok; omega
  clear hok
  subst hr
  have d1 : decide ((4611686018427387904 : Int) < (iN : Int)) = false := by simp; omega
  go_wp2_with (first | (with_reducible refine wpl_loadb (o := ⟨some 15, _, _, _, _, _⟩) rfl rfl row_entry HH.out rfl HL.out ?_))
  refine (HPP.out _ HRR.out.symm).mono ?_
  rintro e w4 ⟨A2, c2, rfl, hs2, hc2, hb_⟩
  obtain ⟨ne, hne⟩ : ∃ k, k = (putEB x).length := ⟨_, rfl⟩
  rw [← hne] at hs2 hc2 ⊢
  have HE := kp hs2
  have HEC := kp hc2
  have HS4 := kp (HS.out.grow hb_)
  have HB4 := kp (HB.out.grow' hb_)
  clear hs2 hc2 hb_ hne HS HB HH
  go_wp2_with fail
  refine (rnum_any iN _ (by omega)).mono ?_
  rintro e w6 ⟨A6, c6, rfl, ho6, hc6, hb_⟩
  have HX6 := kp (Sl.of_own ho6)
  have HC6 := kp hc6
  have HE6 := kp (HE.out.grow hb_)
  have HS6 := kp (HS4.out.grow hb_)
  have HB6 := kp (HB4.out.grow' hb_)
  clear ho6 hc6 hb_ HE HS4 HB4
  go_wp2_with fail
  generalize hw_ : World.alloc w6 _ = w7
  obtain ⟨hX, hb, hsz⟩ := alloc_eq hw_
  have HP3 := kp (parts3 hX (HS6.out.grow hb) hc (HE6.out.grow hb) HEC.out (HX6.out.grow hb) HC6.out)
  have HB7 := kp (HB6.out.grow' hb)
  clear hX hb hsz hw_
  go_ret
  rw [leavesB_yes HOK.out, Int.toNat_natCast]
  obtain ⟨ps, hp1, hp2⟩ := HP3.out
  exact ⟨_, 3, 3, rfl, ⟨ps, hp1, hp2, Nat.le_refl _⟩, rfl, HB7.out⟩
 ·have hok2 : okL x iN = false := by simpa using hok
  have HOK := kp hok2
  have HE := kp (show r = false ∨ decide ((4611686018427387904 : Int) < (iN : Int)) = true by
   cases r with
   | false => exact .inl rfl
   | true =>
    right
    unfold okL at hok2; rw [← HRR.out] at hok2; simp at hok2 ⊢; omega)
  clear hok hok2
  cases r with
  | false =>
   go_wp2_with fail
   go_ret
   rw [leavesB_no HOK.out]
   exact ⟨none, 0, 0, rfl, LS.nil _, rfl, HB.out⟩
  | true =>
   have d1 : decide ((4611686018427387904 : Int) < (iN : Int)) = true := by rcases HE.out with h | h; cases h; exact h
   go_wp2_with fail
   go_ret
   rw [leavesB_no HOK.out]
   exact ⟨none, 0, 0, rfl, LS.nil _, rfl, HB.out⟩
theorem blk_setCells {g : Nat} {t : TypeId} : ∀ (vs : List Value) (o : Nat) (w : World) (cs : List Value), Blk w g t cs → o + vs.length ≤ cs.length → Blk (w.setCells g o vs) g t (splice cs o vs)
 | [], o, w, cs, h, _ => by simpa [splice, World.setCells] using h
 | v :: r, o, w, cs, h, hl => by
  simp only [List.length_cons] at hl
  have h1 := blk_setCells r (o + 1) _ _ (h.set_ o v) (by rw [List.length_set]; omega)
  have e : splice (cs.set o v) (o + 1) r = splice cs o (v :: r) := by
   apply List.ext_getElem?
   intro k
   rw [splice_get _ _ _ _ (by rw [List.length_set]; omega), splice_get _ _ _ _ (by simp only [List.length_cons]; omega)]
   simp only [List.length_cons]
   by_cases h1 : k = o
   ·subst h1
    rw [if_neg (by omega), if_pos (by omega), List.getElem?_set, if_pos rfl, if_pos (by omega), Nat.sub_self]; rfl
   ·by_cases h2 : o + 1 ≤ k ∧ k < o + 1 + r.length
    ·rw [if_pos h2, if_pos (by omega), show k - o = (k - (o + 1)) + 1 by omega, List.getElem?_cons_succ]
    ·rw [if_neg h2, if_neg (by omega), List.getElem?_set, if_neg (by omega)]
  rw [e] at h1
  exact h1
theorem grown_setCells (g : Nat) : ∀ (vs : List Value) (o : Nat) (w : World), w.grownBy (w.setCells g o vs) (some g) ∧ (w.setCells g o vs).heap.size = w.heap.size
 | [], o, w => ⟨⟨rfl, rfl, rfl, Nat.le_refl _, fun _ _ _ => rfl⟩, rfl⟩
 | v :: r, o, w => by
  obtain ⟨h1, h2⟩ := grown_setCells g r (o + 1) (w.setCell ⟨g, o, none⟩ v)
  exact ⟨grown_trans (grown_set w g o v) h1, h2.trans (by simp)⟩
section
variable {P : Program} {ops : Array Oper} {rest : List Oper} {o : Oper} {a : Act} {w : World} {Q : Exit → Act → World → Prop}
theorem wpl_storem (hgd : o.guard = none) {T : TypeId} {x y : Operand} (ho : o.op = .store T x y) {n : Nat} (hT : RowT P T n) {g off : Nat} {t : TypeId} {old cs : List Value} (hb : Blk w g t old) (hx : a.eval x = .pointer (some ⟨g, off, none⟩)) (hy : a.eval y = .agg cs.toArray)
  (hn : cs.length = n) (hle : off + n ≤ old.length) (h1 : ∀ u ∈ cs, u.oneCell' = true)
  (h : ∀ w', Blk w' g t (splice old off cs) → w.grownBy w' (some g) → w'.heap.size = w.heap.size → wpList P ops Q rest (a.put o.dst undef) w') : wpList P ops Q (o :: rest) a w := by
 obtain ⟨d, hu, hd, hi⟩ := hT
 refine wpList_store_mid hgd T x y ho g off cs.toArray hx hy (fun j hj => ?_) (by rw [hi]; simp [hn]) (all_oneCell_toArray h1) ?_
 ·simp only [List.size_toArray] at hj
  exact ⟨by rw [hb.at_ (List.getElem?_eq_getElem (show off + j < old.length by omega))]; rfl, hb.frozen _⟩
 ·obtain ⟨h2, h3⟩ := grown_setCells g cs off w
  exact h _ (blk_setCells cs off w old hb (by omega)) h2 h3
end
theorem built_hdr0 (parts : List (Nat × Value)) : Tryz.prog.built 33 parts = Instr.fill (fun i => (#[(0, 1), (1, 1), (2, 1), (3, 32), (35, 32)] : Array (Nat × Nat))[i]?) (hdrV noHdr).toArray parts := by kernel_rfl
theorem zero_hdr2 : (Tryz.prog.info? 33).map (·.zero) = some (some (.agg (hdrV noHdr).toArray)) := by rw [zeroHdr_eq]; exact zero_hdr
theorem built_hdrE : Tryz.prog.built 33 [] = some (hdrV noHdr).toArray := by rw [built_hdr0]; rfl
theorem built_hdr4 {s ep : Int} {root : List UInt8} (hr : root.length = 32) : Tryz.prog.built 33 [(0, .int .i64 s), (1, .int .i64 1), (2, .int .i64 ep), (4, .agg (root.map B).toArray)] = some (hdrV ⟨s, 1, ep, zeroD, root⟩).toArray := by
 have e0 : (root.map B).length = 32 := by rw [List.length_map, hr]
 have hz : zeroD.length = 32 := by simp [zeroD]
 rw [built_hdr0, fill_cons (off := 0) (s := 1) (cs := [.int .i64 s]) rfl rfl rfl (by simp [hdrV, noHdr]), fill_cons (off := 1) (s := 1) (cs := [.int .i64 1]) rfl rfl rfl (by simp [hdrV, noHdr, splice]),
  fill_cons (off := 2) (s := 1) (cs := [.int .i64 ep]) rfl rfl rfl (by simp [hdrV, noHdr, splice]), fill_cons (off := 35) (s := 32) (cs := root.map B) rfl rfl e0 (by simp [hdrV, noHdr, splice]), fill_nil]
 congr 2
 have h35 : (hdrV ⟨s, 1, ep, zeroD, root⟩) = ([.int .i64 s, .int .i64 1, .int .i64 ep] ++ zeroD.map B) ++ (root.map B ++ []) := by simp [hdrV]
 rw [h35]
 refine Eq.trans ?_ (splice_mid (off := 35) (old := (List.replicate 32 (0 : UInt8)).map B) (by simp [hz]) (by simp [hr]))
 rfl
theorem hdr_next {s h ep s2 h2 : Int} {prev prev2 root : List UInt8} (hp : prev.length = 32) (hq : prev2.length = 32) : splice (((hdrV ⟨s, h, ep, prev, root⟩).set 0 (.int .i64 s2)).set 1 (.int .i64 h2)) 3 (prev2.map B) = hdrV ⟨s2, h2, ep, prev2, root⟩ := by
 have e1 : ((hdrV ⟨s, h, ep, prev, root⟩).set 0 (.int .i64 s2)).set 1 (.int .i64 h2) = [.int .i64 s2, .int .i64 h2, .int .i64 ep] ++ (prev.map B ++ root.map B) := rfl
 rw [e1, splice_mid (off := 3) rfl (by simp [hp, hq])]; rfl
theorem ls_root_any {w : World} {A : Option Addr} {n c : Nat} {ls : List (List UInt8)} {rs : List Value} (h : LS w A n c ls) (hr : Dig rs (rootB ls)) (hn : n ≤ 1000000) (hl : ∀ l ∈ ls, l.length ≤ 1000000) (ht : Tabs w) : Calls Tryz.prog 47 #[.slice A n c] w fun e w' => e = .returned (.agg rs.toArray) ∧ Below w.heap.size w w' := by
 obtain ⟨ps, hps, hls, hnc⟩ := h
 exact root_any n n c _ ps rs _ (Nat.le_refl _) (by rw [hls]; exact hr) hps hnc (by omega) (fun p hp => hl _ (by rw [← hls]; exact List.mem_map_of_mem hp)) ht
theorem ls_rroot_any {w : World} {A : Option Addr} {n c : Nat} {ls : List (List UInt8)} {rs : List Value} (h : LS w A n c ls) (hr : Dig rs (rootB ls)) (hn : n ≤ 1000000) (hl : ∀ l ∈ ls, l.length ≤ 1000000) (ht : Tabs w) : Calls Tryz.prog 55 #[.slice A n c] w fun e w' => e = .returned (.agg rs.toArray) ∧ Below w.heap.size w w' := by
 obtain ⟨ps, hps, hls, hnc⟩ := h
 exact rroot_any n n c _ ps rs _ (Nat.le_refl _) (by rw [hls]; exact hr) hps hnc (by omega) (fun p hp => hl _ (by rw [← hls]; exact List.mem_map_of_mem hp)) ht
theorem nextB_no {p : Hdr} {first : Bool} {ls : List (List UInt8)} {s ep : Int} (h : nextOK p first ls s ep = false) : nextB p first ls s ep = noHdr := by unfold nextB; rw [if_neg (by simp [h])]
theorem nextB_yes {p : Hdr} {first : Bool} {ls : List (List UInt8)} {s ep : Int} (h : nextOK p first ls s ep = true) : nextB p first ls s ep = nextH p first ls s ep := by unfold nextB; rw [if_pos h]
theorem hdr_one (h : Hdr) : ∀ u ∈ hdrV h, u.oneCell' = true := by
 intro u hu
 unfold hdrV at hu
 simp only [List.mem_cons, List.mem_append, List.mem_map] at hu
 rcases hu with rfl | rfl | rfl | ⟨_, _, rfl⟩ | ⟨_, _, rfl⟩ <;> rfl
end Go.Proofs.YtphmefhnffoafaaGreatDoor

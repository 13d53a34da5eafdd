/- The given card HeaderFollowsCardSaid, out of the walk hdrFollows_walk: for every input the law returns true, and each argument reads as it did; the tables of package sha are tied to the program's text. No condition. -/
import Derived.Test.YtphmefhnffoafaaDoorHeaderFollowsB7
import Derived.Test.YtphmefhnffoafaaDoorHeaderFollowsB17
import Derived.Test.YtphmefhnffoafaaDoorHeaderFollowsB18
import Derived.Test.YtphmefhnffoafaaDoorHeaderFollowsB19
import Derived.Test.YtphmefhnffoafaaDoorHeaderFollowsB2
import Derived.ShutString
import Derived.ChangeOld
import Derived.Below
set_option linter.unusedSimpArgs false
/- The walk of HeaderFollows. -/
namespace Go.Proofs.YtphmefhnffoafaaDoor
open Go.RowKit Go.Shelf
set_option linter.unusedVariables false
def LenIs (xs : List Value) (n : Nat) : Prop := xs.length = n
theorem LenIs.len {xs : List Value} {n : Nat} (h : LenIs xs n) : xs.length = n := h
set_option maxRecDepth 100000 in
set_option maxHeartbeats 8000000 in
theorem hdrFol_any (a b c : Hdr) (w w_ : World) (ha : a.ok) (hb : b.ok) (hc : c.ok) (hb0 : Below w.heap.size w w_) (ht : Tabs w_) :
    Calls Tryd.prog 4 #[.agg (hdrV a).toArray, .agg (hdrV b).toArray, .agg (hdrV c).toArray] w_ fun e w' => e = .returned (.bool true) ∧ Below w.heap.size w w' := by
  have HB := Lib.hid hb0; have HT := Lib.hid ht
  have HOA := Lib.hid ha; have HOB := Lib.hid hb
  have FAB := Lib.hid (fun w ht => fol_any a b w ha hb ht)
  have FCB := Lib.hid (fun w ht => fol_any c b w hc hb ht)
  have FAA := Lib.hid (fun w ht => fol_any a a w ha ha ht)
  rw [follows_self] at FAA
  obtain ⟨f, hf⟩ : ∃ f, f = followsB a b := ⟨_, rfl⟩
  obtain ⟨g, hg⟩ : ∃ g, g = followsB c b := ⟨_, rfl⟩
  rw [← hf] at FAB
  rw [← hg] at FCB
  have HFE := Lib.hid hf
  obtain ⟨zs, hzs⟩ : ∃ zs, Dig zs (hidB a) := ⟨(hidB a).map B, rfl, hidB_len a⟩
  have HZ := Lib.hid hzs
  have IDA := Lib.hid (fun w => rhid_any a hzs w ha)
  have IDC := Lib.hid (fun (h1 : f = true) (h2 : g = true) w => rhid_any c (by rw [← follows_one (hf.symm.trans h1) (hg.symm.trans h2)]; exact hzs) w hc)
  obtain ⟨n4, hn4⟩ := types_3
  obtain ⟨r, hr, hq⟩ := eql_deep key_header (m := 3) (by omega) (by kernel_rfl) (by kernel_rfl) (by kernel_rfl) (hdrV a) (hdrV c) (by rw [hdrV_length ha, cells_header]) (by rw [hdrV_length hc, cells_header]) (by rw [hn4]; exact lits_hdr (n4 + 1) a ha) (by rw [hn4]; exact lits_hdr (n4 + 1) c hc)
  have LA := Lib.hid (show LenIs (hdrV a) 67 from hdrV_length ha)
  have LB := Lib.hid (show LenIs (hdrV b) 67 from hdrV_length hb)
  have LC := Lib.hid (show LenIs (hdrV c) 67 from hdrV_length hc)
  obtain ⟨av, hav⟩ : ∃ v, v = hdrV a := ⟨_, rfl⟩
  obtain ⟨bv, hbv⟩ : ∃ v, v = hdrV b := ⟨_, rfl⟩
  obtain ⟨cv, hcv⟩ : ∃ v, v = hdrV c := ⟨_, rfl⟩
  have HAV := Lib.hid hav; have HBV := Lib.hid hbv
  rw [← hav] at FAB FAA IDA hq LA ⊢
  rw [← hbv] at FAB FCB LB ⊢
  rw [← hcv] at FCB IDC hq LC ⊢
  clear hav hbv hcv hr hn4 hzs hf hg ha hb hc hb0 ht
  go_enter Tryd.func4, Tryd.ntmps4
  go_wp2_with (first | (with_reducible refine wpl_box (o := ⟨some 3, _, _, _, _, _⟩) rfl rfl rfl ?_))
  intro w2_ hb2_ hb_ hsz2_
  have HX_ := Lib.hid (at_mk hb2_ LA.out.len)
  clear hb2_ hsz2_
  have HG_ := Lib.hid HB.out.size
  have HB_ := Lib.hid (HB.out.grow' hb_)
  clear HB
  have HB := HB_
  clear HB_
  have HT_ := Lib.hid (HT.out.grow hb_)
  clear HT
  have HT := HT_
  clear HT_
  generalize hg_ : w_.heap.size = ga at HX_ HG_ ⊢
  clear hg_
  have HA_g := HG_
  clear HG_
  have HA := HX_
  clear hb_ HX_
  try clear w_
  rename World => w_
  go_wp2_with (first | (with_reducible refine wpl_box (o := ⟨some 4, _, _, _, _, _⟩) rfl rfl rfl ?_))
  intro w2_ hb2_ hb_ hsz2_
  have HX_ := Lib.hid (at_mk hb2_ LB.out.len)
  clear hb2_ hsz2_
  have HG_ := Lib.hid HB.out.size
  have HB_ := Lib.hid (HB.out.grow' hb_)
  clear HB
  have HB := HB_
  clear HB_
  have HT_ := Lib.hid (HT.out.grow hb_)
  clear HT
  have HT := HT_
  clear HT_
  have HA_ := Lib.hid (HA.out.grow hb_)
  clear HA
  have HA := HA_
  clear HA_
  generalize hg_ : w_.heap.size = gb at HX_ HG_ ⊢
  clear hg_
  have HBH_g := HG_
  clear HG_
  have HBH := HX_
  clear hb_ HX_
  try clear w_
  rename World => w_
  go_wp2_with (first | (with_reducible refine wpl_box (o := ⟨some 5, _, _, _, _, _⟩) rfl rfl rfl ?_))
  intro w2_ hb2_ hb_ hsz2_
  have HX_ := Lib.hid (at_mk hb2_ LC.out.len)
  clear hb2_ hsz2_
  have HG_ := Lib.hid HB.out.size
  have HB_ := Lib.hid (HB.out.grow' hb_)
  clear HB
  have HB := HB_
  clear HB_
  have HT_ := Lib.hid (HT.out.grow hb_)
  clear HT
  have HT := HT_
  clear HT_
  have HA_ := Lib.hid (HA.out.grow hb_)
  clear HA
  have HA := HA_
  clear HA_
  have HBH_ := Lib.hid (HBH.out.grow hb_)
  clear HBH
  have HBH := HBH_
  clear HBH_
  generalize hg_ : w_.heap.size = gc at HX_ HG_ ⊢
  clear hg_
  have HC_g := HG_
  clear HG_
  have HC := HX_
  clear hb_ HX_
  try clear w_
  rename World => w_
  go_wp2_with fail
  refine hf1 a b HOA.out HOB.out HT.out HAV HBV HA HBH (Lib.hid ?_)
  intros
  rename_i w5_ hb_
  rw [← HFE.out]
  have hb_ := hb_
  clear hb_
  have HB_ := Lib.hid (HB.out.grow' hb_)
  clear HB
  have HB := HB_
  clear HB_
  have HT_ := Lib.hid (HT.out.grow hb_)
  clear HT
  have HT := HT_
  clear HT_
  have HA_ := Lib.hid (HA.out.grow hb_)
  clear HA
  have HA := HA_
  clear HA_
  have HBH_ := Lib.hid (HBH.out.grow hb_)
  clear HBH
  have HBH := HBH_
  clear HBH_
  have HC_ := Lib.hid (HC.out.grow hb_)
  clear HC
  have HC := HC_
  clear HC_
  clear hb_
  try clear w_
  rename World => w_
  go_wp2_with (first | (with_reducible refine wpl_loadb (o := ⟨_, .load _ _, _, _, _, _⟩) rfl rfl row_header HA.out.blk rfl HA.out.len ?_) | (with_reducible refine wpl_loadw (o := ⟨_, .load _ _, _, _, _, _⟩) (by first | rfl | (go_simp; done) | fail) rfl row_header HA.out.blk rfl HA.out.len ?_) | (with_reducible refine wpl_loadb (o := ⟨_, .load _ _, _, _, _, _⟩) rfl rfl row_header HBH.out.blk rfl HBH.out.len ?_) | (with_reducible refine wpl_loadw (o := ⟨_, .load _ _, _, _, _, _⟩) (by first | rfl | (go_simp; done) | fail) rfl row_header HBH.out.blk rfl HBH.out.len ?_))
  go_wp2_with fail
  refine (FAB.out _ HT.out).mono ?_
  rintro e w_ ⟨rfl, hb_⟩
  have HB_ := Lib.hid (HB.out.grow' hb_)
  clear HB
  have HB := HB_
  clear HB_
  have HT_ := Lib.hid (HT.out.grow hb_)
  clear HT
  have HT := HT_
  clear HT_
  have HA_ := Lib.hid (HA.out.grow hb_)
  clear HA
  have HA := HA_
  clear HA_
  have HBH_ := Lib.hid (HBH.out.grow hb_)
  clear HBH
  have HBH := HBH_
  clear HBH_
  have HC_ := Lib.hid (HC.out.grow hb_)
  clear HC
  have HC := HC_
  clear HC_
  clear hb_
  cases f with
  | false =>
    go_wp2_with (first | (with_reducible refine wpl_loadb (o := ⟨_, .load _ _, _, _, _, _⟩) rfl rfl row_header HA.out.blk rfl HA.out.len ?_) | (with_reducible refine wpl_loadw (o := ⟨_, .load _ _, _, _, _, _⟩) (by first | rfl | (go_simp; done) | fail) rfl row_header HA.out.blk rfl HA.out.len ?_))
    go_wp2_with fail
    refine (FAA.out _ HT.out).mono ?_
    rintro e w_ ⟨rfl, hb_⟩
    have HB_ := Lib.hid (HB.out.grow' hb_)
    clear HB
    have HB := HB_
    clear HB_
    have HT_ := Lib.hid (HT.out.grow hb_)
    clear HT
    have HT := HT_
    clear HT_
    clear hb_
    go_wp2_with fail
    refine (awake10_any _ HT.out).mono ?_
    rintro e w_ ⟨rfl, hb_⟩
    have HB_ := Lib.hid (HB.out.grow' hb_)
    clear HB
    have HB := HB_
    clear HB_
    clear hb_
    go_wp2_with fail
    go_ret
    exact ⟨rfl, HB.out⟩
  | true =>
    go_wp2_with (first | (with_reducible refine wpl_loadb (o := ⟨_, .load _ _, _, _, _, _⟩) rfl rfl row_header HC.out.blk rfl HC.out.len ?_) | (with_reducible refine wpl_loadw (o := ⟨_, .load _ _, _, _, _, _⟩) (by first | rfl | (go_simp; done) | fail) rfl row_header HC.out.blk rfl HC.out.len ?_) | (with_reducible refine wpl_loadb (o := ⟨_, .load _ _, _, _, _, _⟩) rfl rfl row_header HBH.out.blk rfl HBH.out.len ?_) | (with_reducible refine wpl_loadw (o := ⟨_, .load _ _, _, _, _, _⟩) (by first | rfl | (go_simp; done) | fail) rfl row_header HBH.out.blk rfl HBH.out.len ?_))
    go_wp2_with fail
    refine (FCB.out _ HT.out).mono ?_
    rintro e w_ ⟨rfl, hb_⟩
    have HB_ := Lib.hid (HB.out.grow' hb_)
    clear HB
    have HB := HB_
    clear HB_
    have HT_ := Lib.hid (HT.out.grow hb_)
    clear HT
    have HT := HT_
    clear HT_
    have HA_ := Lib.hid (HA.out.grow hb_)
    clear HA
    have HA := HA_
    clear HA_
    have HC_ := Lib.hid (HC.out.grow hb_)
    clear HC
    have HC := HC_
    clear HC_
    clear hb_
    cases g with
    | false =>
      go_wp2_with (first | (with_reducible refine wpl_loadb (o := ⟨_, .load _ _, _, _, _, _⟩) rfl rfl row_header HA.out.blk rfl HA.out.len ?_) | (with_reducible refine wpl_loadw (o := ⟨_, .load _ _, _, _, _, _⟩) (by first | rfl | (go_simp; done) | fail) rfl row_header HA.out.blk rfl HA.out.len ?_))
      go_wp2_with fail
      refine (FAA.out _ HT.out).mono ?_
      rintro e w_ ⟨rfl, hb_⟩
      have HB_ := Lib.hid (HB.out.grow' hb_)
      clear HB
      have HB := HB_
      clear HB_
      have HT_ := Lib.hid (HT.out.grow hb_)
      clear HT
      have HT := HT_
      clear HT_
      clear hb_
      go_wp2_with fail
      refine (awake10_any _ HT.out).mono ?_
      rintro e w_ ⟨rfl, hb_⟩
      have HB_ := Lib.hid (HB.out.grow' hb_)
      clear HB
      have HB := HB_
      clear HB_
      clear hb_
      go_wp2_with fail
      go_ret
      exact ⟨rfl, HB.out⟩
    | true =>
      cases r with
      | true =>
        go_wp2_with (first | (with_reducible refine wpl_loadb (o := ⟨_, .load _ _, _, _, _, _⟩) rfl rfl row_header HA.out.blk rfl HA.out.len ?_) | (with_reducible refine wpl_loadw (o := ⟨_, .load _ _, _, _, _, _⟩) (by first | rfl | (go_simp; done) | fail) rfl row_header HA.out.blk rfl HA.out.len ?_) | (with_reducible refine wpl_loadb (o := ⟨_, .load _ _, _, _, _, _⟩) rfl rfl row_header HC.out.blk rfl HC.out.len ?_) | (with_reducible refine wpl_loadw (o := ⟨_, .load _ _, _, _, _, _⟩) (by first | rfl | (go_simp; done) | fail) rfl row_header HC.out.blk rfl HC.out.len ?_))
        go_wp2_with fail
        refine (FAA.out _ HT.out).mono ?_
        rintro e w_ ⟨rfl, hb_⟩
        have HB_ := Lib.hid (HB.out.grow' hb_)
        clear HB
        have HB := HB_
        clear HB_
        have HT_ := Lib.hid (HT.out.grow hb_)
        clear HT
        have HT := HT_
        clear HT_
        clear hb_
        go_wp2_with fail
        refine (awake10_any _ HT.out).mono ?_
        rintro e w_ ⟨rfl, hb_⟩
        have HB_ := Lib.hid (HB.out.grow' hb_)
        clear HB
        have HB := HB_
        clear HB_
        clear hb_
        go_wp2_with fail
        go_ret
        exact ⟨rfl, HB.out⟩
      | false =>
        go_wp2_with (first | (with_reducible refine wpl_loadb (o := ⟨_, .load _ _, _, _, _, _⟩) rfl rfl row_header HA.out.blk rfl HA.out.len ?_) | (with_reducible refine wpl_loadw (o := ⟨_, .load _ _, _, _, _, _⟩) (by first | rfl | (go_simp; done) | fail) rfl row_header HA.out.blk rfl HA.out.len ?_) | (with_reducible refine wpl_loadb (o := ⟨_, .load _ _, _, _, _, _⟩) rfl rfl row_header HC.out.blk rfl HC.out.len ?_) | (with_reducible refine wpl_loadw (o := ⟨_, .load _ _, _, _, _, _⟩) (by first | rfl | (go_simp; done) | fail) rfl row_header HC.out.blk rfl HC.out.len ?_))
        have IDC2 := Lib.hid (IDC.out (by first | trivial | rfl) (by first | trivial | rfl))
        have qz := HZ.out.self
        try go_wp2_with fail
        repeat' (first | (with_reducible refine wp_flow (id := 5) [0,1,0,7,15,31] [0,3,0,3,0,0] (fun i => match i with | 1 => spV (.agg zs.toArray) | 3 => spV (.agg zs.toArray) | _ => spV undef) (by kernel_rfl) (by kernel_rfl) ?_) | go_values | go_skip | go_guarded | go_step | go_upon | go_back)
        intro w_ hd_
        have hb_ := hd_.grow
        have HB_ := Lib.hid (HB.out.grow' hb_)
        clear HB
        have HB := HB_
        clear HB_
        have HT_ := Lib.hid (HT.out.grow hb_)
        clear HT
        have HT := HT_
        clear HT_
        have HA_ := Lib.hid (HA.out.grow hb_)
        clear HA
        have HA := HA_
        clear HA_
        have HC_ := Lib.hid (HC.out.grow hb_)
        clear HC
        have HC := HC_
        clear HC_
        clear hb_ hd_
        show wpL _ _ _ _ _ _ _ [0,1,2,3,4,5] _ _
        repeat (first | (refine fl_loadb rfl (by decide) (by first | exact wanted_none rfl | (go_simp; done) | fail) rfl row_header HA.out.blk (by first | rfl | (go_simp; done) | rfl) HA.out.len (fun K hK => ?_); go_simp; refine hK _ ?_; clear hK K) | (refine fl_loadb rfl (by decide) (by first | exact wanted_none rfl | (go_simp; done) | fail) rfl row_header HC.out.blk (by first | rfl | (go_simp; done) | rfl) HC.out.len (fun K hK => ?_); go_simp; refine hK _ ?_; clear hK K) | (refine fl_skip rfl (by first | (go_simp; done) | fail) (fun K hK => ?_); go_simp; refine hK _ ?_; clear hK K) | (refine fl_calm rfl (by decide) (by first | exact wanted_none rfl | (go_simp; done) | fail) (fun w_ _ _ => by first | (go_simp; rfl) | (go_simp; done) | rfl) (fun K hK => ?_); go_simp; refine hK _ ?_; clear hK K))
        refine fl_callv rfl (by kernel_rfl) rfl (by first | exact wanted_none rfl | (go_simp; done) | fail) (fun w_ => by first | (go_simp; exact ⟨rfl, rfl⟩) | (go_simp; rfl) | (go_simp; exact ⟨⟨rfl, rfl, rfl⟩, rfl⟩)) (fun w2_ hg_ hL_ => ?_) (fun K hK => ?_)
        · skip
          exact IDA.out _
        go_simp
        refine hK _ ?_
        clear hK K
        repeat (first | (refine fl_loadb rfl (by decide) (by first | exact wanted_none rfl | (go_simp; done) | fail) rfl row_header HA.out.blk (by first | rfl | (go_simp; done) | rfl) HA.out.len (fun K hK => ?_); go_simp; refine hK _ ?_; clear hK K) | (refine fl_loadb rfl (by decide) (by first | exact wanted_none rfl | (go_simp; done) | fail) rfl row_header HC.out.blk (by first | rfl | (go_simp; done) | rfl) HC.out.len (fun K hK => ?_); go_simp; refine hK _ ?_; clear hK K) | (refine fl_skip rfl (by first | (go_simp; done) | fail) (fun K hK => ?_); go_simp; refine hK _ ?_; clear hK K) | (refine fl_calm rfl (by decide) (by first | exact wanted_none rfl | (go_simp; done) | fail) (fun w_ _ _ => by first | (go_simp; rfl) | (go_simp; done) | rfl) (fun K hK => ?_); go_simp; refine hK _ ?_; clear hK K))
        refine fl_callv rfl (by kernel_rfl) rfl (by first | exact wanted_none rfl | (go_simp; done) | fail) (fun w_ => by first | (go_simp; exact ⟨rfl, rfl⟩) | (go_simp; rfl) | (go_simp; exact ⟨⟨rfl, rfl, rfl⟩, rfl⟩)) (fun w2_ hg_ hL_ => ?_) (fun K hK => ?_)
        · skip
          exact IDC2.out _
        go_simp
        refine hK _ ?_
        clear hK K
        repeat (first | (refine fl_loadb rfl (by decide) (by first | exact wanted_none rfl | (go_simp; done) | fail) rfl row_header HA.out.blk (by first | rfl | (go_simp; done) | rfl) HA.out.len (fun K hK => ?_); go_simp; refine hK _ ?_; clear hK K) | (refine fl_loadb rfl (by decide) (by first | exact wanted_none rfl | (go_simp; done) | fail) rfl row_header HC.out.blk (by first | rfl | (go_simp; done) | rfl) HC.out.len (fun K hK => ?_); go_simp; refine hK _ ?_; clear hK K) | (refine fl_skip rfl (by first | (go_simp; done) | fail) (fun K hK => ?_); go_simp; refine hK _ ?_; clear hK K) | (refine fl_calm rfl (by decide) (by first | exact wanted_none rfl | (go_simp; done) | fail) (fun w_ _ _ => by first | (go_simp; rfl) | (go_simp; done) | rfl) (fun K hK => ?_); go_simp; refine hK _ ?_; clear hK K))
        refine fl_done ?_
        intro w2_ hg_ hL_
        replace HB := Lib.hid (HB.out.grow' hg_)
        clear hg_ hL_
        try clear w_
        rename World => w_
        go_wp2_with fail
        go_ret
        exact ⟨rfl, HB.out⟩
theorem hdrFollows_walk (a b c : Hdr) (w : World) (ha : a.ok) (hb : b.ok) (hc : c.ok) (ht : Tabs w) :
    Calls Tryd.prog 4 #[.agg (hdrV a).toArray, .agg (hdrV b).toArray, .agg (hdrV c).toArray] w fun e w' => e = .returned (.bool true) ∧ Below w.heap.size w w' :=
  hdrFol_any a b c w w ha hb hc (Below.refl _ _) ht
end Go.Proofs.YtphmefhnffoafaaDoor

/- The given card HeaderFollowsCardSaid, out of the walk hdrFollows_walk: for every input the law returns true, and each argument reads as it did; the tables of package sha are tied to the program's text. No condition. -/
namespace Go.Proofs.YtphmefhnffoafaaDoor.lawHeaderFollows
open Go.ChangeShapes Go.WideShapes Go.ChangeAt Go.RowKit
open Go.ChangeMaps (open_string shut_string)
set_option linter.unusedVariables false

theorem laidOut : laidOutB Tryd.prog = true := laid_out
set_option maxRecDepth 100000 in
theorem contract (H : Type) (enc : TypeId × Value → H) (W : World) (base : Nat) (args : Array Value) (ds gs : List (DataW H)) (before : List MemPlace)
    (hval0 : ∀ (j : Nat) t v, Tryd.f4.params[j]? = some t → args[j]? = some v → Value.okWide Tryd.prog W .any base t v)
    (hW : DataW.Whole enc Tryd.prog Tryd.f4.params.toList Rows.headerFollowsSpec.vars false W args.toList ds gs before) (hL : laidMetH Tryd.prog Rows.headerFollowsRow.laid W) :
    Calls Tryd.prog 4 args W fun e W' => ∃ v, e = .returned v ∧ Rows.headerFollowsSpec.post enc Tryd.prog Tryd.f4 false true false false W args v W' := by
  have hval : ∀ (j : Nat) t v, Tryd.f4.params[j]? = some t → args[j]? = some v → Value.okWide Tryd.prog W .any base t v := hval0
  have hW' := hW
  obtain ⟨p, q, hA0, hV, rfl, hfz, hnd⟩ := hW
  have hA : DataW.TrodAll enc Tryd.prog W 0 (fun _ => true) true Tryd.f4.params.toList args.toList ds p := hA0
  rw [Tryd.params4] at hA hval
  obtain ⟨v0, vs0, d0, ds0, p0, q0, hargs, rfl, rfl, h0, r0⟩ := trodAll_cons hA
  obtain ⟨v1, vs1, d1, ds1, p1, q1, rfl, rfl, rfl, h1, r1⟩ := trodAll_cons r0
  obtain ⟨v2, vs2, d2, ds2, p2, q2, rfl, rfl, rfl, h2, r2⟩ := trodAll_cons r1
  obtain ⟨rfl, rfl, rfl⟩ := trodAll_nil r2
  obtain rfl : args = #[v0, v1, v2] := by cases args; simp_all
  obtain ⟨rfl, rfl⟩ := trodVars_none hV
  have k0 := h0
  have lt0 : ∀ x ∈ p0, x.block < W.heap.size := by obtain ⟨m, hm⟩ := k0; exact DataW.trod_lt m _ _ _ hm
  obtain ⟨x0_0, rfl, f0_0⟩ := open_hdr (hval 0 25 v0 rfl rfl) h0
  have k1 := h1
  have lt1 : ∀ x ∈ p1, x.block < W.heap.size := by obtain ⟨m, hm⟩ := k1; exact DataW.trod_lt m _ _ _ hm
  obtain ⟨x1_0, rfl, f1_0⟩ := open_hdr (hval 1 25 v1 rfl rfl) h1
  have k2 := h2
  have lt2 : ∀ x ∈ p2, x.block < W.heap.size := by obtain ⟨m, hm⟩ := k2; exact DataW.trod_lt m _ _ _ hm
  obtain ⟨x2_0, rfl, f2_0⟩ := open_hdr (hval 2 25 v2 rfl rfl) h2
  have htabs : Tabs W := tabs_of hL
  clear hA0 hval0 hL
  refine (hdrFollows_walk x0_0 x1_0 x2_0 W f0_0 f1_0 f2_0 htabs).mono fun e W' ⟨he, bel⟩ => ?_
  subst he
  exact ⟨_, rfl, _, _, _, [], _, [], hW', trodAll_mk1 (shut_bool Tryd.underlying4 _), (trodAll_cons_mk (Below.trod laidOut (by kernel_rfl) (of_decide_eq_true (by kernel_rfl)) k0 bel lt0) (trodAll_cons_mk (Below.trod laidOut (by kernel_rfl) (of_decide_eq_true (by kernel_rfl)) k1 bel lt1) (trodAll_cons_mk (Below.trod laidOut (by kernel_rfl) (of_decide_eq_true (by kernel_rfl)) k2 bel lt2) trodAll_mk0))), rfl, bel.frame _, fun h => by cases h⟩

theorem laid_met (os : Os) : laidMet Tryd.prog Rows.headerFollowsRow.laid ((laidWorld os).forCall (fun _ _ => 0) ⟨#[], #[.agg (hdrV noHdr).toArray, .agg (hdrV noHdr).toArray, .agg (hdrV noHdr).toArray], []⟩).memory :=
  laidMet_of_run' 8 (by kernel_rfl) (by kernel_rfl)
theorem reads (os : Os) {H : Type} (enc : TypeId × Value → H) : ∃ ds places, DataW.whole enc Tryd.prog ((laidWorld os).forCall (fun _ _ => 0) ⟨#[], #[.agg (hdrV noHdr).toArray, .agg (hdrV noHdr).toArray, .agg (hdrV noHdr).toArray], []⟩).memory Tryd.f4.params.toList Rows.headerFollowsSpec.vars false #[.agg (hdrV noHdr).toArray, .agg (hdrV noHdr).toArray, .agg (hdrV noHdr).toArray].toList 8 = some (ds, [], places) := by
  obtain ⟨⟨ds, gs, pl⟩, h, e⟩ := Option.map_eq_some_iff.1 (show (DataW.whole enc Tryd.prog ((laidWorld os).forCall (fun _ _ => 0) ⟨#[], #[.agg (hdrV noHdr).toArray, .agg (hdrV noHdr).toArray, .agg (hdrV noHdr).toArray], []⟩).memory Tryd.f4.params.toList Rows.headerFollowsSpec.vars false #[.agg (hdrV noHdr).toArray, .agg (hdrV noHdr).toArray, .agg (hdrV noHdr).toArray].toList 8).map (fun x => x.2.1) = some [] by kernel_rfl)
  simp only at e
  subst e
  exact ⟨ds, pl, h⟩

set_option maxRecDepth 100000 in
theorem lifted (os : Os) (started : os.Started) (H : Type) (enc : TypeId × Value → H) (F : Stop.Interp) :
    ReturnsInHanded {} Tryd.checked os 4 .any ((OpenSpec.ofChange Rows.headerFollowsSpec).preRow enc Tryd.prog Tryd.f4 Rows.headerFollowsRow.domain false Rows.headerFollowsRow.laid) (((OpenSpec.ofChange Rows.headerFollowsSpec).at F).post enc Tryd.prog Tryd.f4 false true false false) := by
  obtain ⟨ds, places, hx⟩ := reads os enc
  refine returnsInHanded_of_row (C := Tryd.checked) (s := OpenSpec.ofChange Rows.headerFollowsSpec) own_knob started (by kernel_rfl) Tryd.func4
    (witness_row_at (enc := enc) (C := Tryd.checked) false (laidWorld os) #[.agg (hdrV noHdr).toArray, .agg (hdrV noHdr).toArray, .agg (hdrV noHdr).toArray] rfl (by kernel_rfl) (by kernel_rfl) (by kernel_rfl)
      (OpenSpec.preRow_of_cond 8 hx (by kernel_rfl) (fun k hk => by cases hk) (by kernel_rfl) (laid_met os))) ?_
  intro W base args ds gs before hval hW _ _ _ hL _ _
  exact contract H enc W base args ds gs before hval hW hL

theorem said : Rows.HeaderFollowsSaid :=
  OpenClaim.holds_of_cond 4 Tryd.f4 rfl rfl rfl rfl rfl rfl rfl ⟨rfl, rfl, rfl, rfl, rfl⟩ rfl rfl rfl rfl rfl (by kernel_rfl) Tryd.func4 (by kernel_rfl)
    (of_decide_eq_true (by kernel_rfl)) (by unfold Func.isWrapper; first | (rw [if_pos (by decide +kernel)]; kernel_rfl) | (rw [if_neg (by decide +kernel)]; exact ⟨rfl, rfl⟩))
    (fun os started H enc _ F => by rw [OpenClaim.pre_eq_preRow]; exact lifted os started H enc F)

theorem plain (f : FuncId) (fn : Func) (hf : Tryd.pinned.checked.prog.funcNamed "seisin/seisinlaw10.HeaderFollows" = some f) (hfn : Tryd.pinned.checked.prog.funcs[f]? = some fn) :
    true = Tryd.pinned.checked.prog.looks [] ∧ ∀ (j : Nat) t, fn.params[j]? = some t → Tryd.pinned.checked.prog.wantsStandIn t = false := by
  obtain rfl : f = 4 := Option.some.inj ((show Tryd.prog.funcNamed "seisin/seisinlaw10.HeaderFollows" = some 4 by kernel_rfl).symm.trans hf) |>.symm
  obtain rfl : fn = Tryd.f4 := (Option.some.inj (Tryd.func4.symm.trans hfn)).symm
  refine ⟨by kernel_rfl, fun j t ht => ?_⟩
  rw [Tryd.params4] at ht
  have hm : t ∈ [25, 25, 25] := by simpa using Array.mem_of_getElem? ht
  have hall : ([25, 25, 25].all fun u => !Tryd.prog.wantsStandIn u) = true := by kernel_rfl
  exact (show Tryd.prog.wantsStandIn t = false by simpa using List.all_eq_true.1 hall t hm)

theorem proved : Rows.HeaderFollowsCardSaid :=
  Claim7.holds_tied_plain_at .later [] _ _ _ _ said (fun _ h => by cases h) (by kernel_rfl) (fun _ h => by cases h) headerFollows_row_tie rfl ⟨rfl, rfl⟩ (by kernel_rfl) rfl plain (by kernel_rfl)
#print axioms proved
end Go.Proofs.YtphmefhnffoafaaDoor.lawHeaderFollows

/- Layer 5: climbing; whether a path climbs to a root. -/
import Derived.Test.YtlondennhhffdaaDoorTreeClimbsB14
/- Layer 5: climbing; whether a path climbs to a root. -/
namespace Go.Proofs.YtlondennhhffdaaDoor
open Go.RowKit Go.Shelf
set_option linter.unusedVariables false
attribute [local irreducible] nodeB leafB

theorem zlit5 : (List.replicate 32 (B 0)).toArray = (#[.int .u8 0, .int .u8 0, .int .u8 0, .int .u8 0, .int .u8 0, .int .u8 0, .int .u8 0, .int .u8 0, .int .u8 0, .int .u8 0, .int .u8 0, .int .u8 0, .int .u8 0, .int .u8 0, .int .u8 0, .int .u8 0, .int .u8 0, .int .u8 0, .int .u8 0, .int .u8 0, .int .u8 0, .int .u8 0, .int .u8 0, .int .u8 0, .int .u8 0, .int .u8 0, .int .u8 0, .int .u8 0, .int .u8 0, .int .u8 0, .int .u8 0, .int .u8 0] : Array Value) := by rfl
theorem zero_dig5 : Dig (List.replicate 32 (B 0)) (List.replicate 32 0) := ⟨by simp, by simp⟩
theorem ones0 : ∀ u ∈ List.replicate 32 (B 0), u.oneCell' = true := by intro u hu; rw [List.eq_of_mem_replicate hu]; rfl
def upPhi (d : List UInt8) (i k : Nat) (p : List (List UInt8)) (d' : List UInt8) : Prop := ∀ x, climbB d i k p = some x → d' = x

set_option maxRecDepth 100000 in
set_option maxHeartbeats 2000000 in
theorem climb_any : ∀ (M N i n c : Nat) (A : Option Addr) (ds : List (List UInt8)) (xs : List Value) (d : List UInt8) (w : World), N ≤ M → 1 ≤ N → i < N → N ≤ 1048576 → n ≤ 9223372036854775807 → Dig xs d → Ids w A n c ds → Tabs w →
    Calls Tryd.prog 66 #[.agg xs.toArray, .int .i64 i, .int .i64 N, .slice A n c] w fun e w' => ∃ zs d', e = .returned (.tuple #[.agg zs.toArray, .bool (climbB d i N ds).isSome]) ∧ Dig zs d' ∧ upPhi d i N ds d' ∧ Below w.heap.size w w' := by
  intro M
  induction M with
  | zero => intro N i n c A ds xs d w h1 h2; omega
  | succ M ih =>
    intro N i n c A ds xs d w hNM hN1 hiN hN hnm hx hi ht
    by_cases hz : N ≤ M
    · exact ih N i n c A ds xs d w hz hN1 hiN hN hnm hx hi ht
    have hNe : N = M + 1 := by omega
    have HT := Lib.hid ht; have HI := Lib.hid hi; have HX := Lib.hid hx
    have HDL := Lib.hid hi.2.1
    have hnc : n ≤ c := hi.2.2.2
    have HB := Lib.hid (Below.refl w.heap.size w)
    have hrid := row_id
    have HRI := Lib.hid hrid
    clear hrid
    by_cases h1 : N = 1
    · subst h1
      have hi0 : i = 0 := by omega
      clear ih ht hi hx hNe hz hNM
      by_cases hn : n = 0
      · subst hn
        obtain rfl : ds = [] := List.eq_nil_of_length_eq_zero HDL.out
        have HC := Lib.hid (show climbB d i 1 [] = some d by rw [climbB_one _ _ _ _ (by omega)]; rfl)
        go_enter Tryd.func66, Tryd.ntmps66
        go_wp2_with (first | (with_reducible refine wpl_box (o := ⟨some 4, _, _, _, _, _⟩) rfl rfl rfl ?_))
        intro w2_ hb2_ hb_ hsz2_
        have HX_ := Lib.hid (at_mk hb2_ HX.out.len)
        clear hb2_ hsz2_
        have HB_ := Lib.hid (HB.out.grow' hb_)
        clear HB
        have HB := HB_
        clear HB_
        have HV := HX_
        clear hb_ HX_
        try clear w_
        rename World => w_
        go_wp2_with (first | (with_reducible refine wpl_alloc (o := ⟨some 8, _, _, _, _, _⟩) rfl rfl zero_id ?_))
        intro w2_ hb2_ hb_ hsz2_
        have HX_ := Lib.hid (at_mk hb2_ len_id)
        clear hb2_ hsz2_
        have HG_ := Lib.hid HB.out.size
        have HB_ := Lib.hid (HB.out.grow' hb_)
        clear HB
        have HB := HB_
        clear HB_
        have HV_ := Lib.hid (HV.out.grow hb_)
        clear HV
        have HV := HV_
        clear HV_
        generalize hg_ : w_.heap.size = gr at HX_ HG_ ⊢
        clear hg_
        have HR_g := HG_
        clear HG_
        have HR := HX_
        clear hb_ HX_
        try clear w_
        rename World => w_
        have HG := HR_g
        go_wp2_with (first | (with_reducible refine wpl_loadb (o := ⟨some 19, _, _, _, _, _⟩) rfl rfl row_id HV.out.blk rfl HV.out.len ?_) | (with_reducible refine wpl_storeb (o := ⟨none, .store _ _ _, _, _, _, _⟩) rfl rfl row_id HR.out.blk rfl rfl HR.out.len HX.out.len HX.out.one ?_))
        intro w2_ hb2_ hg2_ hsz2_
        have HB_ := Lib.hid (put_below HB.out HG.out hg2_)
        have HX_ := Lib.hid (at_mk hb2_ HX.out.len)
        clear hb2_ hg2_ hsz2_ HB HR
        have HB := HB_
        have HR := HX_
        clear HB_ HX_
        try clear w_
        rename World => w_
        go_wp2_with fail
        exact ret_cell2 rfl HRI.out HR.out.blk rfl HR.out.len rfl rfl ⟨_, d, by rw [HC.out]; rfl, HX.out, fun x hx => by rw [HC.out] at hx; exact Option.some.inj hx, HB.out⟩
      · have HC := Lib.hid (show climbB d i 1 ds = none by rw [climbB_one _ _ _ _ (by omega), if_neg]; intro h; rw [h] at HDL; exact hn HDL.out.symm)
        have z1 : ((n : Int) == 0) = false := by simp; omega
        have z3 : decide ((n : Int) = 0) = false := by simp; omega
        have z5 : (n == 0) = false := by simp; omega
        have z7 : decide (n = 0) = false := by simp; omega
        go_enter Tryd.func66, Tryd.ntmps66
        go_wp2_with (first | (with_reducible refine wpl_box (o := ⟨some 4, _, _, _, _, _⟩) rfl rfl rfl ?_))
        intro w2_ hb2_ hb_ hsz2_
        have HX_ := Lib.hid (at_mk hb2_ HX.out.len)
        clear hb2_ hsz2_
        have HB_ := Lib.hid (HB.out.grow' hb_)
        clear HB
        have HB := HB_
        clear HB_
        have HV := HX_
        clear hb_ HX_
        try clear w_
        rename World => w_
        go_wp2_with (first | (with_reducible refine wpl_alloc (o := ⟨some 8, _, _, _, _, _⟩) rfl rfl zero_id ?_))
        intro w2_ hb2_ hb_ hsz2_
        have HX_ := Lib.hid (at_mk hb2_ len_id)
        clear hb2_ hsz2_
        have HG_ := Lib.hid HB.out.size
        have HB_ := Lib.hid (HB.out.grow' hb_)
        clear HB
        have HB := HB_
        clear HB_
        have HV_ := Lib.hid (HV.out.grow hb_)
        clear HV
        have HV := HV_
        clear HV_
        generalize hg_ : w_.heap.size = gr at HX_ HG_ ⊢
        clear hg_
        have HR_g := HG_
        clear HG_
        have HR := HX_
        clear hb_ HX_
        try clear w_
        rename World => w_
        have HG := HR_g
        go_wp2_with (first | (with_reducible refine wpl_loadb (o := ⟨some 19, _, _, _, _, _⟩) rfl rfl row_id HV.out.blk rfl HV.out.len ?_) | (with_reducible refine wpl_storeb (o := ⟨none, .store _ _ _, _, _, _, _⟩) rfl rfl row_id HR.out.blk rfl rfl HR.out.len HX.out.len HX.out.one ?_))
        intro w2_ hb2_ hg2_ hsz2_
        have HB_ := Lib.hid (put_below HB.out HG.out hg2_)
        have HX_ := Lib.hid (at_mk hb2_ HX.out.len)
        clear hb2_ hg2_ hsz2_ HB HR
        have HB := HB_
        have HR := HX_
        clear HB_ HX_
        try clear w_
        rename World => w_
        go_wp2_with fail
        exact ret_cell2 rfl HRI.out HR.out.blk rfl HR.out.len rfl rfl ⟨_, d, by rw [HC.out]; rfl, HX.out, (fun x hx => by rw [HC.out] at hx; cases hx), HB.out⟩
    · have hN2 : 2 ≤ N := by omega
      have y1 : ((N : Int) == 1) = false := by simp; omega
      have y3 : decide ((N : Int) = 1) = false := by simp; omega
      have y5 : (N == 1) = false := by simp; omega
      have y7 : decide (N = 1) = false := by simp; omega
      by_cases hn : n = 0
      · subst hn
        obtain rfl : ds = [] := List.eq_nil_of_length_eq_zero HDL.out
        have HC := Lib.hid (climbB_nil d i N hN2)
        clear ih ht hi hx hNe hz hNM
        go_enter Tryd.func66, Tryd.ntmps66
        go_wp2_with (first | (with_reducible refine wpl_box (o := ⟨some 4, _, _, _, _, _⟩) rfl rfl rfl ?_))
        intro w2_ hb2_ hb_ hsz2_
        have HX_ := Lib.hid (at_mk hb2_ HX.out.len)
        clear hb2_ hsz2_
        have HB_ := Lib.hid (HB.out.grow' hb_)
        clear HB
        have HB := HB_
        clear HB_
        have HV := HX_
        clear hb_ HX_
        try clear w_
        rename World => w_
        go_wp2_with (first | (with_reducible refine wpl_alloc (o := ⟨some 8, _, _, _, _, _⟩) rfl rfl zero_id ?_))
        intro w2_ hb2_ hb_ hsz2_
        have HX_ := Lib.hid (at_mk hb2_ len_id)
        clear hb2_ hsz2_
        have HG_ := Lib.hid HB.out.size
        have HB_ := Lib.hid (HB.out.grow' hb_)
        clear HB
        have HB := HB_
        clear HB_
        have HV_ := Lib.hid (HV.out.grow hb_)
        clear HV
        have HV := HV_
        clear HV_
        generalize hg_ : w_.heap.size = gr at HX_ HG_ ⊢
        clear hg_
        have HR_g := HG_
        clear HG_
        have HR := HX_
        clear hb_ HX_
        try clear w_
        rename World => w_
        have HG := HR_g
        go_wp2_with (first | (refine wpl_storeb (o := ⟨none, .store _ _ _, _, _, _, _⟩) (cs := List.replicate 32 (B 0)) rfl rfl row_id HR.out.blk rfl rfl HR.out.len len_id ones0 ?_))
        intro w2_ hb2_ hg2_ hsz2_
        have HB_ := Lib.hid (put_below HB.out HG.out hg2_)
        have HX_ := Lib.hid (at_mk hb2_ len_id)
        clear hb2_ hg2_ hsz2_ HB HR
        have HB := HB_
        have HR := HX_
        clear HB_ HX_
        try clear w_
        rename World => w_
        go_wp2_with fail
        exact ret_cell2 rfl HRI.out HR.out.blk rfl HR.out.len rfl rfl ⟨_, _, by rw [HC.out]; rfl, zero_dig5, (fun x hx => by rw [HC.out] at hx; cases hx), HB.out⟩
      · obtain ⟨l, hl⟩ : ∃ l, n = l + 1 := ⟨n - 1, by omega⟩
        obtain ⟨last, hlast⟩ : ∃ x, ds[l]? = some x := ⟨_, List.getElem?_eq_getElem (by rw [HDL.out]; omega)⟩
        have hl32 : last.length = 32 := hi.2.2.1 _ (List.mem_of_getElem? hlast)
        obtain ⟨k, hk⟩ : ∃ k, k = halfN N := ⟨_, rfl⟩
        have hk1 : 1 ≤ k := by rw [hk]; exact halfN_pos N
        have hk2 : k < N := by rw [hk]; exact halfN_lt hN2
        have hln : l ≤ n := by omega
        have hln2 : l < n := by omega
        have hq : (n : Int) - 1 = (l : Int) := by omega
        have hq2 : RowKit.wrap64 (l : Int) = (l : Int) := wrap64_in _ (by omega)
        have hkM : k ≤ M := by omega
        have hdM : N - k ≤ M := by omega
        have hN16 : N ≤ 16777216 := by omega
        have hgl : ds.getLast? = some last := by rw [List.getLast?_eq_getElem?, HDL.out, hl]; exact hlast
        have hdrop : ds.dropLast = ds.take l := by rw [List.dropLast_eq_take, HDL.out, hl]; rfl
        obtain ⟨ls, hls⟩ : ∃ ls, ls = last.map B := ⟨_, rfl⟩
        have HLD := Lib.hid (show Dig ls last from ⟨hls, hl32⟩)
        have HIL := Lib.hid (show Ids w A l c (ds.take l) from hi.take hln)
        have z1 : ((n : Int) == 0) = false := by simp; omega
        have z3 : decide ((n : Int) = 0) = false := by simp; omega
        have z5 : (n == 0) = false := by simp; omega
        have z7 : decide (n = 0) = false := by simp; omega
        have HIH := Lib.hid ih
        clear ih ht hi hx hNe hz hNM hls hl32 hl
        by_cases hik : i < k
        · have g3 : decide ((i : Int) < (k : Int)) = true := by simp; omega
          have HC := Lib.hid (show climbB d i N ds = (climbB d i k (ds.take l)).map fun x => nodeB x last by rw [climbB_left _ _ _ _ last hN2 hgl (by rw [← hk]; exact hik), hdrop, ← hk])
          obtain ⟨ok, hok⟩ : ∃ ok, (climbB d i k (ds.take l)).isSome = ok := ⟨_, rfl⟩
          have HOK := Lib.hid (show (climbB d i N ds).isSome = ok by rw [HC.out, Option.isSome_map]; exact hok)
          have HOK1 := Lib.hid hok
          clear hgl hdrop hok
          go_enter Tryd.func66, Tryd.ntmps66
          go_wp2_with (first | (with_reducible refine wpl_box (o := ⟨some 4, _, _, _, _, _⟩) rfl rfl rfl ?_))
          intro w2_ hb2_ hb_ hsz2_
          have HX_ := Lib.hid (at_mk hb2_ HX.out.len)
          clear hb2_ hsz2_
          have HB_ := Lib.hid (HB.out.grow' hb_)
          clear HB
          have HB := HB_
          clear HB_
          have HT_ := Lib.hid (HT.out.grow hb_)
          clear HT
          have HT := HT_
          clear HT_
          have HI_ := Lib.hid (HI.out.grow hb_)
          clear HI
          have HI := HI_
          clear HI_
          have HIL_ := Lib.hid (HIL.out.grow hb_)
          clear HIL
          have HIL := HIL_
          clear HIL_
          have HV := HX_
          clear hb_ HX_
          try clear w_
          rename World => w_
          go_wp2_with (first | (with_reducible refine wpl_alloc (o := ⟨some 8, _, _, _, _, _⟩) rfl rfl zero_id ?_))
          intro w2_ hb2_ hb_ hsz2_
          have HX_ := Lib.hid (at_mk hb2_ len_id)
          clear hb2_ hsz2_
          have HG_ := Lib.hid HB.out.size
          have HB_ := Lib.hid (HB.out.grow' hb_)
          clear HB
          have HB := HB_
          clear HB_
          have HV_ := Lib.hid (HV.out.grow hb_)
          clear HV
          have HV := HV_
          clear HV_
          have HT_ := Lib.hid (HT.out.grow hb_)
          clear HT
          have HT := HT_
          clear HT_
          have HI_ := Lib.hid (HI.out.grow hb_)
          clear HI
          have HI := HI_
          clear HI_
          have HIL_ := Lib.hid (HIL.out.grow hb_)
          clear HIL
          have HIL := HIL_
          clear HIL_
          generalize hg_ : w_.heap.size = gr at HX_ HG_ ⊢
          clear hg_
          have HR_g := HG_
          clear HG_
          have HR := HX_
          clear hb_ HX_
          try clear w_
          rename World => w_
          have HG := HR_g
          go_wp2_with fail
          refine cl6 hN2 hN16 hk hln2 hlast HLD HI (Lib.hid ?_)
          intros
          rename_i w6 g11 hb6 hx6
          have HV11 := Lib.hid hx6
          have hb_ := hb6
          clear hb6
          have HB_ := Lib.hid (HB.out.grow' hb_)
          clear HB
          have HB := HB_
          clear HB_
          have HV_ := Lib.hid (HV.out.grow hb_)
          clear HV
          have HV := HV_
          clear HV_
          have HT_ := Lib.hid (HT.out.grow hb_)
          clear HT
          have HT := HT_
          clear HT_
          have HIL_ := Lib.hid (HIL.out.grow hb_)
          clear HIL
          have HIL := HIL_
          clear HIL_
          have HR_ := Lib.hid (HR.out.grow hb_)
          clear HR
          have HR := HR_
          clear HR_
          clear hb_
          try clear w_
          rename World => w_
          go_wp2_with fail
          refine cl8 (N := N) (phi := upPhi d i k (ds.take l)) (ok := ok) hln hnc HV (Lib.hid ?_) (Lib.hid ?_)
          · intro w1 hb1
            rw [← HOK1.out]
            exact HIH.out k i l c A (ds.take l) xs d w1 hkM hk1 hik (by omega) (by omega) HX.out (HIL.out.grow hb1) (HT.out.grow hb1)
          · intros
            rename_i w8 g13 zs d' hb8 hx8 hd8 hp8
            have HVX := Lib.hid hx8
            have HZ := Lib.hid hd8
            have HPHI := Lib.hid hp8
            clear hx8 hd8 hp8
            have hb_ := hb8
            clear hb8
            have HB_ := Lib.hid (HB.out.grow' hb_)
            clear HB
            have HB := HB_
            clear HB_
            have HV11_ := Lib.hid (HV11.out.grow hb_)
            clear HV11
            have HV11 := HV11_
            clear HV11_
            have HT_ := Lib.hid (HT.out.grow hb_)
            clear HT
            have HT := HT_
            clear HT_
            have HR_ := Lib.hid (HR.out.grow hb_)
            clear HR
            have HR := HR_
            clear HR_
            clear hb_
            try clear w_
            rename World => w_
            obtain ⟨rs, hrs⟩ : ∃ rs, rs = (nodeB d' last).map B := ⟨_, rfl⟩
            have HRS := Lib.hid (show Dig rs (nodeB d' last) from ⟨hrs, nodeB_len _ _⟩)
            clear hrs
            go_wp2_with (first | (with_reducible refine wpl_loadb (o := ⟨_, .load _ _, _, _, _, _⟩) rfl rfl row_id HVX.out.blk rfl HVX.out.len ?_) | (with_reducible refine wpl_loadw (o := ⟨_, .load _ _, _, _, _, _⟩) (by first | rfl | (go_simp; done) | fail) rfl row_id HVX.out.blk rfl HVX.out.len ?_) | (with_reducible refine wpl_loadb (o := ⟨_, .load _ _, _, _, _, _⟩) rfl rfl row_id HV11.out.blk rfl HV11.out.len ?_) | (with_reducible refine wpl_loadw (o := ⟨_, .load _ _, _, _, _, _⟩) (by first | rfl | (go_simp; done) | fail) rfl row_id HV11.out.blk rfl HV11.out.len ?_))
            refine (node_any HZ.out HLD.out HRS.out _ HT.out).mono ?_
            rintro e w_ ⟨rfl, hb_⟩
            have HB_ := Lib.hid (HB.out.grow' hb_)
            clear HB
            have HB := HB_
            clear HB_
            have HR_ := Lib.hid (HR.out.grow hb_)
            clear HR
            have HR := HR_
            clear HR_
            clear hb_
            go_wp2_with (first | (with_reducible refine wpl_storeb (o := ⟨none, .store _ _ _, _, _, _, _⟩) rfl rfl row_id HR.out.blk rfl rfl HR.out.len HRS.out.len HRS.out.one ?_))
            intro w2_ hb2_ hg2_ hsz2_
            have HB_ := Lib.hid (put_below HB.out HG.out hg2_)
            have HX_ := Lib.hid (at_mk hb2_ HRS.out.len)
            clear hb2_ hg2_ hsz2_ HB HR
            have HB := HB_
            have HR := HX_
            clear HB_ HX_
            try clear w_
            rename World => w_
            go_wp2_with fail
            exact ret_cell2 rfl HRI.out HR.out.blk rfl HR.out.len rfl rfl ⟨_, _, by rw [HOK.out]; rfl, HRS.out, fun x hx => by
              rw [HC.out] at hx
              obtain ⟨x', h1, h2⟩ := Option.map_eq_some_iff.1 hx
              rw [HPHI.out x' h1]; exact h2, HB.out⟩
        · have g3 : decide ((i : Int) < (k : Int)) = false := by simp; omega
          have HC := Lib.hid (show climbB d i N ds = (climbB d (i - k) (N - k) (ds.take l)).map fun x => nodeB last x by rw [climbB_right _ _ _ _ last hN2 hgl (by rw [← hk]; exact hik), hdrop, ← hk])
          obtain ⟨ok, hok⟩ : ∃ ok, (climbB d (i - k) (N - k) (ds.take l)).isSome = ok := ⟨_, rfl⟩
          have HOK := Lib.hid (show (climbB d i N ds).isSome = ok by rw [HC.out, Option.isSome_map]; exact hok)
          have HOK1 := Lib.hid hok
          clear hgl hdrop hok
          go_enter Tryd.func66, Tryd.ntmps66
          go_wp2_with (first | (with_reducible refine wpl_box (o := ⟨some 4, _, _, _, _, _⟩) rfl rfl rfl ?_))
          intro w2_ hb2_ hb_ hsz2_
          have HX_ := Lib.hid (at_mk hb2_ HX.out.len)
          clear hb2_ hsz2_
          have HB_ := Lib.hid (HB.out.grow' hb_)
          clear HB
          have HB := HB_
          clear HB_
          have HT_ := Lib.hid (HT.out.grow hb_)
          clear HT
          have HT := HT_
          clear HT_
          have HI_ := Lib.hid (HI.out.grow hb_)
          clear HI
          have HI := HI_
          clear HI_
          have HIL_ := Lib.hid (HIL.out.grow hb_)
          clear HIL
          have HIL := HIL_
          clear HIL_
          have HV := HX_
          clear hb_ HX_
          try clear w_
          rename World => w_
          go_wp2_with (first | (with_reducible refine wpl_alloc (o := ⟨some 8, _, _, _, _, _⟩) rfl rfl zero_id ?_))
          intro w2_ hb2_ hb_ hsz2_
          have HX_ := Lib.hid (at_mk hb2_ len_id)
          clear hb2_ hsz2_
          have HG_ := Lib.hid HB.out.size
          have HB_ := Lib.hid (HB.out.grow' hb_)
          clear HB
          have HB := HB_
          clear HB_
          have HV_ := Lib.hid (HV.out.grow hb_)
          clear HV
          have HV := HV_
          clear HV_
          have HT_ := Lib.hid (HT.out.grow hb_)
          clear HT
          have HT := HT_
          clear HT_
          have HI_ := Lib.hid (HI.out.grow hb_)
          clear HI
          have HI := HI_
          clear HI_
          have HIL_ := Lib.hid (HIL.out.grow hb_)
          clear HIL
          have HIL := HIL_
          clear HIL_
          generalize hg_ : w_.heap.size = gr at HX_ HG_ ⊢
          clear hg_
          have HR_g := HG_
          clear HG_
          have HR := HX_
          clear hb_ HX_
          try clear w_
          rename World => w_
          have HG := HR_g
          go_wp2_with fail
          refine cl6 hN2 hN16 hk hln2 hlast HLD HI (Lib.hid ?_)
          intros
          rename_i w6 g11 hb6 hx6
          have HV11 := Lib.hid hx6
          have hb_ := hb6
          clear hb6
          have HB_ := Lib.hid (HB.out.grow' hb_)
          clear HB
          have HB := HB_
          clear HB_
          have HV_ := Lib.hid (HV.out.grow hb_)
          clear HV
          have HV := HV_
          clear HV_
          have HT_ := Lib.hid (HT.out.grow hb_)
          clear HT
          have HT := HT_
          clear HT_
          have HIL_ := Lib.hid (HIL.out.grow hb_)
          clear HIL
          have HIL := HIL_
          clear HIL_
          have HR_ := Lib.hid (HR.out.grow hb_)
          clear HR
          have HR := HR_
          clear HR_
          clear hb_
          try clear w_
          rename World => w_
          go_wp2_with fail
          refine cl10 (phi := upPhi d (i - k) (N - k) (ds.take l)) (ok := ok) hln hnc (by omega) hiN hN16 HV (Lib.hid ?_) (Lib.hid ?_)
          · intro w1 hb1
            rw [← HOK1.out]
            exact by
              have h := HIH.out (N - k) (i - k) l c A (ds.take l) xs d w1 hdM (by omega) (by omega) (by omega) (by omega) HX.out (HIL.out.grow hb1) (HT.out.grow hb1)
              rw [show ((i - k : Nat) : Int) = (i : Int) - (k : Int) by omega, show ((N - k : Nat) : Int) = (N : Int) - (k : Int) by omega] at h
              exact h
          · intros
            rename_i w8 g13 zs d' hb8 hx8 hd8 hp8
            have HVX := Lib.hid hx8
            have HZ := Lib.hid hd8
            have HPHI := Lib.hid hp8
            clear hx8 hd8 hp8
            have hb_ := hb8
            clear hb8
            have HB_ := Lib.hid (HB.out.grow' hb_)
            clear HB
            have HB := HB_
            clear HB_
            have HV11_ := Lib.hid (HV11.out.grow hb_)
            clear HV11
            have HV11 := HV11_
            clear HV11_
            have HT_ := Lib.hid (HT.out.grow hb_)
            clear HT
            have HT := HT_
            clear HT_
            have HR_ := Lib.hid (HR.out.grow hb_)
            clear HR
            have HR := HR_
            clear HR_
            clear hb_
            try clear w_
            rename World => w_
            obtain ⟨rs, hrs⟩ : ∃ rs, rs = (nodeB last d').map B := ⟨_, rfl⟩
            have HRS := Lib.hid (show Dig rs (nodeB last d') from ⟨hrs, nodeB_len _ _⟩)
            clear hrs
            go_wp2_with (first | (with_reducible refine wpl_loadb (o := ⟨_, .load _ _, _, _, _, _⟩) rfl rfl row_id HVX.out.blk rfl HVX.out.len ?_) | (with_reducible refine wpl_loadw (o := ⟨_, .load _ _, _, _, _, _⟩) (by first | rfl | (go_simp; done) | fail) rfl row_id HVX.out.blk rfl HVX.out.len ?_) | (with_reducible refine wpl_loadb (o := ⟨_, .load _ _, _, _, _, _⟩) rfl rfl row_id HV11.out.blk rfl HV11.out.len ?_) | (with_reducible refine wpl_loadw (o := ⟨_, .load _ _, _, _, _, _⟩) (by first | rfl | (go_simp; done) | fail) rfl row_id HV11.out.blk rfl HV11.out.len ?_))
            refine (node_any HLD.out HZ.out HRS.out _ HT.out).mono ?_
            rintro e w_ ⟨rfl, hb_⟩
            have HB_ := Lib.hid (HB.out.grow' hb_)
            clear HB
            have HB := HB_
            clear HB_
            have HR_ := Lib.hid (HR.out.grow hb_)
            clear HR
            have HR := HR_
            clear HR_
            clear hb_
            go_wp2_with (first | (with_reducible refine wpl_storeb (o := ⟨none, .store _ _ _, _, _, _, _⟩) rfl rfl row_id HR.out.blk rfl rfl HR.out.len HRS.out.len HRS.out.one ?_))
            intro w2_ hb2_ hg2_ hsz2_
            have HB_ := Lib.hid (put_below HB.out HG.out hg2_)
            have HX_ := Lib.hid (at_mk hb2_ HRS.out.len)
            clear hb2_ hg2_ hsz2_ HB HR
            have HB := HB_
            have HR := HX_
            clear HB_ HX_
            try clear w_
            rename World => w_
            go_wp2_with fail
            exact ret_cell2 rfl HRI.out HR.out.blk rfl HR.out.len rfl rfl ⟨_, _, by rw [HOK.out]; rfl, HRS.out, fun x hx => by
              rw [HC.out] at hx
              obtain ⟨x', h1, h2⟩ := Option.map_eq_some_iff.1 hx
              rw [HPHI.out x' h1]; exact h2, HB.out⟩
/-- What climbing answers: the root, if there is one. -/
def climbT (b : List UInt8) (i n : Int) (p : List (List UInt8)) : Option (List UInt8) := if n < 1 ∨ 1048576 < n ∨ i < 0 ∨ n ≤ i then none else climbB (leafB b) i.toNat n.toNat p
theorem climbB_32 (d : List UInt8) (hd : d.length = 32) : ∀ (M n i : Nat) (p : List (List UInt8)) (x : List UInt8), n ≤ M → climbB d i n p = some x → x.length = 32 := by
  intro M
  induction M with
  | zero =>
    intro n i p x hn h
    rw [climbB_one _ _ _ _ (by omega)] at h
    split at h
    · cases h; exact hd
    · cases h
  | succ M ih =>
    intro n i p x hn h
    by_cases h2 : n < 2
    · rw [climbB_one _ _ _ _ h2] at h
      split at h
      · cases h; exact hd
      · cases h
    · cases hl : p.getLast? with
      | none => rw [climbB, dif_neg h2, hl] at h; cases h
      | some last =>
        by_cases hk : i < halfN n
        · rw [climbB_left _ _ _ _ last (by omega) hl hk] at h
          obtain ⟨y, _, rfl⟩ := Option.map_eq_some_iff.1 h
          exact nodeB_len _ _
        · rw [climbB_right _ _ _ _ last (by omega) hl hk] at h
          obtain ⟨y, _, rfl⟩ := Option.map_eq_some_iff.1 h
          exact nodeB_len _ _
theorem climbT_32 {b : List UInt8} {i n : Int} {p : List (List UInt8)} {x : List UInt8} (h : climbT b i n p = some x) : x.length = 32 := by
  unfold climbT at h
  split at h
  · cases h
  · exact climbB_32 _ (leafB_len b) _ _ _ _ _ (Nat.le_refl _) h
/-- The digest that is answered: the root, or none of bits. -/
def climbD (b : List UInt8) (i n : Int) (p : List (List UInt8)) : List UInt8 := (climbT b i n p).getD (List.replicate 32 0)
theorem climbD_len (b : List UInt8) (i n : Int) (p : List (List UInt8)) : (climbD b i n p).length = 32 := by
  unfold climbD
  cases h : climbT b i n p with
  | none => simp
  | some x => simpa using climbT_32 h

set_option maxRecDepth 100000 in
set_option maxHeartbeats 2000000 in
theorem tclimb_any (A A2 : Option Addr) (n c n2 c2 : Nat) (b : List UInt8) (i N : Int) (ds : List (List UInt8)) {zs : List Value} (hz : Dig zs (climbD b i N ds)) (w : World) (hs : Sl w w.heap.size 1 A n (b.map B)) (hc : n ≤ c) (hn : n ≤ 1000000) (hi : Ids w A2 n2 c2 ds) (hn2 : n2 ≤ 9223372036854775807) (ht : Tabs w) :
    Calls Tryd.prog 43 #[.slice A n c, .int .i64 i, .int .i64 N, .slice A2 n2 c2] w fun e w' => e = .returned (.tuple #[.agg zs.toArray, .bool (climbT b i N ds).isSome]) ∧ Below w.heap.size w w' := by
  have HT := Lib.hid ht; have HS := Lib.hid hs; have HI := Lib.hid hi; have HZ := Lib.hid hz
  have HB := Lib.hid (Below.refl w.heap.size w)
  have hrid := row_id
  have HRI := Lib.hid hrid
  clear hrid ht hs hi hz
  by_cases hbad : N < 1 ∨ 1048576 < N ∨ i < 0 ∨ N ≤ i
  · have HC := Lib.hid (show climbT b i N ds = none by unfold climbT; rw [if_pos hbad])
    have HZE := Lib.hid (show zs = List.replicate 32 (B 0) by have h := HZ.out.1; unfold climbD at h; rw [HC.out] at h; rw [h]; simp)
    have HG := Lib.hid (Nat.le_refl w.heap.size)
    by_cases c1 : N < 1
    · have g1 : decide (N < 1) = true := by simpa using c1
      go_enter Tryd.func43, Tryd.ntmps43
      go_wp2_with (first | (with_reducible refine wpl_alloc (o := ⟨some 8, _, _, _, _, _⟩) rfl rfl zero_id ?_))
      intro w2_ hb2_ hb_ hsz2_
      have HX_ := Lib.hid (at_mk hb2_ len_id)
      clear hb2_ hsz2_
      have HB_ := Lib.hid (HB.out.grow' hb_)
      clear HB
      have HB := HB_
      clear HB_
      have HR := HX_
      clear hb_ HX_
      try clear w_
      rename World => w_
      go_wp2_with (first | (refine wpl_storeb (o := ⟨none, .store _ _ _, _, _, _, _⟩) (cs := List.replicate 32 (B 0)) rfl rfl row_id HR.out.blk rfl rfl HR.out.len len_id ones0 ?_))
      intro w2_ hb2_ hg2_ hsz2_
      have HB_ := Lib.hid (put_below HB.out HG.out hg2_)
      have HX_ := Lib.hid (at_mk hb2_ len_id)
      clear hb2_ hg2_ hsz2_ HB HR
      have HB := HB_
      have HR := HX_
      clear HB_ HX_
      try clear w_
      rename World => w_
      go_wp2_with fail
      exact ret_cell2 rfl HRI.out HR.out.blk rfl HR.out.len rfl rfl ⟨by rw [HC.out, HZE.out]; rfl, HB.out⟩
    · have g1 : decide (N < 1) = false := by simpa using c1
      by_cases c2 : 1048576 < N
      · have g2 : decide (1048576 < N) = true := by simpa using c2
        go_enter Tryd.func43, Tryd.ntmps43
        go_wp2_with (first | (with_reducible refine wpl_alloc (o := ⟨some 8, _, _, _, _, _⟩) rfl rfl zero_id ?_))
        intro w2_ hb2_ hb_ hsz2_
        have HX_ := Lib.hid (at_mk hb2_ len_id)
        clear hb2_ hsz2_
        have HB_ := Lib.hid (HB.out.grow' hb_)
        clear HB
        have HB := HB_
        clear HB_
        have HR := HX_
        clear hb_ HX_
        try clear w_
        rename World => w_
        go_wp2_with (first | (refine wpl_storeb (o := ⟨none, .store _ _ _, _, _, _, _⟩) (cs := List.replicate 32 (B 0)) rfl rfl row_id HR.out.blk rfl rfl HR.out.len len_id ones0 ?_))
        intro w2_ hb2_ hg2_ hsz2_
        have HB_ := Lib.hid (put_below HB.out HG.out hg2_)
        have HX_ := Lib.hid (at_mk hb2_ len_id)
        clear hb2_ hg2_ hsz2_ HB HR
        have HB := HB_
        have HR := HX_
        clear HB_ HX_
        try clear w_
        rename World => w_
        go_wp2_with fail
        exact ret_cell2 rfl HRI.out HR.out.blk rfl HR.out.len rfl rfl ⟨by rw [HC.out, HZE.out]; rfl, HB.out⟩
      · have g2 : decide (1048576 < N) = false := by simpa using c2
        by_cases c3 : i < 0
        · have g3 : decide (i < 0) = true := by simpa using c3
          go_enter Tryd.func43, Tryd.ntmps43
          go_wp2_with (first | (with_reducible refine wpl_alloc (o := ⟨some 8, _, _, _, _, _⟩) rfl rfl zero_id ?_))
          intro w2_ hb2_ hb_ hsz2_
          have HX_ := Lib.hid (at_mk hb2_ len_id)
          clear hb2_ hsz2_
          have HB_ := Lib.hid (HB.out.grow' hb_)
          clear HB
          have HB := HB_
          clear HB_
          have HR := HX_
          clear hb_ HX_
          try clear w_
          rename World => w_
          go_wp2_with (first | (refine wpl_storeb (o := ⟨none, .store _ _ _, _, _, _, _⟩) (cs := List.replicate 32 (B 0)) rfl rfl row_id HR.out.blk rfl rfl HR.out.len len_id ones0 ?_))
          intro w2_ hb2_ hg2_ hsz2_
          have HB_ := Lib.hid (put_below HB.out HG.out hg2_)
          have HX_ := Lib.hid (at_mk hb2_ len_id)
          clear hb2_ hg2_ hsz2_ HB HR
          have HB := HB_
          have HR := HX_
          clear HB_ HX_
          try clear w_
          rename World => w_
          go_wp2_with fail
          exact ret_cell2 rfl HRI.out HR.out.blk rfl HR.out.len rfl rfl ⟨by rw [HC.out, HZE.out]; rfl, HB.out⟩
        · have g3 : decide (i < 0) = false := by simpa using c3
          have g4 : decide (N ≤ i) = true := by simp; omega
          go_enter Tryd.func43, Tryd.ntmps43
          go_wp2_with (first | (with_reducible refine wpl_alloc (o := ⟨some 8, _, _, _, _, _⟩) rfl rfl zero_id ?_))
          intro w2_ hb2_ hb_ hsz2_
          have HX_ := Lib.hid (at_mk hb2_ len_id)
          clear hb2_ hsz2_
          have HB_ := Lib.hid (HB.out.grow' hb_)
          clear HB
          have HB := HB_
          clear HB_
          have HR := HX_
          clear hb_ HX_
          try clear w_
          rename World => w_
          go_wp2_with (first | (refine wpl_storeb (o := ⟨none, .store _ _ _, _, _, _, _⟩) (cs := List.replicate 32 (B 0)) rfl rfl row_id HR.out.blk rfl rfl HR.out.len len_id ones0 ?_))
          intro w2_ hb2_ hg2_ hsz2_
          have HB_ := Lib.hid (put_below HB.out HG.out hg2_)
          have HX_ := Lib.hid (at_mk hb2_ len_id)
          clear hb2_ hg2_ hsz2_ HB HR
          have HB := HB_
          have HR := HX_
          clear HB_ HX_
          try clear w_
          rename World => w_
          go_wp2_with fail
          exact ret_cell2 rfl HRI.out HR.out.blk rfl HR.out.len rfl rfl ⟨by rw [HC.out, HZE.out]; rfl, HB.out⟩
  · obtain ⟨Nn, rfl⟩ : ∃ m : Nat, N = (m : Int) := ⟨N.toNat, by omega⟩
    obtain ⟨j, rfl⟩ : ∃ m : Nat, i = (m : Int) := ⟨i.toNat, by omega⟩
    have HC := Lib.hid (show climbT b j Nn ds = climbB (leafB b) j Nn ds by unfold climbT; rw [if_neg hbad]; rfl)
    have g1 : decide ((Nn : Int) < 1) = false := by simp; omega
    have g2 : decide (1048576 < (Nn : Int)) = false := by simp; omega
    have g3 : decide ((j : Int) < 0) = false := by simp
    have g4 : decide ((Nn : Int) ≤ (j : Int)) = false := by simp; omega
    obtain ⟨ls, hls⟩ : ∃ v, Dig v (leafB b) := ⟨(leafB b).map B, rfl, leafB_len b⟩
    have HLS := Lib.hid hls
    have hN1 : 1 ≤ Nn := by omega
    have hjN : j < Nn := by omega
    have hNM : Nn ≤ 1048576 := by omega
    clear hbad hls
    obtain ⟨ok, hok⟩ : ∃ ok, (climbB (leafB b) j Nn ds).isSome = ok := ⟨_, rfl⟩
    have HOK := Lib.hid hok
    clear hok
    go_enter Tryd.func43, Tryd.ntmps43
    have HG := Lib.hid (Nat.le_refl w.heap.size)
    go_wp2_with (first | (with_reducible refine wpl_alloc (o := ⟨some 8, _, _, _, _, _⟩) rfl rfl zero_id ?_))
    intro w2_ hb2_ hb_ hsz2_
    have HX_ := Lib.hid (at_mk hb2_ len_id)
    clear hb2_ hsz2_
    have HB_ := Lib.hid (HB.out.grow' hb_)
    clear HB
    have HB := HB_
    clear HB_
    have HT_ := Lib.hid (HT.out.grow hb_)
    clear HT
    have HT := HT_
    clear HT_
    have HS_ := Lib.hid (HS.out.grow hb_)
    clear HS
    have HS := HS_
    clear HS_
    have HI_ := Lib.hid (HI.out.grow hb_)
    clear HI
    have HI := HI_
    clear HI_
    have HR := HX_
    clear hb_ HX_
    try clear w_
    rename World => w_
    go_wp2_with fail
    refine (leaf_any _ _ _ _ HLS.out _ HS.out hc hn HT.out).mono ?_
    rintro e w_ ⟨rfl, hb_⟩
    have HB_ := Lib.hid (HB.out.grow' hb_)
    clear HB
    have HB := HB_
    clear HB_
    have HR_ := Lib.hid (HR.out.grow hb_)
    clear HR
    have HR := HR_
    clear HR_
    have HT_ := Lib.hid (HT.out.grow hb_)
    clear HT
    have HT := HT_
    clear HT_
    have HI_ := Lib.hid (HI.out.grow hb_)
    clear HI
    have HI := HI_
    clear HI_
    clear hb_
    go_wp2_with fail
    refine (climb_any Nn Nn j n2 c2 A2 ds ls (leafB b) _ (Nat.le_refl _) hN1 hjN hNM hn2 HLS.out HI.out HT.out).mono ?_
    rintro e w2_ ⟨xs2, d', rfl, hx, hp, hb_⟩
    rw [HOK.out]
    have HX2 := Lib.hid hx
    have HP := Lib.hid hp
    clear hx hp
    have hb_ := hb_
    clear hb_
    have HB_ := Lib.hid (HB.out.grow' hb_)
    clear HB
    have HB := HB_
    clear HB_
    have HR_ := Lib.hid (HR.out.grow hb_)
    clear HR
    have HR := HR_
    clear HR_
    clear hb_
    try clear w_
    rename World => w_
    go_wp2_with (first | (with_reducible refine wpl_alloc (o := ⟨some 10, _, _, _, _, _⟩) rfl rfl zero_id ?_))
    intro w1_ hb1_ hbw1_ hsz1_
    have HB1_ := Lib.hid (at_mk hb1_ len_id)
    have HBW1_ := Lib.hid hbw1_
    have HZ1_ := Lib.hid hsz1_
    clear hb1_ hbw1_ hsz1_
    go_wp2_with (first | (with_reducible refine wpl_storeb (o := ⟨none, .store _ _ _, _, _, _, _⟩) rfl rfl row_id HB1_.out.blk rfl rfl HB1_.out.len HX2.out.len HX2.out.one ?_))
    intro w2_ hb2_ hg2_ hsz2_
    have hb_ := var_grow HBW1_.out HZ1_.out hg2_
    have HX_ := Lib.hid (at_mk hb2_ HX2.out.len)
    clear hb2_ hg2_ hsz2_ HB1_ HBW1_ HZ1_
    have HB_ := Lib.hid (HB.out.grow' hb_)
    clear HB
    have HB := HB_
    clear HB_
    have HR_ := Lib.hid (HR.out.grow hb_)
    clear HR
    have HR := HR_
    clear HR_
    generalize hg_ : w_.heap.size = gx at HX_ ⊢
    clear hg_
    have HVX := HX_
    clear hb_ HX_
    clear w1_
    try clear w_
    rename World => w_
    cases ok with
    | true =>
      obtain ⟨x, hx⟩ := Option.isSome_iff_exists.1 HOK.out
      have HE := Lib.hid (show xs2 = zs by rw [HX2.out.1, HZ.out.1, HP.out x hx]; unfold climbD; rw [HC.out, hx]; rfl)
      have HCX := Lib.hid hx
      clear hx
      go_wp2_with (first | (with_reducible refine wpl_loadb (o := ⟨some 40, _, _, _, _, _⟩) rfl rfl row_id HVX.out.blk rfl HVX.out.len ?_) | (with_reducible refine wpl_storeb (o := ⟨none, .store _ _ _, _, _, _, _⟩) rfl rfl row_id HR.out.blk rfl rfl HR.out.len HX2.out.len HX2.out.one ?_))
      intro w2_ hb2_ hg2_ hsz2_
      have HB_ := Lib.hid (put_below HB.out HG.out hg2_)
      have HX_ := Lib.hid (at_mk hb2_ HX2.out.len)
      clear hb2_ hg2_ hsz2_ HB HR
      have HB := HB_
      have HR := HX_
      clear HB_ HX_
      try clear w_
      rename World => w_
      go_wp2_with fail
      exact ret_cell2 rfl HRI.out HR.out.blk rfl HR.out.len rfl rfl ⟨by rw [HE.out, HC.out, HOK.out]; rfl, HB.out⟩
    | false =>
      have HN := Lib.hid (show climbB (leafB b) j Nn ds = none by have := HOK.out; simpa using this)
      have HZE := Lib.hid (show zs = List.replicate 32 (B 0) by have h := HZ.out.1; unfold climbD at h; rw [HC.out, HN.out] at h; rw [h]; simp)
      go_wp2_with (first | (refine wpl_storeb (o := ⟨none, .store _ _ _, _, _, _, _⟩) (cs := List.replicate 32 (B 0)) rfl rfl row_id HR.out.blk rfl rfl HR.out.len len_id ones0 ?_))
      intro w2_ hb2_ hg2_ hsz2_
      have HB_ := Lib.hid (put_below HB.out HG.out hg2_)
      have HX_ := Lib.hid (at_mk hb2_ len_id)
      clear hb2_ hg2_ hsz2_ HB HR
      have HB := HB_
      have HR := HX_
      clear HB_ HX_
      try clear w_
      rename World => w_
      go_wp2_with fail
      exact ret_cell2 rfl HRI.out HR.out.blk rfl HR.out.len rfl rfl ⟨by rw [HC.out, HN.out, HZE.out]; rfl, HB.out⟩
end Go.Proofs.YtlondennhhffdaaDoor

/- Layer 5: whether a path climbs; what is looked at; the same digests; the document's example. -/
namespace Go.Proofs.YtlondennhhffdaaDoor
open Go.RowKit Go.Shelf
set_option linter.unusedVariables false
attribute [local irreducible] nodeB leafB noneB

set_option maxRecDepth 100000 in
set_option maxHeartbeats 1000000 in
theorem tis5_any {res : Bool} {A A2 : Option Addr} {n c n2 c2 : Nat} {b r : List UInt8} {i N : Int} {ds : List (List UInt8)} {rs : List Value} (hres : decide (climbT b i N ds = some r) = res) (hr : Dig rs r) (w : World) (hs : Sl w w.heap.size 1 A n (b.map B)) (hc : n ≤ c) (hn : n ≤ 1000000) (hi : Ids w A2 n2 c2 ds) (hn2 : n2 ≤ 9223372036854775807) (ht : Tabs w) :
    Calls Tryd.prog 45 #[.agg rs.toArray, .slice A n c, .int .i64 i, .int .i64 N, .slice A2 n2 c2] w fun e w' => e = .returned (.bool res) ∧ Below w.heap.size w w' := by
  have HT := Lib.hid ht; have HS := Lib.hid hs; have HI := Lib.hid hi; have HR := Lib.hid hr
  have HB := Lib.hid (Below.refl w.heap.size w)
  obtain ⟨zs, hz⟩ : ∃ v, Dig v (climbD b i N ds) := ⟨(climbD b i N ds).map B, rfl, climbD_len b i N ds⟩
  have HZ := Lib.hid hz
  have HRES := Lib.hid hres
  clear ht hs hi hr hz hres
  obtain ⟨ok, hok⟩ : ∃ ok, (climbT b i N ds).isSome = ok := ⟨_, rfl⟩
  have HOK := Lib.hid hok
  clear hok
  go_enter Tryd.func45, Tryd.ntmps45
  go_wp2_with (first | (with_reducible refine wpl_box (o := ⟨some 5, _, _, _, _, _⟩) rfl rfl rfl ?_))
  intro w2_ hb2_ hb_ hsz2_
  have HX_ := Lib.hid (at_mk hb2_ HR.out.len)
  clear hb2_ hsz2_
  have HB_ := Lib.hid (HB.out.grow' hb_)
  clear HB
  have HB := HB_
  clear HB_
  have HT_ := Lib.hid (HT.out.grow hb_)
  clear HT
  have HT := HT_
  clear HT_
  have HS_ := Lib.hid (HS.out.grow hb_)
  clear HS
  have HS := HS_
  clear HS_
  have HI_ := Lib.hid (HI.out.grow hb_)
  clear HI
  have HI := HI_
  clear HI_
  have HV := HX_
  clear hb_ HX_
  try clear w_
  rename World => w_
  go_wp2_with fail
  refine (tclimb_any _ _ _ _ _ _ b i N ds HZ.out _ HS.out hc hn HI.out hn2 HT.out).mono ?_
  rintro e w2_ ⟨rfl, hb_⟩
  rw [HOK.out]
  have hb_ := hb_
  clear hb_
  have HB_ := Lib.hid (HB.out.grow' hb_)
  clear HB
  have HB := HB_
  clear HB_
  have HV_ := Lib.hid (HV.out.grow hb_)
  clear HV
  have HV := HV_
  clear HV_
  clear hb_
  try clear w_
  rename World => w_
  go_wp2_with (first | (with_reducible refine wpl_alloc (o := ⟨some 11, _, _, _, _, _⟩) rfl rfl zero_id ?_))
  intro w1_ hb1_ hbw1_ hsz1_
  have HB1_ := Lib.hid (at_mk hb1_ len_id)
  have HBW1_ := Lib.hid hbw1_
  have HZ1_ := Lib.hid hsz1_
  clear hb1_ hbw1_ hsz1_
  go_wp2_with (first | (with_reducible refine wpl_storeb (o := ⟨none, .store _ _ _, _, _, _, _⟩) rfl rfl row_id HB1_.out.blk rfl rfl HB1_.out.len HZ.out.len HZ.out.one ?_))
  intro w2_ hb2_ hg2_ hsz2_
  have hb_ := var_grow HBW1_.out HZ1_.out hg2_
  have HX_ := Lib.hid (at_mk hb2_ HZ.out.len)
  clear hb2_ hg2_ hsz2_ HB1_ HBW1_ HZ1_
  have HB_ := Lib.hid (HB.out.grow' hb_)
  clear HB
  have HB := HB_
  clear HB_
  have HV_ := Lib.hid (HV.out.grow hb_)
  clear HV
  have HV := HV_
  clear HV_
  generalize hg_ : w_.heap.size = gx at HX_ ⊢
  clear hg_
  have HVX := HX_
  clear hb_ HX_
  clear w1_
  try clear w_
  rename World => w_
  cases ok with
  | true =>
    obtain ⟨x, hx⟩ := Option.isSome_iff_exists.1 HOK.out
    have HD := Lib.hid (show decide (climbD b i N ds = r) = res by rw [← HRES.out]; unfold climbD; rw [hx]; simp)
    clear hx
    go_wp2_with (first | (with_reducible refine wpl_loadb (o := ⟨_, .load _ _, _, _, _, _⟩) rfl rfl row_id HVX.out.blk rfl HVX.out.len ?_) | (with_reducible refine wpl_loadw (o := ⟨_, .load _ _, _, _, _, _⟩) (by first | rfl | (go_simp; done) | fail) rfl row_id HVX.out.blk rfl HVX.out.len ?_) | (with_reducible refine wpl_loadb (o := ⟨_, .load _ _, _, _, _, _⟩) rfl rfl row_id HV.out.blk rfl HV.out.len ?_) | (with_reducible refine wpl_loadw (o := ⟨_, .load _ _, _, _, _, _⟩) (by first | rfl | (go_simp; done) | fail) rfl row_id HV.out.blk rfl HV.out.len ?_))
    refine (same_dig HZ.out HR.out _).mono ?_
    rintro e w_ ⟨rfl, hb_⟩
    have HB_ := Lib.hid (HB.out.grow' hb_)
    rw [HD.out]
    go_wp2_with fail
    go_ret
    exact ⟨rfl, HB_.out⟩
  | false =>
    have HN := Lib.hid (show res = false by rw [← HRES.out]; have h : climbT b i N ds = none := by have := HOK.out; simpa using this
                                            rw [h]; simp)
    go_wp2_with fail
    go_ret
    exact ⟨by rw [HN.out]; rfl, HB.out⟩

set_option maxRecDepth 100000 in
set_option maxHeartbeats 1000000 in
theorem great_any (A : Option Addr) (n c : Nat) (ps : List (Value × List UInt8)) (w : World) (hp : Parts w w.heap.size A n ps) :
    Calls Tryd.prog 36 #[.slice A n c] w fun e w' => ∃ g : Bool, e = .returned (.bool g) ∧ (g = false → n ≤ 40 ∧ ∀ p ∈ ps, p.2.length ≤ 60) ∧ Below w.heap.size w w' := by
  have HP := Lib.hid hp
  have HN := Lib.hid hp.len
  clear hp
  go_enter Tryd.func36, Tryd.ntmps36
  go_wp2_with fail
  go_loopw [3] (fun i wr => ∃ k : Nat, k ≤ n ∧ k ≤ 40 ∧ i = .int .i64 k ∧ Hid (∀ p ∈ ps.take k, p.2.length ≤ 60) ∧ Hid (Below w.heap.size w wr)) (fun i _ => n - (intOf i).toNat)
  case atStart => exact ⟨0, by omega, by omega, rfl, Lib.hid (by simp), Lib.hid (Below.refl _ _)⟩
  case round =>
    obtain ⟨k, hk, hk40, rfl, hall, hbw⟩ := hrel
    by_cases hlt : k < n
    · by_cases h40 : k < 40
      · obtain ⟨b, off, A2, c2, bs, rfl, hps, hc, hcc, hs⟩ := (HP.out.below hbw.out).at_ hlt
        have HPS := Lib.hid hps
        clear hps hs hcc
        by_cases h60 : bs.length ≤ 60
        · have g2 : decide (60 < (bs.length : Int)) = false := by simp; omega
          go_wp2_with fail
          go_roundw
          case rel => exact ⟨k + 1, by omega, by omega, by go_num, Lib.hid (by
            intro p hp
            rw [List.take_add_one, HPS.out, Option.toList_some, List.mem_append, List.mem_singleton] at hp
            rcases hp with hp | rfl
            · exact hall.out p hp
            · exact h60), hbw⟩
          case measure => simp [intOf]; omega
        · have g2 : decide (60 < (bs.length : Int)) = true := by simp; omega
          go_wp2_with fail
          go_ret
          exact ⟨true, rfl, (fun h => by cases h), hbw.out⟩
      · obtain rfl : k = 40 := by omega
        have g4 : decide (40 < (n : Int)) = true := by simp; omega
        go_wp2_with fail
        go_ret
        exact ⟨true, rfl, (fun h => by cases h), hbw.out⟩
    · obtain rfl : k = n := by omega
      have g4 : decide (40 < (k : Int)) = false := by simp; omega
      have HA := Lib.hid (show ∀ p ∈ ps, p.2.length ≤ 60 from fun p hp => hall.out p (by rw [List.take_of_length_le (by rw [HN.out]; exact Nat.le_refl _)]; exact hp))
      go_wp2_with fail
      go_ret
      exact ⟨false, rfl, (fun _ => ⟨hk40, HA.out⟩), hbw.out⟩

set_option maxRecDepth 100000 in
set_option maxHeartbeats 1000000 in
theorem rsame5_eq (A A2 : Option Addr) (n c c2 : Nat) (ds : List (List UInt8)) (w : World) (hn : n ≤ 1000000) (h1 : Ids w A n c ds) (h2 : Ids w A2 n c2 ds) :
    Calls Tryd.prog 40 #[.slice A n c, .slice A2 n c2] w fun e w' => e = .returned (.bool true) ∧ Below w.heap.size w w' := by
  have H1 := Lib.hid h1; have H2 := Lib.hid h2
  clear h1 h2
  go_enter Tryd.func40, Tryd.ntmps40
  go_wp2_with fail
  go_loopw [5] (fun i wr => ∃ k : Nat, k ≤ n ∧ i = .int .i64 k ∧ Hid (Below w.heap.size w wr)) (fun i _ => n - (intOf i).toNat)
  case atStart => exact ⟨0, by omega, rfl, Lib.hid (Below.refl _ _)⟩
  case round =>
    obtain ⟨k, hk, rfl, hbw⟩ := hrel
    by_cases hlt : k < n
    · have HB := hbw
      have H1A := Lib.hid (H1.out.up HB.out)
      have H2A := Lib.hid (H2.out.up HB.out)
      try go_wp2_with fail
      repeat' (first | (with_reducible refine wp_plan (id := 6) Grow [0,0,0,2,0,0,0,2,0] (.get 0 (.get 1 (.get 2 (.get 3 (.get 4 (.get 5 (.get 6 (.get 7 (.get 8 .done))))))))) (by kernel_rfl) (by kernel_rfl) Grow.refl Grow.trans ?_) | go_values | go_skip | go_guarded | go_step | go_upon | go_back)
      intro w_ hd_
      have hb_ := hd_.grow
      have HB_ := Lib.hid (HB.out.grow' hb_)
      clear HB
      have HB := HB_
      clear HB_
      have H1A_ := Lib.hid (H1A.out.grow hb_)
      clear H1A
      have H1A := H1A_
      clear H1A_
      have H2A_ := Lib.hid (H2A.out.grow hb_)
      clear H2A
      have H2A := H2A_
      clear H2A_
      clear hb_ hd_
      obtain ⟨b1, o1, d, rfl, hd, hd32, hb1, hc1⟩ := H1A.out.key hlt
      obtain ⟨b2, o2, d2, rfl, hd2, _, hb2, hc2⟩ := H2A.out.key hlt
      obtain rfl : d2 = d := by rw [hd] at hd2; exact (Option.some.inj hd2).symm
      obtain ⟨vs, hvs⟩ : ∃ vs, vs = d2.map B := ⟨_, rfl⟩
      have HV := Lib.hid (show Dig vs d2 from ⟨hvs, hd32⟩)
      rw [← hvs] at hc1 hc2
      have HC1 := Lib.hid hc1; have HC2 := Lib.hid hc2
      have HB1 := Lib.hid hb1; have HB2 := Lib.hid hb2
      have hne : ∀ w, (binOp .neq 26 (.agg vs.toArray) (.agg vs.toArray)).run Tryd.prog w = .ok (.bool false) w := fun w => by rw [HV.out.neq HV.out]; simp
      clear hvs hc1 hc2 hb1 hb2 hd hd2 hd32
      repeat (first | (refine pl_calm rfl rfl (by first | exact wanted_none rfl | (go_simp; done) | rfl) (fun w_ => by first | (go_simp; rfl) | (go_simp; done) | rfl) (fun K hK => ?_); go_simp; refine hK _ _ ?_; clear hK K) | (refine pl_skip rfl (by first | (go_simp; done) | rfl) (fun K hK => ?_); go_simp; refine hK _ _ ?_; clear hK K) | (refine pl_skipa rfl (by first | (go_simp; done) | rfl) (fun K hK => ?_); go_simp; refine hK _ _ ?_; clear hK K))
      refine pl_loadm rfl (by decide) (by exact wanted_none rfl) rfl row_id HC1.out HB1.out (by first | rfl | (go_simp; done) | rfl) HV.out.len (fun K hK => ?_)
      go_simp
      refine hK _ _ ?_
      clear hK K
      repeat (first | (refine pl_calm rfl rfl (by first | exact wanted_none rfl | (go_simp; done) | rfl) (fun w_ => by first | (go_simp; rfl) | (go_simp; done) | rfl) (fun K hK => ?_); go_simp; refine hK _ _ ?_; clear hK K) | (refine pl_skip rfl (by first | (go_simp; done) | rfl) (fun K hK => ?_); go_simp; refine hK _ _ ?_; clear hK K) | (refine pl_skipa rfl (by first | (go_simp; done) | rfl) (fun K hK => ?_); go_simp; refine hK _ _ ?_; clear hK K))
      refine pl_loadm rfl (by decide) (by exact wanted_none rfl) rfl row_id HC2.out HB2.out (by first | rfl | (go_simp; done) | rfl) HV.out.len (fun K hK => ?_)
      go_simp
      refine hK _ _ ?_
      clear hK K
      repeat (first | (refine pl_calm rfl rfl (by first | exact wanted_none rfl | (go_simp; done) | rfl) (fun w_ => by first | (go_simp; rfl) | (go_simp; done) | rfl) (fun K hK => ?_); go_simp; refine hK _ _ ?_; clear hK K) | (refine pl_skip rfl (by first | (go_simp; done) | rfl) (fun K hK => ?_); go_simp; refine hK _ _ ?_; clear hK K) | (refine pl_skipa rfl (by first | (go_simp; done) | rfl) (fun K hK => ?_); go_simp; refine hK _ _ ?_; clear hK K))
      refine pl_done ?_
      go_wp2_with fail
      go_roundw
      case rel => exact ⟨k + 1, by omega, by go_num, HB⟩
      case measure => simp [intOf]; omega
    · go_wp2_with fail
      go_ret
      exact ⟨rfl, hbw.out⟩

theorem Ids.own {w : World} {base n c : Nat} {A : Option Addr} {ds : List (List UInt8)} (h : OwnI w base A n c ds) (hl : ds.length = n) (h32 : ∀ d ∈ ds, d.length = 32) (hc : n ≤ c) : Ids w A n c ds := ⟨Sl.of_own h, hl, h32, hc⟩
theorem own_cap {w : World} {base n c : Nat} {A : Option Addr} {ds : List (List UInt8)} (h : OwnI w base A n c ds) : n ≤ c := by
  rcases Nat.eq_zero_or_pos n with h0 | h0
  · omega
  · obtain ⟨_, _, _, _, h⟩ := own_form h h0; exact h
def KeepC (w : World) (a : Addr) (v : Value) : Prop := w.cell? a = some v
theorem KeepC.grow {w w' : World} {a : Addr} {v : Value} (h : KeepC w a v) (k : Grow w w') : KeepC w' a v := by
  have := World.block_lt_of_cell? w a h
  exact (k.cell this).trans h
def spI (n : Nat) (ds : List (List UInt8)) : Sp := spS n (fun A c w => Ids w A n c ds) (fun _ _ _ _ h k => h.grow k)
theorem Ids.none_ (w : World) : Ids w none 0 0 [] := ⟨Sl.nil, rfl, by simp, Nat.le_refl _⟩
theorem zero_lit : Dig [.int .u8 0, .int .u8 0, .int .u8 0, .int .u8 0, .int .u8 0, .int .u8 0, .int .u8 0, .int .u8 0, .int .u8 0, .int .u8 0, .int .u8 0, .int .u8 0, .int .u8 0, .int .u8 0, .int .u8 0, .int .u8 0, .int .u8 0, .int .u8 0, .int .u8 0, .int .u8 0, .int .u8 0, .int .u8 0, .int .u8 0, .int .u8 0, .int .u8 0, .int .u8 0, .int .u8 0, .int .u8 0, .int .u8 0, .int .u8 0, .int .u8 0, .int .u8 0] (List.replicate 32 0) := ⟨by rfl, by simp⟩
theorem root7 : rootB [[7]] = leafB [7] := rootB_one _
theorem path7 : pathI [[7]] 0 = [] := by unfold pathI; rw [if_neg (by omega)]; exact pathB_none _ _ (by simp)
theorem climb7 : climbT [7] 0 1 [] = some (leafB [7]) := by unfold climbT; rw [if_neg (by omega), climbB_one _ _ _ _ (by decide)]; rfl
theorem leaf7 : leafB [7] ≠ List.replicate 32 0 := by unfold leafB; rw [under1']; decide +kernel

set_option maxRecDepth 100000 in
set_option maxHeartbeats 2000000 in
theorem awake5_any (w : World) (ht : Tabs w) : Calls Tryd.prog 37 #[] w fun e w' => e = .returned (.bool true) ∧ Below w.heap.size w w' := by
  have HT := Lib.hid ht
  have HB := Lib.hid (Below.refl w.heap.size w)
  clear ht
  obtain ⟨xs, hxs⟩ := dig_root [[7]]
  have HX := Lib.hid hxs
  clear hxs
  go_enter Tryd.func37, Tryd.ntmps37
  go_wp2_with fail
  generalize hw_ : World.alloc w _ = w1_
  obtain ⟨hX_, hb1, hs1⟩ := alloc_eq hw_
  generalize hw2 : World.alloc w1_ _ = w2_
  obtain ⟨hX2, hb2, hs2⟩ := alloc_eq hw2
  have HS7 := Lib.hid (show Sl w2_ w2_.heap.size 1 (some ⟨w.heap.size, 0, none⟩) 1 ([7].map B) from (Blk.call hX_ hb2).sl rfl)
  have HP := Lib.hid (show Parts w2_ w2_.heap.size (some ⟨w1_.heap.size, 0, none⟩) 1 [(.slice (some ⟨w.heap.size, 0, none⟩) 1 1, [7])] from
    parts_blk hX2 rfl (by intro p hp; simp only [List.mem_cons, List.not_mem_nil, or_false] at hp; subst hp; exact part_mk HS7.out (Nat.le_refl _)))
  have HT2 := Lib.hid (HT.out.grow (Grow.trans _ _ _ hb1 hb2))
  have HB2 := Lib.hid (HB.out.grow' (Grow.trans _ _ _ hb1 hb2))
  have HC := Lib.hid (hX2.at_ (i := 0) rfl)
  have HL1 := Lib.hid (show ∀ p ∈ [((.slice (some ⟨w.heap.size, 0, none⟩) 1 1 : Value), ([7] : List UInt8))], p.2.length ≤ 1000000 from by intro p hp; simp only [List.mem_singleton] at hp; subst hp; simp)
  rw [hs1] at HP HC
  clear hw_ hX_ hb1 hs1 hw2 hX2 hb2 hs2 HT HB
  have HT := HT2
  have HB := HB2
  clear HT2 HB2
  clear w1_
  rename World => w_
  have HC2 := HC.out
  have HCK := Lib.hid (show KeepC w_ ⟨w.heap.size + 1, 0, none⟩ (.slice (some ⟨w.heap.size, 0, none⟩) 1 1) from HC2)
  clear HC HC2
  try go_wp2_with fail
  repeat' (first | (with_reducible refine wp_flow (id := 2) [0,1,0,4,12,0,35,127,255,511,1023,2047,4095,8191,16383,32767,32767,98303,229375,524287,1048575,2097151,4194303] [0,3,0,0,0,0,3,3,0,0,3,0,0,0,0,0,0,0,0,3,0,0,0] (fun i => match i with | 1 => spV (.agg xs.toArray) | 6 => spI 0 [] | 7 => spV (.bool true) | 10 => spI 0 [] | 19 => spV (.bool false) | _ => spV undef) (by kernel_rfl) (by kernel_rfl) ?_) | go_values | go_skip | go_guarded | go_step | go_upon | go_back)
  intro w_ hd_
  have hb_ := hd_.grow
  have HB_ := Lib.hid (HB.out.grow' hb_)
  clear HB
  have HB := HB_
  clear HB_
  have HT_ := Lib.hid (HT.out.grow hb_)
  clear HT
  have HT := HT_
  clear HT_
  have HP_ := Lib.hid (HP.out.grow hb_)
  clear HP
  have HP := HP_
  clear HP_
  have HS7_ := Lib.hid (HS7.out.grow hb_)
  clear HS7
  have HS7 := HS7_
  clear HS7_
  have HCK_ := Lib.hid (HCK.out.grow hb_)
  clear HCK
  have HCK := HCK_
  clear HCK_
  clear hb_ hd_
  show wpL _ _ _ _ _ _ _ [0,1,2,3,4,5,6,7,8,9,10,11,12,13,14,15,16,17,18,19,20,21,22] _ _
  repeat (first | (refine fl_calm rfl (by decide) (by first | exact wanted_none rfl | (go_simp; done) | fail) (fun w_ _ _ => by first | (go_simp; rfl) | (go_simp; done) | rfl) (fun K hK => ?_); go_simp; refine hK _ ?_; clear hK K) | (refine fl_skip rfl (by first | (go_simp; done) | fail) (fun K hK => ?_); go_simp; refine hK _ ?_; clear hK K) | (refine fl_load rfl (by decide) (by first | exact wanted_none rfl | (go_simp; done) | fail) rfl (by first | rfl | (go_simp; rfl)) (by kernel_rfl) (by first | exact HCK.out) (fun K hK => ?_); go_simp; refine hK _ ?_; clear hK K))
  refine fl_callv rfl (by kernel_rfl) rfl (by first | exact wanted_none rfl | (go_simp; done) | fail) (fun w_ => by first | (go_simp; exact ⟨rfl, rfl⟩) | (go_simp; rfl) | (go_simp; exact ⟨⟨rfl, rfl, rfl⟩, rfl⟩)) (fun w2_ hg_ hL_ => ?_) (fun K hK => ?_)
  · skip
    replace HP := Lib.hid (HP.out.grow hg_)
    replace HT := Lib.hid (HT.out.grow hg_)
    exact root_any 1 1 1 _ [(.slice (some ⟨w.heap.size, 0, none⟩) 1 1, [7])] xs _ (by omega) HX.out HP.out (by omega) (by omega) HL1.out HT.out
  go_simp
  refine hK _ ?_
  clear hK K
  repeat (first | (refine fl_calm rfl (by decide) (by first | exact wanted_none rfl | (go_simp; done) | fail) (fun w_ _ _ => by first | (go_simp; rfl) | (go_simp; done) | rfl) (fun K hK => ?_); go_simp; refine hK _ ?_; clear hK K) | (refine fl_skip rfl (by first | (go_simp; done) | fail) (fun K hK => ?_); go_simp; refine hK _ ?_; clear hK K) | (refine fl_load rfl (by decide) (by first | exact wanted_none rfl | (go_simp; done) | fail) rfl (by first | rfl | (go_simp; rfl)) (by kernel_rfl) (by first | exact HCK.out) (fun K hK => ?_); go_simp; refine hK _ ?_; clear hK K))
  refine fl_calls rfl (by kernel_rfl) rfl (by first | exact wanted_none rfl | (go_simp; done) | fail) (fun w_ => by first | (go_simp; exact ⟨rfl, rfl⟩) | (go_simp; rfl) | (go_simp; exact ⟨⟨rfl, rfl, rfl⟩, rfl⟩)) (fun w2_ hg_ hL_ => ?_) (fun A6 c6 K hK => ?_)
  · skip
    replace HP := Lib.hid (HP.out.grow hg_)
    replace HT := Lib.hid (HT.out.grow hg_)
    exact (path_any 1 1 1 _ [(.slice (some ⟨w.heap.size, 0, none⟩) 1 1, [7])] 0 [] _ (by omega) path7 HP.out (by omega) (by omega) HL1.out HT.out).mono fun e w' ⟨A', c', h1, h2, h3⟩ => ⟨A', c', h1, Ids.own h2 rfl (by simp) (own_cap h2), h3⟩
  go_simp
  refine hK _ ?_
  clear hK K
  repeat (first | (refine fl_calm rfl (by decide) (by first | exact wanted_none rfl | (go_simp; done) | fail) (fun w_ _ _ => by first | (go_simp; rfl) | (go_simp; done) | rfl) (fun K hK => ?_); go_simp; refine hK _ ?_; clear hK K) | (refine fl_skip rfl (by first | (go_simp; done) | fail) (fun K hK => ?_); go_simp; refine hK _ ?_; clear hK K) | (refine fl_load rfl (by decide) (by first | exact wanted_none rfl | (go_simp; done) | fail) rfl (by first | rfl | (go_simp; rfl)) (by kernel_rfl) (by first | exact HCK.out) (fun K hK => ?_); go_simp; refine hK _ ?_; clear hK K))
  refine fl_callv rfl (by kernel_rfl) rfl (by first | exact wanted_none rfl | (go_simp; done) | fail) (fun w_ => by first | (go_simp; exact ⟨rfl, rfl⟩) | (go_simp; rfl) | (go_simp; exact ⟨⟨rfl, rfl, rfl⟩, rfl⟩)) (fun w2_ hg_ hL_ => ?_) (fun K hK => ?_)
  · skip
    replace HS7 := Lib.hid (HS7.out.grow hg_)
    replace HT := Lib.hid (HT.out.grow hg_)
    have HI6 := Lib.hid (flA.get (k := 1) hL_ rfl (by kernel_rfl))
    exact tis5_any (res := true) (by rw [climb7, root7]; simp) HX.out _ HS7.out (by omega) (by omega) HI6.out (by omega) HT.out
  go_simp
  refine hK _ ?_
  clear hK K
  repeat (first | (refine fl_calm rfl (by decide) (by first | exact wanted_none rfl | (go_simp; done) | fail) (fun w_ _ _ => by first | (go_simp; rfl) | (go_simp; done) | rfl) (fun K hK => ?_); go_simp; refine hK _ ?_; clear hK K) | (refine fl_skip rfl (by first | (go_simp; done) | fail) (fun K hK => ?_); go_simp; refine hK _ ?_; clear hK K) | (refine fl_load rfl (by decide) (by first | exact wanted_none rfl | (go_simp; done) | fail) rfl (by first | rfl | (go_simp; rfl)) (by kernel_rfl) (by first | exact HCK.out) (fun K hK => ?_); go_simp; refine hK _ ?_; clear hK K))
  refine fl_calls rfl (by kernel_rfl) rfl (by first | exact wanted_none rfl | (go_simp; done) | fail) (fun w_ => by first | (go_simp; exact ⟨rfl, rfl⟩) | (go_simp; rfl) | (go_simp; exact ⟨⟨rfl, rfl, rfl⟩, rfl⟩)) (fun w2_ hg_ hL_ => ?_) (fun A14 c14 K hK => ?_)
  · skip
    replace HP := Lib.hid (HP.out.grow hg_)
    replace HT := Lib.hid (HT.out.grow hg_)
    exact (path_any 1 1 1 _ [(.slice (some ⟨w.heap.size, 0, none⟩) 1 1, [7])] 0 [] _ (by omega) path7 HP.out (by omega) (by omega) HL1.out HT.out).mono fun e w' ⟨A', c', h1, h2, h3⟩ => ⟨A', c', h1, Ids.own h2 rfl (by simp) (own_cap h2), h3⟩
  go_simp
  refine hK _ ?_
  clear hK K
  repeat (first | (refine fl_calm rfl (by decide) (by first | exact wanted_none rfl | (go_simp; done) | fail) (fun w_ _ _ => by first | (go_simp; rfl) | (go_simp; done) | rfl) (fun K hK => ?_); go_simp; refine hK _ ?_; clear hK K) | (refine fl_skip rfl (by first | (go_simp; done) | fail) (fun K hK => ?_); go_simp; refine hK _ ?_; clear hK K) | (refine fl_load rfl (by decide) (by first | exact wanted_none rfl | (go_simp; done) | fail) rfl (by first | rfl | (go_simp; rfl)) (by kernel_rfl) (by first | exact HCK.out) (fun K hK => ?_); go_simp; refine hK _ ?_; clear hK K))
  refine fl_callv rfl (by kernel_rfl) rfl (by first | exact wanted_none rfl | (go_simp; done) | fail) (fun w_ => by first | (go_simp; exact ⟨rfl, rfl⟩) | (go_simp; rfl) | (go_simp; exact ⟨⟨rfl, rfl, rfl⟩, rfl⟩)) (fun w2_ hg_ hL_ => ?_) (fun K hK => ?_)
  · skip
    replace HS7 := Lib.hid (HS7.out.grow hg_)
    replace HT := Lib.hid (HT.out.grow hg_)
    exact tis5_any (res := false) (by rw [climb7]; simpa using leaf7) zero_lit _ HS7.out (by omega) (by omega) (Ids.none_ _) (by omega) HT.out
  go_simp
  refine hK _ ?_
  clear hK K
  repeat (first | (refine fl_calm rfl (by decide) (by first | exact wanted_none rfl | (go_simp; done) | fail) (fun w_ _ _ => by first | (go_simp; rfl) | (go_simp; done) | rfl) (fun K hK => ?_); go_simp; refine hK _ ?_; clear hK K) | (refine fl_skip rfl (by first | (go_simp; done) | fail) (fun K hK => ?_); go_simp; refine hK _ ?_; clear hK K) | (refine fl_load rfl (by decide) (by first | exact wanted_none rfl | (go_simp; done) | fail) rfl (by first | rfl | (go_simp; rfl)) (by kernel_rfl) (by first | exact HCK.out) (fun K hK => ?_); go_simp; refine hK _ ?_; clear hK K))
  refine fl_done ?_
  intro w2_ hg_ hL_
  replace HB := Lib.hid (HB.out.grow' hg_)
  clear hg_ hL_
  try clear w_
  rename World => w_
  go_wp2_with fail
  go_ret
  exact ⟨rfl, HB.out⟩

end Go.Proofs.YtlondennhhffdaaDoor

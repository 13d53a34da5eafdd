/- The walk of seisinlaw06.TagOwn. -/
import Derived.Test.YtlondennhhffdaaDoorTagE
import Derived.Test.YtlondennhhffdaaDoorFlowU
import Derived.Test.YtlondennhhffdaaDoorOwnB
namespace Go.Proofs.YtlondennhhffdaaDoor
open Go.RowKit Go.Shelf
set_option linter.unusedVariables false

theorem dig_tag (k b : List UInt8) : ∃ xs, Dig xs (tagB k b) := ⟨(tagB k b).map B, rfl, tagB_length k b⟩
attribute [local go_sem high] xor_b
set_option maxRecDepth 100000 in
set_option maxHeartbeats 4000000 in
theorem tagOwn_any (A : Option Addr) (n c : Nat) (key : List UInt8) (A2 : Option Addr) (n2 c2 : Nat) (bs : List UInt8) (at8 : Int) (t : UInt8) (s i j : Nat) (w : World) (hs : Sl w w.heap.size 1 A n (key.map B)) (hc : n ≤ c) (hs2 : Sl w w.heap.size 1 A2 n2 (bs.map B)) (hc2 : n2 ≤ c2)
    (a1 : IntKind.i64.wrap at8 = at8) (a2 : RowKit.wrap64 at8 = at8) (q1 : 1 ≤ n → at8.tmod (n : Int) = (i : Int)) (q2 : 1 ≤ n2 → at8.tmod (n2 : Int) = (j : Int)) (hi : 1 ≤ n → i < n) (hj : 1 ≤ n2 → j < n2) (q3 : (IntKind.i64.wrap (b8 t)).tmod 8 = (s : Int)) (q3b : (RowKit.wrap64 (b8 t)).tmod 8 = (s : Int)) (hs8 : s < 8) (ht : Tabs w) :
    Calls Tryd.prog 10 #[.slice A n c, .slice A2 n2 c2, .int .u8 at8, .int .u8 (b8 t)] w fun e w' => e = .returned (.bool true) ∧ Below w.heap.size w w' := by
  have HS := Lib.hid hs; have HT := Lib.hid ht; have HS2 := Lib.hid hs2
  have HB := Lib.hid (Below.refl w.heap.size w)
  have HL := Lib.hid (show key.length = n by have := hs.len; simpa using this)
  have HL2 := Lib.hid (show bs.length = n2 by have := hs2.len; simpa using this)
  clear hs ht hs2
  by_cases h1 : 1 ≤ n
  · have g1 : decide ((n : Int) < 1) = false := by simp; omega
    by_cases h2 : n ≤ 64
    · have g2 : decide (64 < (n : Int)) = false := by simp; omega
      by_cases h3 : 1 ≤ n2
      · have g3 : decide ((n2 : Int) < 1) = false := by simp; omega
        by_cases h4 : n2 ≤ 100
        · have g4 : decide (100 < (n2 : Int)) = false := by simp; omega
          have hin := hi h1
          have hjn := hj h3
          have r1 := q1 h1
          have r2 := q2 h3
          clear hi hj q1 q2
          have hn0 : (n : Int) ≠ 0 := by omega
          have hn1 : n ≠ 0 := by omega
          have hn2 : (n : Int) ≠ -1 := by omega
          have hm0 : (n2 : Int) ≠ 0 := by omega
          have hm1 : n2 ≠ 0 := by omega
          have hm2 : (n2 : Int) ≠ -1 := by omega
          have hsr : (s : Int) < 8 := by omega
          obtain ⟨y, hy⟩ : ∃ y : UInt8, IntKind.u8.wrap ((2 : Int) ^ s) = b8 y := ⟨_, by have := shl_b s hs8; rw [Int.one_mul] at this; exact this⟩
          obtain ⟨x1, hx1⟩ : ∃ x, key[i]? = some x := ⟨_, List.getElem?_eq_getElem (by rw [HL.out]; exact hin)⟩
          obtain ⟨x2, hx2⟩ : ∃ x, bs[j]? = some x := ⟨_, List.getElem?_eq_getElem (by rw [HL2.out]; exact hjn)⟩
          have HX1 := Lib.hid hx1; have HX2 := Lib.hid hx2
          clear hx1 hx2
          have HA := Lib.hid (all_bytes key)
          have HA2 := Lib.hid (all_bytes bs)
          have HN0 := Lib.hid (World.ownsRow_lit (base := w.heap.size) (e := 5) (size := 1) w #[] 0 (Nat.le_refl _) (by simp [maxLen]) rfl)
          have HSA := Lib.hid (HS.out.alloc (Nat.le_refl _) (.cells #[] 5))
          go_enter Tryd.func10, Tryd.ntmps10
          go_wp2_with (at_builtin; refine wpl_apps rfl rfl el_u8 HN0.out rfl HSA.out rfl HA.out (by omega) (by omega) (Nat.le_of_lt (by simp)) ?_)
          intro A9 c9 w_ ho hg hA
          have HB_ := Lib.hid (show Below w.heap.size w w_ from ((Below.refl w.heap.size w).alloc (Nat.le_refl _) (.cells #[] 5)).grown hg (by simp) (by intro k hk; cases hk; exact Nat.le_refl _))
          have HO9 := Lib.hid (show OwnAt w_ w.heap.size A9 n c9 (key.map B) from ho)
          clear ho hg hA HB HN0 HSA
          have HB := HB_
          clear HB_
          obtain ⟨g9, rfl, hg9, hlt9, hn9⟩ := own_form HO9.out (by omega)
          have HG9 := Lib.hid hg9; have HLT9 := Lib.hid hlt9
          clear hg9 hlt9
          have HN0 := Lib.hid (World.ownsRow_lit (base := w_.heap.size) (e := 5) (size := 1) w_ #[] 0 (Nat.le_refl _) (by simp [maxLen]) rfl)
          have HSA := Lib.hid ((HS2.out.up HB.out).alloc (Nat.le_refl _) (.cells #[] 5))
          go_wp2_with (at_builtin; refine wpl_apps rfl rfl el_u8 HN0.out rfl HSA.out rfl HA2.out (by omega) (by omega) (Nat.le_of_lt (by simp)) ?_)
          intro A10 c10 w2_ ho hg hA
          have hb2 : Grow w_ w2_ := ((Below.refl w_.heap.size w_).alloc (Nat.le_refl _) (.cells #[] 5)).grown hg (by simp) (by intro k hk; cases hk; exact Nat.le_refl _)
          have HO10 := Lib.hid (show OwnAt w2_ w_.heap.size A10 n2 c10 (bs.map B) from ho)
          have HB_ := Lib.hid (HB.out.grow' hb2)
          have HO9_ := Lib.hid (HO9.out.grow hb2)
          clear ho hg hA HB HN0 HSA HO9 hb2
          have HB := HB_
          have HO9 := HO9_
          clear HB_ HO9_
          obtain ⟨g10, rfl, hg10, hlt10, hn10⟩ := own_form HO10.out (by omega)
          have HG10 := Lib.hid hg10
          have HNE := Lib.hid (show g9 ≠ g10 by have := HLT9.out; omega)
          have HO10_ := Lib.hid (show OwnAt w2_ w.heap.size (some ⟨g10, 0, none⟩) n2 c10 (bs.map B) from own_base HO10.out (by have := HG9.out; have := HLT9.out; omega))
          have HG10B := Lib.hid (show w.heap.size ≤ g10 by have := HG9.out; have := HLT9.out; omega)
          clear HO10 hg10 hlt10 HG10 HLT9
          have HO10 := HO10_
          clear HO10_
          try clear w_
          rename World => w_
          go_wp2_with fail
          try go_wp2_with fail
          repeat' (first | (with_reducible refine wp_plan (id := 4) Grow [0,0,0,0,0,0,0,0,0,0,0,0,0,2,0,0,0,0,0,0,3] (.get 0 (.get 1 (.get 2 (.get 3 (.get 4 (.get 5 (.get 6 (.get 7 (.get 8 (.get 9 (.get 10 (.get 11 (.get 12 (.get 13 (.get 14 (.get 15 (.get 16 (.get 17 (.get 18 (.get 19 (.act 20 .done))))))))))))))))))))) (by kernel_rfl) (by kernel_rfl) Grow.refl Grow.trans ?_) | go_values | go_skip | go_guarded | go_step | go_upon | go_back)
          intro w_ hd_
          have hb_ := hd_.grow
          have HB_ := Lib.hid (HB.out.grow' hb_)
          clear HB
          have HB := HB_
          clear HB_
          have HO9_ := Lib.hid (HO9.out.grow hb_)
          clear HO9
          have HO9 := HO9_
          clear HO9_
          have HO10_ := Lib.hid (HO10.out.grow hb_)
          clear HO10
          have HO10 := HO10_
          clear HO10_
          clear hb_ hd_
          have hcx : w_.cell? ⟨g9, i, none⟩ = some (.int .u8 (b8 x1)) := by
            have h := World.ownsRow.cellAt HO9.out i (by omega)
            rw [h, List.getElem?_map, HX1.out]; rfl
          have hfz : w_.frozen? ⟨g9, i, none⟩ = false := own_frozen HO9.out i
          repeat (first | (refine pl_calm rfl rfl (by first | exact wanted_none rfl | (go_simp; done) | rfl) (fun w_ => by first | (go_simp; rfl) | (go_simp; done) | rfl) (fun K hK => ?_); go_simp; refine hK _ _ ?_; clear hK K) | (refine pl_skip rfl (by first | (go_simp; done) | rfl) (fun K hK => ?_); go_simp; refine hK _ _ ?_; clear hK K) | (refine pl_skipa rfl (by first | (go_simp; done) | rfl) (fun K hK => ?_); go_simp; refine hK _ _ ?_; clear hK K) | (refine pl_load rfl rfl (by first | exact wanted_none rfl | (go_simp; done) | rfl) rfl (by first | rfl | (go_simp; rfl)) (by kernel_rfl) (by first | exact hcx) (fun K hK => ?_); go_simp; refine hK _ _ ?_; clear hK K) | (refine pl_loadnow rfl rfl (by first | exact wanted_none rfl | (go_simp; done) | rfl) rfl (by first | rfl | (go_simp; rfl)) (by kernel_rfl) (by first | exact hcx) (fun K hK => ?_); go_simp; refine hK _ _ ?_; clear hK K))
          refine pl_act rfl (by exact wanted_none rfl) (fun K hK => ?_)
          go_wp2_with fail
          refine hK _ _ (fun h => by cases h) ?_
          clear hK K hcx hfz
          obtain ⟨kb, hkb⟩ : ∃ kb, kb = key.set i (x1 ^^^ y) := ⟨_, rfl⟩
          have HKL := Lib.hid (show kb.length = n by rw [hkb, List.length_set]; exact HL.out)
          have HO9_ := Lib.hid (show OwnAt (w_.setCell ⟨g9, i, none⟩ (.int .u8 (b8 (x1 ^^^ y)))) w.heap.size (some ⟨g9, 0, none⟩) n c9 (kb.map B) by
            have h := (World.ownsRow.stored HO9.out i (.int .u8 (b8 (x1 ^^^ y)))).1
            rw [hkb, List.map_set]; exact h)
          have HO10_ := Lib.hid (show OwnAt (w_.setCell ⟨g9, i, none⟩ (.int .u8 (b8 (x1 ^^^ y)))) w.heap.size (some ⟨g10, 0, none⟩) n2 c10 (bs.map B) from
            own_kept HO10.out (grown_set w_ g9 i _) (fun g hg => by cases hg; intro hh; cases hh; exact HNE.out rfl))
          have HB_ := Lib.hid (HB.out.setCell (p := ⟨g9, i, none⟩) HG9.out (.int .u8 (b8 (x1 ^^^ y))))
          clear HB HO9 HO10 hkb
          have HB := HB_
          have HO9 := HO9_
          have HO10 := HO10_
          clear HB_ HO9_ HO10_
          generalize w_.setCell ⟨g9, i, none⟩ (.int .u8 (b8 (x1 ^^^ y))) = wa at HB HO9 HO10 ⊢
          clear w_
          refine pl_done ?_
          rename World => w_
          go_wp2_with fail
          try go_wp2_with fail
          repeat' (first | (with_reducible refine wp_plan (id := 5) Grow [0,0,0,0,0,0,0,0,0,0,0,0,0,2,0,0,0,0,0,0,3] (.get 0 (.get 1 (.get 2 (.get 3 (.get 4 (.get 5 (.get 6 (.get 7 (.get 8 (.get 9 (.get 10 (.get 11 (.get 12 (.get 13 (.get 14 (.get 15 (.get 16 (.get 17 (.get 18 (.get 19 (.act 20 .done))))))))))))))))))))) (by kernel_rfl) (by kernel_rfl) Grow.refl Grow.trans ?_) | go_values | go_skip | go_guarded | go_step | go_upon | go_back)
          intro w_ hd_
          have hb_ := hd_.grow
          have HB_ := Lib.hid (HB.out.grow' hb_)
          clear HB
          have HB := HB_
          clear HB_
          have HO9_ := Lib.hid (HO9.out.grow hb_)
          clear HO9
          have HO9 := HO9_
          clear HO9_
          have HO10_ := Lib.hid (HO10.out.grow hb_)
          clear HO10
          have HO10 := HO10_
          clear HO10_
          clear hb_ hd_
          have hcx : w_.cell? ⟨g10, j, none⟩ = some (.int .u8 (b8 x2)) := by
            have h := World.ownsRow.cellAt HO10.out j (by omega)
            rw [h, List.getElem?_map, HX2.out]; rfl
          have hfz : w_.frozen? ⟨g10, j, none⟩ = false := own_frozen HO10.out j
          repeat (first | (refine pl_calm rfl rfl (by first | exact wanted_none rfl | (go_simp; done) | rfl) (fun w_ => by first | (go_simp; rfl) | (go_simp; done) | rfl) (fun K hK => ?_); go_simp; refine hK _ _ ?_; clear hK K) | (refine pl_skip rfl (by first | (go_simp; done) | rfl) (fun K hK => ?_); go_simp; refine hK _ _ ?_; clear hK K) | (refine pl_skipa rfl (by first | (go_simp; done) | rfl) (fun K hK => ?_); go_simp; refine hK _ _ ?_; clear hK K) | (refine pl_load rfl rfl (by first | exact wanted_none rfl | (go_simp; done) | rfl) rfl (by first | rfl | (go_simp; rfl)) (by kernel_rfl) (by first | exact hcx) (fun K hK => ?_); go_simp; refine hK _ _ ?_; clear hK K) | (refine pl_loadnow rfl rfl (by first | exact wanted_none rfl | (go_simp; done) | rfl) rfl (by first | rfl | (go_simp; rfl)) (by kernel_rfl) (by first | exact hcx) (fun K hK => ?_); go_simp; refine hK _ _ ?_; clear hK K))
          refine pl_act rfl (by exact wanted_none rfl) (fun K hK => ?_)
          go_wp2_with fail
          refine hK _ _ (fun h => by cases h) ?_
          clear hK K hcx hfz
          obtain ⟨cb, hcb⟩ : ∃ cb, cb = bs.set j (x2 ^^^ y) := ⟨_, rfl⟩
          have HCL := Lib.hid (show cb.length = n2 by rw [hcb, List.length_set]; exact HL2.out)
          have HC := Lib.hid (show Sl (w_.setCell ⟨g10, j, none⟩ (.int .u8 (b8 (x2 ^^^ y)))) (w_.setCell ⟨g10, j, none⟩ (.int .u8 (b8 (x2 ^^^ y)))).heap.size 1 (some ⟨g10, 0, none⟩) n2 (cb.map B) by
            have h := Sl.of_own (World.ownsRow.stored HO10.out j (.int .u8 (b8 (x2 ^^^ y)))).1
            rw [hcb, List.map_set]; exact h)
          have HK := Lib.hid (show Sl (w_.setCell ⟨g10, j, none⟩ (.int .u8 (b8 (x2 ^^^ y)))) (w_.setCell ⟨g10, j, none⟩ (.int .u8 (b8 (x2 ^^^ y)))).heap.size 1 (some ⟨g9, 0, none⟩) n (kb.map B) from
            Sl.of_own (own_kept HO9.out (grown_set w_ g10 j _) (fun g hg => by cases hg; intro hh; cases hh; exact HNE.out rfl)))
          have HB_ := Lib.hid (HB.out.setCell (p := ⟨g10, j, none⟩) HG10B.out (.int .u8 (b8 (x2 ^^^ y))))
          clear HB HO9 HO10 hcb
          have HB := HB_
          clear HB_
          generalize w_.setCell ⟨g10, j, none⟩ (.int .u8 (b8 (x2 ^^^ y))) = wa at HB HK HC ⊢
          clear w_
          refine pl_done ?_
          rename World => w_
          clear hy r1 r2 q3 q3b
          have HSA := Lib.hid (HS.out.up HB.out)
          have HSB := Lib.hid (HS2.out.up HB.out)
          have HTA := Lib.hid (HT.out.below HB.out)
          obtain ⟨xs, hxs⟩ := dig_tag key bs
          obtain ⟨ks, hks⟩ := dig_tag kb bs
          obtain ⟨cs, hcs⟩ := dig_tag key cb
          have HX := Lib.hid hxs; have HKS := Lib.hid hks; have HCS := Lib.hid hcs
          clear hxs hks hcs
          obtain ⟨d1, hd1⟩ : ∃ d, (tagB kb bs == tagB key bs) = d := ⟨_, rfl⟩
          obtain ⟨d2, hd2⟩ : ∃ d, (tagB key cb == tagB key bs) = d := ⟨_, rfl⟩
          have q1 := HKS.out.eql_b HX.out hd1
          have q2 := HCS.out.eql_b HX.out hd2
          have HD1 := Lib.hid hd1; have HD2 := Lib.hid hd2
          clear hd1 hd2
          go_wp2_with fail
          refine (trof_any _ _ _ _ _ _ _ _ HX.out _ HSA.out HSB.out (by omega) (by omega)).mono ?_
          rintro e w_ ⟨rfl, hb_⟩
          have HB_ := Lib.hid (HB.out.grow' hb_)
          clear HB
          have HB := HB_
          clear HB_
          have HSA_ := Lib.hid (HSA.out.grow hb_)
          clear HSA
          have HSA := HSA_
          clear HSA_
          have HSB_ := Lib.hid (HSB.out.grow hb_)
          clear HSB
          have HSB := HSB_
          clear HSB_
          have HTA_ := Lib.hid (HTA.out.grow hb_)
          clear HTA
          have HTA := HTA_
          clear HTA_
          have HK_ := Lib.hid (HK.out.grow hb_)
          clear HK
          have HK := HK_
          clear HK_
          have HC_ := Lib.hid (HC.out.grow hb_)
          clear HC
          have HC := HC_
          clear HC_
          clear hb_
          go_wp2_with (first | (with_reducible refine wpl_alloc (o := ⟨some 11, _, _, _, _, _⟩) rfl rfl zero_id ?_))
          intro w1_ hb1_ hbw1_ hsz1_
          have HB1_ := Lib.hid (at_mk hb1_ len_id)
          have HBW1_ := Lib.hid hbw1_
          have HZ1_ := Lib.hid hsz1_
          clear hb1_ hbw1_ hsz1_
          go_wp2_with (first | (with_reducible refine wpl_storeb (o := ⟨none, .store _ _ _, _, _, _, _⟩) rfl rfl row_id HB1_.out.blk rfl rfl HB1_.out.len HX.out.len HX.out.one ?_))
          intro w2_ hb2_ hg2_ hsz2_
          have hb_ := var_grow HBW1_.out HZ1_.out hg2_
          have HX_ := Lib.hid (at_mk hb2_ HX.out.len)
          clear hb2_ hg2_ hsz2_ HB1_ HBW1_ HZ1_
          have HB_ := Lib.hid (HB.out.grow' hb_)
          clear HB
          have HB := HB_
          clear HB_
          have HSA_ := Lib.hid (HSA.out.grow hb_)
          clear HSA
          have HSA := HSA_
          clear HSA_
          have HSB_ := Lib.hid (HSB.out.grow hb_)
          clear HSB
          have HSB := HSB_
          clear HSB_
          have HTA_ := Lib.hid (HTA.out.grow hb_)
          clear HTA
          have HTA := HTA_
          clear HTA_
          have HK_ := Lib.hid (HK.out.grow hb_)
          clear HK
          have HK := HK_
          clear HK_
          have HC_ := Lib.hid (HC.out.grow hb_)
          clear HC
          have HC := HC_
          clear HC_
          generalize hg_ : w_.heap.size = gx at HX_ ⊢
          clear hg_
          have HVX := HX_
          clear hb_ HX_
          clear w1_
          try clear w_
          rename World => w_
          go_wp2_with fail
          cases d1 with
          | true =>
            try go_wp2_with fail
            repeat' (first | (with_reducible refine wp_flow (id := 7) [0,0,3,0,15,31,63,63,255,63,1023,2047] [0,0,3,0,0,0,0,0,3,0,0,0] (fun i => match i with | 2 => spV (.agg ks.toArray) | 8 => spV (.agg cs.toArray) | _ => spV undef) (by kernel_rfl) (by kernel_rfl) ?_) | go_values | go_skip | go_guarded | go_step | go_upon | go_back)
            intro w_ hd_
            have hb_ := hd_.grow
            have HB_ := Lib.hid (HB.out.grow' hb_)
            clear HB
            have HB := HB_
            clear HB_
            have HVX_ := Lib.hid (HVX.out.grow hb_)
            clear HVX
            have HVX := HVX_
            clear HVX_
            have HSA_ := Lib.hid (HSA.out.grow hb_)
            clear HSA
            have HSA := HSA_
            clear HSA_
            have HSB_ := Lib.hid (HSB.out.grow hb_)
            clear HSB
            have HSB := HSB_
            clear HSB_
            have HTA_ := Lib.hid (HTA.out.grow hb_)
            clear HTA
            have HTA := HTA_
            clear HTA_
            have HK_ := Lib.hid (HK.out.grow hb_)
            clear HK
            have HK := HK_
            clear HK_
            have HC_ := Lib.hid (HC.out.grow hb_)
            clear HC
            have HC := HC_
            clear HC_
            clear hb_ hd_
            show wpL _ _ _ _ _ _ _ [0,1,2,3,4,5,6,7,8,9,10,11] _ _
            repeat (first | (refine fl_calm rfl (by decide) (by first | exact wanted_none rfl | (go_simp; done) | fail) (fun w_ _ _ => by first | (go_simp; rfl) | (go_simp; done) | rfl) (fun K hK => ?_); go_simp; refine hK _ ?_; clear hK K) | (refine fl_skip rfl (by first | (go_simp; done) | fail) (fun K hK => ?_); go_simp; refine hK _ ?_; clear hK K) | (refine fl_loadb rfl (by decide) (by first | exact wanted_none rfl | (go_simp; done) | fail) rfl row_id HVX.out.blk (by first | rfl | (go_simp; done) | rfl) HVX.out.len (fun K hK => ?_); go_simp; refine hK _ ?_; clear hK K))
            refine fl_callv rfl (by kernel_rfl) rfl (by first | exact wanted_none rfl | (go_simp; done) | fail) (fun w_ => by first | (go_simp; exact ⟨rfl, rfl⟩) | (go_simp; rfl) | (go_simp; exact ⟨⟨rfl, rfl, rfl⟩, rfl⟩)) (fun w2_ hg_ hL_ => ?_) (fun K hK => ?_)
            · skip
              replace HK := Lib.hid (HK.out.grow hg_)
              replace HSB := Lib.hid (HSB.out.grow hg_)
              exact trof_any _ _ _ _ _ _ _ _ HKS.out _ HK.out HSB.out (by omega) (by omega)
            go_simp
            refine hK _ ?_
            clear hK K
            repeat (first | (refine fl_calm rfl (by decide) (by first | exact wanted_none rfl | (go_simp; done) | fail) (fun w_ _ _ => by first | (go_simp; rfl) | (go_simp; done) | rfl) (fun K hK => ?_); go_simp; refine hK _ ?_; clear hK K) | (refine fl_skip rfl (by first | (go_simp; done) | fail) (fun K hK => ?_); go_simp; refine hK _ ?_; clear hK K) | (refine fl_loadb rfl (by decide) (by first | exact wanted_none rfl | (go_simp; done) | fail) rfl row_id HVX.out.blk (by first | rfl | (go_simp; done) | rfl) HVX.out.len (fun K hK => ?_); go_simp; refine hK _ ?_; clear hK K))
            refine fl_done ?_
            intro w2_ hg_ hL_
            replace HB := Lib.hid (HB.out.grow' hg_)
            replace HTA := Lib.hid (HTA.out.grow hg_)
            clear hg_ hL_
            try clear w_
            rename World => w_
            go_wp2_with fail
            refine (awake6_any _ HTA.out).mono ?_
            rintro e w_ ⟨rfl, hb_⟩
            have HB_ := Lib.hid (HB.out.grow' hb_)
            clear HB
            have HB := HB_
            clear HB_
            clear hb_
            go_wp2_with fail
            go_ret
            exact ⟨rfl, HB.out⟩
          | false =>
            cases d2 with
            | true =>
              try go_wp2_with fail
              repeat' (first | (with_reducible refine wp_flow (id := 7) [0,0,3,0,15,31,63,63,255,63,1023,2047] [0,0,3,0,0,0,0,0,3,0,0,0] (fun i => match i with | 2 => spV (.agg ks.toArray) | 8 => spV (.agg cs.toArray) | _ => spV undef) (by kernel_rfl) (by kernel_rfl) ?_) | go_values | go_skip | go_guarded | go_step | go_upon | go_back)
              intro w_ hd_
              have hb_ := hd_.grow
              have HB_ := Lib.hid (HB.out.grow' hb_)
              clear HB
              have HB := HB_
              clear HB_
              have HVX_ := Lib.hid (HVX.out.grow hb_)
              clear HVX
              have HVX := HVX_
              clear HVX_
              have HSA_ := Lib.hid (HSA.out.grow hb_)
              clear HSA
              have HSA := HSA_
              clear HSA_
              have HSB_ := Lib.hid (HSB.out.grow hb_)
              clear HSB
              have HSB := HSB_
              clear HSB_
              have HTA_ := Lib.hid (HTA.out.grow hb_)
              clear HTA
              have HTA := HTA_
              clear HTA_
              have HK_ := Lib.hid (HK.out.grow hb_)
              clear HK
              have HK := HK_
              clear HK_
              have HC_ := Lib.hid (HC.out.grow hb_)
              clear HC
              have HC := HC_
              clear HC_
              clear hb_ hd_
              show wpL _ _ _ _ _ _ _ [0,1,2,3,4,5,6,7,8,9,10,11] _ _
              repeat (first | (refine fl_calm rfl (by decide) (by first | exact wanted_none rfl | (go_simp; done) | fail) (fun w_ _ _ => by first | (go_simp; rfl) | (go_simp; done) | rfl) (fun K hK => ?_); go_simp; refine hK _ ?_; clear hK K) | (refine fl_skip rfl (by first | (go_simp; done) | fail) (fun K hK => ?_); go_simp; refine hK _ ?_; clear hK K) | (refine fl_loadb rfl (by decide) (by first | exact wanted_none rfl | (go_simp; done) | fail) rfl row_id HVX.out.blk (by first | rfl | (go_simp; done) | rfl) HVX.out.len (fun K hK => ?_); go_simp; refine hK _ ?_; clear hK K))
              refine fl_callv rfl (by kernel_rfl) rfl (by first | exact wanted_none rfl | (go_simp; done) | fail) (fun w_ => by first | (go_simp; exact ⟨rfl, rfl⟩) | (go_simp; rfl) | (go_simp; exact ⟨⟨rfl, rfl, rfl⟩, rfl⟩)) (fun w2_ hg_ hL_ => ?_) (fun K hK => ?_)
              · skip
                replace HK := Lib.hid (HK.out.grow hg_)
                replace HSB := Lib.hid (HSB.out.grow hg_)
                exact trof_any _ _ _ _ _ _ _ _ HKS.out _ HK.out HSB.out (by omega) (by omega)
              go_simp
              refine hK _ ?_
              clear hK K
              repeat (first | (refine fl_calm rfl (by decide) (by first | exact wanted_none rfl | (go_simp; done) | fail) (fun w_ _ _ => by first | (go_simp; rfl) | (go_simp; done) | rfl) (fun K hK => ?_); go_simp; refine hK _ ?_; clear hK K) | (refine fl_skip rfl (by first | (go_simp; done) | fail) (fun K hK => ?_); go_simp; refine hK _ ?_; clear hK K) | (refine fl_loadb rfl (by decide) (by first | exact wanted_none rfl | (go_simp; done) | fail) rfl row_id HVX.out.blk (by first | rfl | (go_simp; done) | rfl) HVX.out.len (fun K hK => ?_); go_simp; refine hK _ ?_; clear hK K))
              refine fl_callv rfl (by kernel_rfl) rfl (by first | exact wanted_none rfl | (go_simp; done) | fail) (fun w_ => by first | (go_simp; exact ⟨rfl, rfl⟩) | (go_simp; rfl) | (go_simp; exact ⟨⟨rfl, rfl, rfl⟩, rfl⟩)) (fun w2_ hg_ hL_ => ?_) (fun K hK => ?_)
              · skip
                replace HSA := Lib.hid (HSA.out.grow hg_)
                replace HC := Lib.hid (HC.out.grow hg_)
                exact trof_any _ _ _ _ _ _ _ _ HCS.out _ HSA.out HC.out (by omega) (by omega)
              go_simp
              refine hK _ ?_
              clear hK K
              repeat (first | (refine fl_calm rfl (by decide) (by first | exact wanted_none rfl | (go_simp; done) | fail) (fun w_ _ _ => by first | (go_simp; rfl) | (go_simp; done) | rfl) (fun K hK => ?_); go_simp; refine hK _ ?_; clear hK K) | (refine fl_skip rfl (by first | (go_simp; done) | fail) (fun K hK => ?_); go_simp; refine hK _ ?_; clear hK K) | (refine fl_loadb rfl (by decide) (by first | exact wanted_none rfl | (go_simp; done) | fail) rfl row_id HVX.out.blk (by first | rfl | (go_simp; done) | rfl) HVX.out.len (fun K hK => ?_); go_simp; refine hK _ ?_; clear hK K))
              refine fl_done ?_
              intro w2_ hg_ hL_
              replace HB := Lib.hid (HB.out.grow' hg_)
              replace HTA := Lib.hid (HTA.out.grow hg_)
              clear hg_ hL_
              try clear w_
              rename World => w_
              go_wp2_with fail
              refine (awake6_any _ HTA.out).mono ?_
              rintro e w_ ⟨rfl, hb_⟩
              have HB_ := Lib.hid (HB.out.grow' hb_)
              clear HB
              have HB := HB_
              clear HB_
              clear hb_
              go_wp2_with fail
              go_ret
              exact ⟨rfl, HB.out⟩
            | false =>
              try go_wp2_with fail
              repeat' (first | (with_reducible refine wp_flow (id := 7) [0,0,3,0,15,31,63,63,255,63,1023,2047] [0,0,3,0,0,0,0,0,3,0,0,0] (fun i => match i with | 2 => spV (.agg ks.toArray) | 8 => spV (.agg cs.toArray) | _ => spV undef) (by kernel_rfl) (by kernel_rfl) ?_) | go_values | go_skip | go_guarded | go_step | go_upon | go_back)
              intro w_ hd_
              have hb_ := hd_.grow
              have HB_ := Lib.hid (HB.out.grow' hb_)
              clear HB
              have HB := HB_
              clear HB_
              have HVX_ := Lib.hid (HVX.out.grow hb_)
              clear HVX
              have HVX := HVX_
              clear HVX_
              have HSA_ := Lib.hid (HSA.out.grow hb_)
              clear HSA
              have HSA := HSA_
              clear HSA_
              have HSB_ := Lib.hid (HSB.out.grow hb_)
              clear HSB
              have HSB := HSB_
              clear HSB_
              have HTA_ := Lib.hid (HTA.out.grow hb_)
              clear HTA
              have HTA := HTA_
              clear HTA_
              have HK_ := Lib.hid (HK.out.grow hb_)
              clear HK
              have HK := HK_
              clear HK_
              have HC_ := Lib.hid (HC.out.grow hb_)
              clear HC
              have HC := HC_
              clear HC_
              clear hb_ hd_
              show wpL _ _ _ _ _ _ _ [0,1,2,3,4,5,6,7,8,9,10,11] _ _
              repeat (first | (refine fl_calm rfl (by decide) (by first | exact wanted_none rfl | (go_simp; done) | fail) (fun w_ _ _ => by first | (go_simp; rfl) | (go_simp; done) | rfl) (fun K hK => ?_); go_simp; refine hK _ ?_; clear hK K) | (refine fl_skip rfl (by first | (go_simp; done) | fail) (fun K hK => ?_); go_simp; refine hK _ ?_; clear hK K) | (refine fl_loadb rfl (by decide) (by first | exact wanted_none rfl | (go_simp; done) | fail) rfl row_id HVX.out.blk (by first | rfl | (go_simp; done) | rfl) HVX.out.len (fun K hK => ?_); go_simp; refine hK _ ?_; clear hK K))
              refine fl_callv rfl (by kernel_rfl) rfl (by first | exact wanted_none rfl | (go_simp; done) | fail) (fun w_ => by first | (go_simp; exact ⟨rfl, rfl⟩) | (go_simp; rfl) | (go_simp; exact ⟨⟨rfl, rfl, rfl⟩, rfl⟩)) (fun w2_ hg_ hL_ => ?_) (fun K hK => ?_)
              · skip
                replace HK := Lib.hid (HK.out.grow hg_)
                replace HSB := Lib.hid (HSB.out.grow hg_)
                exact trof_any _ _ _ _ _ _ _ _ HKS.out _ HK.out HSB.out (by omega) (by omega)
              go_simp
              refine hK _ ?_
              clear hK K
              repeat (first | (refine fl_calm rfl (by decide) (by first | exact wanted_none rfl | (go_simp; done) | fail) (fun w_ _ _ => by first | (go_simp; rfl) | (go_simp; done) | rfl) (fun K hK => ?_); go_simp; refine hK _ ?_; clear hK K) | (refine fl_skip rfl (by first | (go_simp; done) | fail) (fun K hK => ?_); go_simp; refine hK _ ?_; clear hK K) | (refine fl_loadb rfl (by decide) (by first | exact wanted_none rfl | (go_simp; done) | fail) rfl row_id HVX.out.blk (by first | rfl | (go_simp; done) | rfl) HVX.out.len (fun K hK => ?_); go_simp; refine hK _ ?_; clear hK K))
              refine fl_callv rfl (by kernel_rfl) rfl (by first | exact wanted_none rfl | (go_simp; done) | fail) (fun w_ => by first | (go_simp; exact ⟨rfl, rfl⟩) | (go_simp; rfl) | (go_simp; exact ⟨⟨rfl, rfl, rfl⟩, rfl⟩)) (fun w2_ hg_ hL_ => ?_) (fun K hK => ?_)
              · skip
                replace HSA := Lib.hid (HSA.out.grow hg_)
                replace HC := Lib.hid (HC.out.grow hg_)
                exact trof_any _ _ _ _ _ _ _ _ HCS.out _ HSA.out HC.out (by omega) (by omega)
              go_simp
              refine hK _ ?_
              clear hK K
              repeat (first | (refine fl_calm rfl (by decide) (by first | exact wanted_none rfl | (go_simp; done) | fail) (fun w_ _ _ => by first | (go_simp; rfl) | (go_simp; done) | rfl) (fun K hK => ?_); go_simp; refine hK _ ?_; clear hK K) | (refine fl_skip rfl (by first | (go_simp; done) | fail) (fun K hK => ?_); go_simp; refine hK _ ?_; clear hK K) | (refine fl_loadb rfl (by decide) (by first | exact wanted_none rfl | (go_simp; done) | fail) rfl row_id HVX.out.blk (by first | rfl | (go_simp; done) | rfl) HVX.out.len (fun K hK => ?_); go_simp; refine hK _ ?_; clear hK K))
              refine fl_done ?_
              intro w2_ hg_ hL_
              replace HB := Lib.hid (HB.out.grow' hg_)
              replace HVX := Lib.hid (HVX.out.grow hg_)
              replace HSA := Lib.hid (HSA.out.grow hg_)
              replace HSB := Lib.hid (HSB.out.grow hg_)
              replace HTA := Lib.hid (HTA.out.grow hg_)
              replace HK := Lib.hid (HK.out.grow hg_)
              replace HC := Lib.hid (HC.out.grow hg_)
              clear hg_ hL_
              try clear w_
              rename World => w_
              go_wp2_with (first | (with_reducible refine wpl_loadb (o := ⟨_, .load _ _, _, _, _, _⟩) rfl rfl row_id HVX.out.blk rfl HVX.out.len ?_) | (with_reducible refine wpl_loadw (o := ⟨_, .load _ _, _, _, _, _⟩) (by first | rfl | (go_simp; done)) rfl row_id HVX.out.blk rfl HVX.out.len ?_))
              refine (tis_b (d := false) _ _ _ _ _ _ _ _ _ (by have := HD1.out; simpa using this) HX.out _ HK.out HSB.out hn9 hc2 (by omega) (by omega) HTA.out).mono ?_
              rintro e w_ ⟨rfl, hb_⟩
              have HB_ := Lib.hid (HB.out.grow' hb_)
              clear HB
              have HB := HB_
              clear HB_
              have HVX_ := Lib.hid (HVX.out.grow hb_)
              clear HVX
              have HVX := HVX_
              clear HVX_
              have HSA_ := Lib.hid (HSA.out.grow hb_)
              clear HSA
              have HSA := HSA_
              clear HSA_
              have HSB_ := Lib.hid (HSB.out.grow hb_)
              clear HSB
              have HSB := HSB_
              clear HSB_
              have HTA_ := Lib.hid (HTA.out.grow hb_)
              clear HTA
              have HTA := HTA_
              clear HTA_
              have HC_ := Lib.hid (HC.out.grow hb_)
              clear HC
              have HC := HC_
              clear HC_
              clear hb_
              go_wp2_with (first | (with_reducible refine wpl_loadb (o := ⟨_, .load _ _, _, _, _, _⟩) rfl rfl row_id HVX.out.blk rfl HVX.out.len ?_) | (with_reducible refine wpl_loadw (o := ⟨_, .load _ _, _, _, _, _⟩) (by first | rfl | (go_simp; done)) rfl row_id HVX.out.blk rfl HVX.out.len ?_))
              refine (tis_b (d := false) _ _ _ _ _ _ _ _ _ (by have := HD2.out; simpa using this) HX.out _ HSA.out HC.out hc hn10 (by omega) (by omega) HTA.out).mono ?_
              rintro e w_ ⟨rfl, hb_⟩
              have HB_ := Lib.hid (HB.out.grow' hb_)
              clear HB
              have HB := HB_
              clear HB_
              have HVX_ := Lib.hid (HVX.out.grow hb_)
              clear HVX
              have HVX := HVX_
              clear HVX_
              have HSA_ := Lib.hid (HSA.out.grow hb_)
              clear HSA
              have HSA := HSA_
              clear HSA_
              have HSB_ := Lib.hid (HSB.out.grow hb_)
              clear HSB
              have HSB := HSB_
              clear HSB_
              have HTA_ := Lib.hid (HTA.out.grow hb_)
              clear HTA
              have HTA := HTA_
              clear HTA_
              clear hb_
              go_wp2_with (first | (with_reducible refine wpl_loadb (o := ⟨_, .load _ _, _, _, _, _⟩) rfl rfl row_id HVX.out.blk rfl HVX.out.len ?_) | (with_reducible refine wpl_loadw (o := ⟨_, .load _ _, _, _, _, _⟩) (by first | rfl | (go_simp; done)) rfl row_id HVX.out.blk rfl HVX.out.len ?_))
              refine (tis_b (d := true) _ _ _ _ _ _ _ _ _ (by simp) HX.out _ HSA.out HSB.out hc hc2 (by omega) (by omega) HTA.out).mono ?_
              rintro e w_ ⟨rfl, hb_⟩
              have HB_ := Lib.hid (HB.out.grow' hb_)
              clear HB
              have HB := HB_
              clear HB_
              have HTA_ := Lib.hid (HTA.out.grow hb_)
              clear HTA
              have HTA := HTA_
              clear HTA_
              clear hb_
              go_wp2_with fail
              refine (awake6_any _ HTA.out).mono ?_
              rintro e w_ ⟨rfl, hb_⟩
              have HB_ := Lib.hid (HB.out.grow' hb_)
              clear HB
              have HB := HB_
              clear HB_
              clear hb_
              go_wp2_with fail
              go_ret
              exact ⟨rfl, HB.out⟩
        · have g4 : decide (100 < (n2 : Int)) = true := by simp; omega
          go_enter Tryd.func10, Tryd.ntmps10
          go_wp2_with fail
          refine (awake6_any _ HT.out).mono ?_
          rintro e w_ ⟨rfl, hb_⟩
          have HB_ := Lib.hid (HB.out.grow' hb_)
          clear HB
          have HB := HB_
          clear HB_
          clear hb_
          go_wp2_with fail
          go_ret
          exact ⟨rfl, HB.out⟩
      · have g3 : decide ((n2 : Int) < 1) = true := by simp; omega
        go_enter Tryd.func10, Tryd.ntmps10
        go_wp2_with fail
        refine (awake6_any _ HT.out).mono ?_
        rintro e w_ ⟨rfl, hb_⟩
        have HB_ := Lib.hid (HB.out.grow' hb_)
        clear HB
        have HB := HB_
        clear HB_
        clear hb_
        go_wp2_with fail
        go_ret
        exact ⟨rfl, HB.out⟩
    · have g2 : decide (64 < (n : Int)) = true := by simp; omega
      go_enter Tryd.func10, Tryd.ntmps10
      go_wp2_with fail
      refine (awake6_any _ HT.out).mono ?_
      rintro e w_ ⟨rfl, hb_⟩
      have HB_ := Lib.hid (HB.out.grow' hb_)
      clear HB
      have HB := HB_
      clear HB_
      clear hb_
      go_wp2_with fail
      go_ret
      exact ⟨rfl, HB.out⟩
  · have g1 : decide ((n : Int) < 1) = true := by simp; omega
    go_enter Tryd.func10, Tryd.ntmps10
    go_wp2_with fail
    refine (awake6_any _ HT.out).mono ?_
    rintro e w_ ⟨rfl, hb_⟩
    have HB_ := Lib.hid (HB.out.grow' hb_)
    clear HB
    have HB := HB_
    clear HB_
    clear hb_
    go_wp2_with fail
    go_ret
    exact ⟨rfl, HB.out⟩
theorem tagOwn_walk (A : Option Addr) (n c : Nat) (key : List UInt8) (A2 : Option Addr) (n2 c2 : Nat) (bs : List UInt8) (x t : Int) (w : World) (hs : Sl w w.heap.size 1 A n (key.map B)) (hc : n ≤ c) (hm : c ≤ maxLen) (hs2 : Sl w w.heap.size 1 A2 n2 (bs.map B)) (hc2 : n2 ≤ c2) (hm2 : c2 ≤ maxLen)
    (wx : (Lit.int .u8 x).wf = true) (wt : (Lit.int .u8 t).wf = true) (ht : Tabs w) :
    Calls Tryd.prog 10 #[.slice A n c, .slice A2 n2 c2, .int .u8 x, .int .u8 t] w fun e w' => e = .returned (.bool true) ∧ Below w.heap.size w w' := by
  have b1 := bounds_u8 wx
  have b2 := bounds_u8 wt
  have e2 : t = b8 (UInt8.ofNat t.toNat) := by simp only [b8, UInt8.toNat_ofNat']; omega
  rw [e2]
  have hr := b8_range (UInt8.ofNat t.toNat)
  have e8 : (b8 (UInt8.ofNat t.toNat)).tmod 8 = b8 (UInt8.ofNat t.toNat) % 8 := Int.tmod_eq_emod_of_nonneg hr.1
  have f1 : ∀ m : Nat, 1 ≤ m → x.tmod (m : Int) = ((x % (m : Int)).toNat : Int) := fun m hm => by
    rw [Int.tmod_eq_emod_of_nonneg b1.1]
    have := Int.emod_nonneg x (show (m : Int) ≠ 0 by omega)
    omega
  have f2 : ∀ m : Nat, 1 ≤ m → (x % (m : Int)).toNat < m := fun m hm => by
    have := Int.emod_lt_of_pos x (show (0 : Int) < m by omega)
    have := Int.emod_nonneg x (show (m : Int) ≠ 0 by omega)
    omega
  exact tagOwn_any A n c key A2 n2 c2 bs x _ (b8 (UInt8.ofNat t.toNat) % 8).toNat (x % (n : Int)).toNat (x % (n2 : Int)).toNat w hs hc hs2 hc2 (IntWalk.i64_in _ (by omega)) (wrap64_in _ (by omega)) (f1 n) (f1 n2) (f2 n) (f2 n2)
    (by rw [IntWalk.i64_in _ (by omega), e8]; omega) (by rw [wrap64_in _ (by omega), e8]; omega) (by omega) ht
end Go.Proofs.YtlondennhhffdaaDoor

/- The walk of seisinlaw06.TagShards. -/
import Derived.Test.YtlondennhhffdaaDoorTagE
import Derived.Test.YtlondennhhffdaaDoorTagF
import Derived.Test.YtlondennhhffdaaDoorFlowU
namespace Go.Proofs.YtlondennhhffdaaDoor
open Go.RowKit Go.Shelf
set_option linter.unusedVariables false

set_option maxRecDepth 100000 in
set_option maxHeartbeats 2000000 in
theorem tagShards_any (A : Option Addr) (n c : Nat) (seed : List UInt8) (A2 : Option Addr) (n2 c2 : Nat) (bs : List UInt8) (s x y : Int) (M N i j : Nat) (w : World) (hs : Sl w w.heap.size 1 A n (seed.map B)) (hc : n ≤ c) (hs2 : Sl w w.heap.size 1 A2 n2 (bs.map B)) (hc2 : n2 ≤ c2)
    (a1 : IntKind.i64.wrap s = s) (a2 : RowKit.wrap64 s = s) (a3 : IntKind.i64.wrap x = x) (a4 : RowKit.wrap64 x = x) (a5 : IntKind.i64.wrap y = y) (a6 : RowKit.wrap64 y = y)
    (q1 : s.tmod 64 = (M : Int)) (hM : M < 64) (q2 : (1 : Int) + (M : Int) = (N : Int)) (q3 : x.tmod (N : Int) = (i : Int)) (q4 : y.tmod (N : Int) = (j : Int)) (hi : i < N) (hj : j < N) (ht : Tabs w) :
    Calls Tryd.prog 11 #[.slice A n c, .slice A2 n2 c2, .int .u8 s, .int .u8 x, .int .u8 y] w fun e w' => e = .returned (.bool true) ∧ Below w.heap.size w w' := by
  have HS := Lib.hid hs; have HT := Lib.hid ht; have HS2 := Lib.hid hs2
  have HB := Lib.hid (Below.refl w.heap.size w)
  clear hs ht hs2
  by_cases h1 : n ≤ 60
  · have g1 : decide (60 < (n : Int)) = false := by simp; omega
    by_cases h2 : n2 ≤ 60
    · have g2 : decide (60 < (n2 : Int)) = false := by simp; omega
      have hN1 : 1 ≤ N := by omega
      have hN2 : N ≤ 64 := by omega
      have hN3 : (N : Int) ≠ 0 := by omega
      have hN4 : N ≠ 0 := by omega
      have hN5 : (N : Int) ≠ -1 := by omega
      obtain ⟨xs, hxs⟩ : ∃ xs, xs = (tagB (tagB seed [UInt8.ofNat i]) bs).map B := ⟨_, rfl⟩
      obtain ⟨ys, hys⟩ : ∃ ys, ys = (tagB (tagB seed [UInt8.ofNat j]) bs).map B := ⟨_, rfl⟩
      have HX := Lib.hid (show Dig xs (tagB (tagB seed [UInt8.ofNat i]) bs) from ⟨hxs, tagB_length _ _⟩)
      have HY := Lib.hid (show Dig ys (tagB (tagB seed [UInt8.ofNat j]) bs) from ⟨hys, tagB_length _ _⟩)
      have HRI := Lib.hid (ringB_at seed hi)
      have HRJ := Lib.hid (ringB_at seed hj)
      clear hxs hys
      go_enter Tryd.func11, Tryd.ntmps11
      go_wp2_with fail
      refine (keys_yes _ n c N seed _ HS.out hc (by omega) hN1 hN2 HT.out).mono ?_
      rintro e w_ ⟨g, A1, c1, rfl, hr_, hb_⟩
      have HB_ := Lib.hid (HB.out.grow' hb_)
      clear HB
      have HB := HB_
      clear HB_
      have HS_ := Lib.hid (HS.out.grow hb_)
      clear HS
      have HS := HS_
      clear HS_
      have HS2_ := Lib.hid (HS2.out.grow hb_)
      clear HS2
      have HS2 := HS2_
      clear HS2_
      have HT_ := Lib.hid (HT.out.grow hb_)
      clear HT
      have HT := HT_
      clear HT_
      clear hb_
      have HRA := Lib.hid hr_
      clear hr_
      go_wp2_with fail
      try go_wp2_with fail
      repeat' (first | (with_reducible refine wp_flow (id := 7) [0,1,0,7,0,16,0,112,15,511] [0,0,0,0,0,0,0,0,0,0] (fun i => match i with  | _ => spV undef) (by kernel_rfl) (by kernel_rfl) ?_) | go_values | go_skip | go_guarded | go_step | go_upon | go_back)
      intro w_ hd_
      have hb_ := hd_.grow
      have HB_ := Lib.hid (HB.out.grow' hb_)
      clear HB
      have HB := HB_
      clear HB_
      have HRA_ := Lib.hid (HRA.out.grow hb_)
      clear HRA
      have HRA := HRA_
      clear HRA_
      have HS_ := Lib.hid (HS.out.grow hb_)
      clear HS
      have HS := HS_
      clear HS_
      have HS2_ := Lib.hid (HS2.out.grow hb_)
      clear HS2
      have HS2 := HS2_
      clear HS2_
      have HT_ := Lib.hid (HT.out.grow hb_)
      clear HT
      have HT := HT_
      clear HT_
      clear hb_ hd_
      show wpL _ _ _ _ _ _ _ [0,1,2,3,4,5,6,7,8,9] _ _
      repeat (first | (refine fl_calm rfl (by decide) (by first | exact wanted_none rfl | (go_simp; done) | fail) (fun w_ _ _ => by first | (go_simp; rfl) | (go_simp; done) | rfl) (fun K hK => ?_); go_simp; refine hK _ ?_; clear hK K) | (refine fl_skip rfl (by first | (go_simp; done) | fail) (fun K hK => ?_); go_simp; refine hK _ ?_; clear hK K))
      refine fl_done ?_
      intro w2_ hg_ hL_
      replace HB := Lib.hid (HB.out.grow' hg_)
      replace HRA := Lib.hid (HRA.out.grow hg_)
      replace HS := Lib.hid (HS.out.grow hg_)
      replace HS2 := Lib.hid (HS2.out.grow hg_)
      replace HT := Lib.hid (HT.out.grow hg_)
      clear hg_ hL_
      try clear w_
      rename World => w_
      by_cases hij : i = j
      · subst hij
        obtain rfl : xs = ys := by rw [HX.out.1, HY.out.1]
        have g3 : decide ((i : Int) = (i : Int)) = true := by simp
        have heq := fun w => HX.out.self w
        go_wp2_with fail
        go_wp2_with fail
        refine (sign_yes (k := i) HRI.out HX.out _ HRA.out (by omega) HS2.out hc2 (by omega) HT.out).mono ?_
        rintro e w_ ⟨rfl, hb_⟩
        have HB_ := Lib.hid (HB.out.grow' hb_)
        clear HB
        have HB := HB_
        clear HB_
        have HRA_ := Lib.hid (HRA.out.grow hb_)
        clear HRA
        have HRA := HRA_
        clear HRA_
        have HS_ := Lib.hid (HS.out.grow hb_)
        clear HS
        have HS := HS_
        clear HS_
        have HS2_ := Lib.hid (HS2.out.grow hb_)
        clear HS2
        have HS2 := HS2_
        clear HS2_
        have HT_ := Lib.hid (HT.out.grow hb_)
        clear HT
        have HT := HT_
        clear HT_
        clear hb_
        go_wp2_with (first | (with_reducible refine wpl_alloc (o := ⟨some 15, _, _, _, _, _⟩) rfl rfl zero_id ?_))
        intro w1_ hb1_ hbw1_ hsz1_
        have HB1_ := Lib.hid (at_mk hb1_ len_id)
        have HBW1_ := Lib.hid hbw1_
        have HZ1_ := Lib.hid hsz1_
        clear hb1_ hbw1_ hsz1_
        go_wp2_with (first | (with_reducible refine wpl_storeb (o := ⟨none, .store _ _ _, _, _, _, _⟩) rfl rfl row_id HB1_.out.blk rfl rfl HB1_.out.len HX.out.len HX.out.one ?_))
        intro w2_ hb2_ hg2_ hsz2_
        have hb_ := var_grow HBW1_.out HZ1_.out hg2_
        have HX_ := Lib.hid (at_mk hb2_ HX.out.len)
        clear hb2_ hg2_ hsz2_ HB1_ HBW1_ HZ1_
        have HB_ := Lib.hid (HB.out.grow' hb_)
        clear HB
        have HB := HB_
        clear HB_
        have HRA_ := Lib.hid (HRA.out.grow hb_)
        clear HRA
        have HRA := HRA_
        clear HRA_
        have HS_ := Lib.hid (HS.out.grow hb_)
        clear HS
        have HS := HS_
        clear HS_
        have HS2_ := Lib.hid (HS2.out.grow hb_)
        clear HS2
        have HS2 := HS2_
        clear HS2_
        have HT_ := Lib.hid (HT.out.grow hb_)
        clear HT
        have HT := HT_
        clear HT_
        generalize hg_ : w_.heap.size = gx at HX_ ⊢
        clear hg_
        have HVX := HX_
        clear hb_ HX_
        clear w1_
        try clear w_
        rename World => w_
        go_wp2_with fail
        refine (sign_yes (k := i) HRJ.out HY.out _ HRA.out (by omega) HS2.out hc2 (by omega) HT.out).mono ?_
        rintro e w_ ⟨rfl, hb_⟩
        have HB_ := Lib.hid (HB.out.grow' hb_)
        clear HB
        have HB := HB_
        clear HB_
        have HRA_ := Lib.hid (HRA.out.grow hb_)
        clear HRA
        have HRA := HRA_
        clear HRA_
        have HVX_ := Lib.hid (HVX.out.grow hb_)
        clear HVX
        have HVX := HVX_
        clear HVX_
        have HS_ := Lib.hid (HS.out.grow hb_)
        clear HS
        have HS := HS_
        clear HS_
        have HS2_ := Lib.hid (HS2.out.grow hb_)
        clear HS2
        have HS2 := HS2_
        clear HS2_
        have HT_ := Lib.hid (HT.out.grow hb_)
        clear HT
        have HT := HT_
        clear HT_
        clear hb_
        go_wp2_with (first | (with_reducible refine wpl_alloc (o := ⟨some 17, _, _, _, _, _⟩) rfl rfl zero_id ?_))
        intro w1_ hb1_ hbw1_ hsz1_
        have HB1_ := Lib.hid (at_mk hb1_ len_id)
        have HBW1_ := Lib.hid hbw1_
        have HZ1_ := Lib.hid hsz1_
        clear hb1_ hbw1_ hsz1_
        go_wp2_with (first | (with_reducible refine wpl_storeb (o := ⟨none, .store _ _ _, _, _, _, _⟩) rfl rfl row_id HB1_.out.blk rfl rfl HB1_.out.len HY.out.len HY.out.one ?_))
        intro w2_ hb2_ hg2_ hsz2_
        have hb_ := var_grow HBW1_.out HZ1_.out hg2_
        have HX_ := Lib.hid (at_mk hb2_ HY.out.len)
        clear hb2_ hg2_ hsz2_ HB1_ HBW1_ HZ1_
        have HB_ := Lib.hid (HB.out.grow' hb_)
        clear HB
        have HB := HB_
        clear HB_
        have HRA_ := Lib.hid (HRA.out.grow hb_)
        clear HRA
        have HRA := HRA_
        clear HRA_
        have HVX_ := Lib.hid (HVX.out.grow hb_)
        clear HVX
        have HVX := HVX_
        clear HVX_
        have HS_ := Lib.hid (HS.out.grow hb_)
        clear HS
        have HS := HS_
        clear HS_
        have HS2_ := Lib.hid (HS2.out.grow hb_)
        clear HS2
        have HS2 := HS2_
        clear HS2_
        have HT_ := Lib.hid (HT.out.grow hb_)
        clear HT
        have HT := HT_
        clear HT_
        generalize hg_ : w_.heap.size = gy at HX_ ⊢
        clear hg_
        have HVY := HX_
        clear hb_ HX_
        clear w1_
        try clear w_
        rename World => w_
        go_wp2_with (first | (with_reducible refine wpl_loadb (o := ⟨_, .load _ _, _, _, _, _⟩) rfl rfl row_id HVX.out.blk rfl HVX.out.len ?_) | (with_reducible refine wpl_loadw (o := ⟨_, .load _ _, _, _, _, _⟩) (by first | rfl | (go_simp; done)) rfl row_id HVX.out.blk rfl HVX.out.len ?_) | (with_reducible refine wpl_loadb (o := ⟨_, .load _ _, _, _, _, _⟩) rfl rfl row_id HVY.out.blk rfl HVY.out.len ?_) | (with_reducible refine wpl_loadw (o := ⟨_, .load _ _, _, _, _, _⟩) (by first | rfl | (go_simp; done)) rfl row_id HVY.out.blk rfl HVY.out.len ?_))
        refine (ris_b (b := true) (k := i) (by simp) HRJ.out HX.out _ HRA.out (by omega) HS2.out hc2 (by omega) HT.out).mono ?_
        rintro e w_ ⟨rfl, hb_⟩
        have HB_ := Lib.hid (HB.out.grow' hb_)
        have HT_ := Lib.hid (HT.out.grow hb_)
        clear HB HT hb_
        have HB := HB_
        have HT := HT_
        clear HB_ HT_
        go_wp2_with fail
        refine (awake6_any _ HT.out).mono ?_
        rintro e w_ ⟨rfl, hb_⟩
        have HB_ := Lib.hid (HB.out.grow' hb_)
        clear HB
        have HB := HB_
        clear HB_
        clear hb_
        go_wp2_with fail
        go_ret
        exact ⟨rfl, HB.out⟩
      · have g3 : decide ((i : Int) = (j : Int)) = false := by simp; omega
        have g4 : decide (i = j) = false := by simpa using hij
        have hij2 : ¬ ((i : Int) = (j : Int)) := by omega
        have hij3 : ((i : Int) == (j : Int)) = false := by simp; omega
        have hij4 : (i == j) = false := by simpa using hij
        obtain ⟨d, hd⟩ : ∃ d, (tagB (tagB seed [UInt8.ofNat i]) bs == tagB (tagB seed [UInt8.ofNat j]) bs) = d := ⟨_, rfl⟩
        have HDD := Lib.hid hd
        have heq := HX.out.eql_b HY.out hd
        clear hd
        have hq := eq_false hij2
        have hbn : ((i : Int) != (j : Int)) = true := by simp; omega
        clear hij hij2
        go_wp2_with fail
        refine (trsign_any _ _ _ _ _ _ _ _ i (by omega) HX.out _ HS.out HS2.out (by omega) (by omega)).mono ?_
        rintro e w_ ⟨rfl, hb_⟩
        have HB_ := Lib.hid (HB.out.grow' hb_)
        clear HB
        have HB := HB_
        clear HB_
        have HRA_ := Lib.hid (HRA.out.grow hb_)
        clear HRA
        have HRA := HRA_
        clear HRA_
        have HS_ := Lib.hid (HS.out.grow hb_)
        clear HS
        have HS := HS_
        clear HS_
        have HS2_ := Lib.hid (HS2.out.grow hb_)
        clear HS2
        have HS2 := HS2_
        clear HS2_
        have HT_ := Lib.hid (HT.out.grow hb_)
        clear HT
        have HT := HT_
        clear HT_
        clear hb_
        go_wp2_with fail
        refine (trsign_any _ _ _ _ _ _ _ _ j (by omega) HY.out _ HS.out HS2.out (by omega) (by omega)).mono ?_
        rintro e w_ ⟨rfl, hb_⟩
        have HB_ := Lib.hid (HB.out.grow' hb_)
        clear HB
        have HB := HB_
        clear HB_
        have HRA_ := Lib.hid (HRA.out.grow hb_)
        clear HRA
        have HRA := HRA_
        clear HRA_
        have HS_ := Lib.hid (HS.out.grow hb_)
        clear HS
        have HS := HS_
        clear HS_
        have HS2_ := Lib.hid (HS2.out.grow hb_)
        clear HS2
        have HS2 := HS2_
        clear HS2_
        have HT_ := Lib.hid (HT.out.grow hb_)
        clear HT
        have HT := HT_
        clear HT_
        clear hb_
        cases d with
        | true =>
          go_wp2_with fail
          refine (awake6_any _ HT.out).mono ?_
          rintro e w_ ⟨rfl, hb_⟩
          have HB_ := Lib.hid (HB.out.grow' hb_)
          clear HB
          have HB := HB_
          clear HB_
          clear hb_
          go_wp2_with fail
          go_ret
          exact ⟨rfl, HB.out⟩
        | false =>
          have HNE := Lib.hid (show decide (tagB (tagB seed [UInt8.ofNat j]) bs = tagB (tagB seed [UInt8.ofNat i]) bs) = false by have := beq_swap HDD.out; simpa using this)
          go_wp2_with fail
          refine (sign_yes (k := i) HRI.out HX.out _ HRA.out (by omega) HS2.out hc2 (by omega) HT.out).mono ?_
          rintro e w_ ⟨rfl, hb_⟩
          have HB_ := Lib.hid (HB.out.grow' hb_)
          clear HB
          have HB := HB_
          clear HB_
          have HRA_ := Lib.hid (HRA.out.grow hb_)
          clear HRA
          have HRA := HRA_
          clear HRA_
          have HS_ := Lib.hid (HS.out.grow hb_)
          clear HS
          have HS := HS_
          clear HS_
          have HS2_ := Lib.hid (HS2.out.grow hb_)
          clear HS2
          have HS2 := HS2_
          clear HS2_
          have HT_ := Lib.hid (HT.out.grow hb_)
          clear HT
          have HT := HT_
          clear HT_
          clear hb_
          go_wp2_with (first | (with_reducible refine wpl_alloc (o := ⟨some 15, _, _, _, _, _⟩) rfl rfl zero_id ?_))
          intro w1_ hb1_ hbw1_ hsz1_
          have HB1_ := Lib.hid (at_mk hb1_ len_id)
          have HBW1_ := Lib.hid hbw1_
          have HZ1_ := Lib.hid hsz1_
          clear hb1_ hbw1_ hsz1_
          go_wp2_with (first | (with_reducible refine wpl_storeb (o := ⟨none, .store _ _ _, _, _, _, _⟩) rfl rfl row_id HB1_.out.blk rfl rfl HB1_.out.len HX.out.len HX.out.one ?_))
          intro w2_ hb2_ hg2_ hsz2_
          have hb_ := var_grow HBW1_.out HZ1_.out hg2_
          have HX_ := Lib.hid (at_mk hb2_ HX.out.len)
          clear hb2_ hg2_ hsz2_ HB1_ HBW1_ HZ1_
          have HB_ := Lib.hid (HB.out.grow' hb_)
          clear HB
          have HB := HB_
          clear HB_
          have HRA_ := Lib.hid (HRA.out.grow hb_)
          clear HRA
          have HRA := HRA_
          clear HRA_
          have HS_ := Lib.hid (HS.out.grow hb_)
          clear HS
          have HS := HS_
          clear HS_
          have HS2_ := Lib.hid (HS2.out.grow hb_)
          clear HS2
          have HS2 := HS2_
          clear HS2_
          have HT_ := Lib.hid (HT.out.grow hb_)
          clear HT
          have HT := HT_
          clear HT_
          generalize hg_ : w_.heap.size = gx at HX_ ⊢
          clear hg_
          have HVX := HX_
          clear hb_ HX_
          clear w1_
          try clear w_
          rename World => w_
          go_wp2_with fail
          refine (sign_yes (k := j) HRJ.out HY.out _ HRA.out (by omega) HS2.out hc2 (by omega) HT.out).mono ?_
          rintro e w_ ⟨rfl, hb_⟩
          have HB_ := Lib.hid (HB.out.grow' hb_)
          clear HB
          have HB := HB_
          clear HB_
          have HRA_ := Lib.hid (HRA.out.grow hb_)
          clear HRA
          have HRA := HRA_
          clear HRA_
          have HVX_ := Lib.hid (HVX.out.grow hb_)
          clear HVX
          have HVX := HVX_
          clear HVX_
          have HS_ := Lib.hid (HS.out.grow hb_)
          clear HS
          have HS := HS_
          clear HS_
          have HS2_ := Lib.hid (HS2.out.grow hb_)
          clear HS2
          have HS2 := HS2_
          clear HS2_
          have HT_ := Lib.hid (HT.out.grow hb_)
          clear HT
          have HT := HT_
          clear HT_
          clear hb_
          go_wp2_with (first | (with_reducible refine wpl_alloc (o := ⟨some 17, _, _, _, _, _⟩) rfl rfl zero_id ?_))
          intro w1_ hb1_ hbw1_ hsz1_
          have HB1_ := Lib.hid (at_mk hb1_ len_id)
          have HBW1_ := Lib.hid hbw1_
          have HZ1_ := Lib.hid hsz1_
          clear hb1_ hbw1_ hsz1_
          go_wp2_with (first | (with_reducible refine wpl_storeb (o := ⟨none, .store _ _ _, _, _, _, _⟩) rfl rfl row_id HB1_.out.blk rfl rfl HB1_.out.len HY.out.len HY.out.one ?_))
          intro w2_ hb2_ hg2_ hsz2_
          have hb_ := var_grow HBW1_.out HZ1_.out hg2_
          have HX_ := Lib.hid (at_mk hb2_ HY.out.len)
          clear hb2_ hg2_ hsz2_ HB1_ HBW1_ HZ1_
          have HB_ := Lib.hid (HB.out.grow' hb_)
          clear HB
          have HB := HB_
          clear HB_
          have HRA_ := Lib.hid (HRA.out.grow hb_)
          clear HRA
          have HRA := HRA_
          clear HRA_
          have HVX_ := Lib.hid (HVX.out.grow hb_)
          clear HVX
          have HVX := HVX_
          clear HVX_
          have HS_ := Lib.hid (HS.out.grow hb_)
          clear HS
          have HS := HS_
          clear HS_
          have HS2_ := Lib.hid (HS2.out.grow hb_)
          clear HS2
          have HS2 := HS2_
          clear HS2_
          have HT_ := Lib.hid (HT.out.grow hb_)
          clear HT
          have HT := HT_
          clear HT_
          generalize hg_ : w_.heap.size = gy at HX_ ⊢
          clear hg_
          have HVY := HX_
          clear hb_ HX_
          clear w1_
          try clear w_
          rename World => w_
          go_wp2_with (first | (with_reducible refine wpl_loadb (o := ⟨_, .load _ _, _, _, _, _⟩) rfl rfl row_id HVX.out.blk rfl HVX.out.len ?_) | (with_reducible refine wpl_loadw (o := ⟨_, .load _ _, _, _, _, _⟩) (by first | rfl | (go_simp; done)) rfl row_id HVX.out.blk rfl HVX.out.len ?_) | (with_reducible refine wpl_loadb (o := ⟨_, .load _ _, _, _, _, _⟩) rfl rfl row_id HVY.out.blk rfl HVY.out.len ?_) | (with_reducible refine wpl_loadw (o := ⟨_, .load _ _, _, _, _, _⟩) (by first | rfl | (go_simp; done)) rfl row_id HVY.out.blk rfl HVY.out.len ?_))
          refine (ris_b (b := false) (k := j) HNE.out HRJ.out HX.out _ HRA.out (by omega) HS2.out hc2 (by omega) HT.out).mono ?_
          rintro e w_ ⟨rfl, hb_⟩
          have HB_ := Lib.hid (HB.out.grow' hb_)
          have HT_ := Lib.hid (HT.out.grow hb_)
          clear HB HT hb_
          have HB := HB_
          have HT := HT_
          clear HB_ HT_
          go_wp2_with fail
          refine (awake6_any _ HT.out).mono ?_
          rintro e w_ ⟨rfl, hb_⟩
          have HB_ := Lib.hid (HB.out.grow' hb_)
          clear HB
          have HB := HB_
          clear HB_
          clear hb_
          go_wp2_with fail
          go_ret
          exact ⟨rfl, HB.out⟩
    · have g2 : decide (60 < (n2 : Int)) = true := by simp; omega
      go_enter Tryd.func11, Tryd.ntmps11
      go_wp2_with fail
      refine (awake6_any _ HT.out).mono ?_
      rintro e w_ ⟨rfl, hb_⟩
      have HB_ := Lib.hid (HB.out.grow' hb_)
      clear HB
      have HB := HB_
      clear HB_
      clear hb_
      go_wp2_with fail
      go_ret
      exact ⟨rfl, HB.out⟩
  · have g1 : decide (60 < (n : Int)) = true := by simp; omega
    go_enter Tryd.func11, Tryd.ntmps11
    go_wp2_with fail
    refine (awake6_any _ HT.out).mono ?_
    rintro e w_ ⟨rfl, hb_⟩
    have HB_ := Lib.hid (HB.out.grow' hb_)
    clear HB
    have HB := HB_
    clear HB_
    clear hb_
    go_wp2_with fail
    go_ret
    exact ⟨rfl, HB.out⟩
theorem wrap64_in (x : Int) (h : -9223372036854775808 ≤ x ∧ x ≤ 9223372036854775807) : RowKit.wrap64 x = x := by unfold RowKit.wrap64; omega
theorem tagShards_walk (A : Option Addr) (n c : Nat) (seed : List UInt8) (A2 : Option Addr) (n2 c2 : Nat) (bs : List UInt8) (s x y : Int) (w : World) (hs : Sl w w.heap.size 1 A n (seed.map B)) (hc : n ≤ c) (hm : c ≤ maxLen) (hs2 : Sl w w.heap.size 1 A2 n2 (bs.map B)) (hc2 : n2 ≤ c2) (hm2 : c2 ≤ maxLen)
    (ws : (Lit.int .u8 s).wf = true) (wx : (Lit.int .u8 x).wf = true) (wy : (Lit.int .u8 y).wf = true) (ht : Tabs w) :
    Calls Tryd.prog 11 #[.slice A n c, .slice A2 n2 c2, .int .u8 s, .int .u8 x, .int .u8 y] w fun e w' => e = .returned (.bool true) ∧ Below w.heap.size w w' := by
  have b1 := bounds_u8 ws
  have b2 := bounds_u8 wx
  have b3 := bounds_u8 wy
  have e1 : s.tmod 64 = s % 64 := Int.tmod_eq_emod_of_nonneg b1.1
  have p1 : (((s % 64).toNat : Nat) : Int) = s % 64 := by omega
  have hN : (((1 + (s % 64).toNat : Nat)) : Int) = 1 + s % 64 := by omega
  have hpos : (0 : Int) < ((1 + (s % 64).toNat : Nat) : Int) := by omega
  have e2 : x.tmod ((1 + (s % 64).toNat : Nat) : Int) = x % ((1 + (s % 64).toNat : Nat) : Int) := Int.tmod_eq_emod_of_nonneg b2.1
  have e3 : y.tmod ((1 + (s % 64).toNat : Nat) : Int) = y % ((1 + (s % 64).toNat : Nat) : Int) := Int.tmod_eq_emod_of_nonneg b3.1
  have r2 := Int.emod_nonneg x (Int.ne_of_gt hpos)
  have r3 := Int.emod_nonneg y (Int.ne_of_gt hpos)
  have l2 := Int.emod_lt_of_pos x hpos
  have l3 := Int.emod_lt_of_pos y hpos
  refine tagShards_any A n c seed A2 n2 c2 bs s x y (s % 64).toNat (1 + (s % 64).toNat) (x % ((1 + (s % 64).toNat : Nat) : Int)).toNat (y % ((1 + (s % 64).toNat : Nat) : Int)).toNat w hs hc hs2 hc2
    (IntWalk.i64_in _ (by omega)) (wrap64_in _ (by omega)) (IntWalk.i64_in _ (by omega)) (wrap64_in _ (by omega)) (IntWalk.i64_in _ (by omega)) (wrap64_in _ (by omega))
    (by rw [e1]; exact p1.symm) (by omega) (by omega) (by rw [e2]; omega) (by rw [e3]; omega) ?_ ?_ ht
  · generalize x % ((1 + (s % 64).toNat : Nat) : Int) = q at r2 l2 ⊢; omega
  · generalize y % ((1 + (s % 64).toNat : Nat) : Int) = q at r3 l3 ⊢; omega
end Go.Proofs.YtlondennhhffdaaDoor

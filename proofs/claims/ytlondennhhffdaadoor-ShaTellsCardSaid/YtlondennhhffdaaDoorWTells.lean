/- The walk of seisinlaw03.ShaTells. -/
import Derived.Test.YtlondennhhffdaaDoorOpenD
import Derived.Test.YtlondennhhffdaaDoorShaH
namespace Go.Proofs.YtlondennhhffdaaDoor
open Go.RowKit Go.Shelf
set_option linter.unusedVariables false

set_option maxRecDepth 100000 in
set_option maxHeartbeats 2000000 in
theorem shaTells_any (A : Option Addr) (n c : Nat) (bs : List UInt8) (z : Int) (w : World) (hb : Sl w w.heap.size 1 A n (bs.map B)) (hn : n ≤ c) (hc : n ≤ 9223372036854775807) (hz : -9223372036854775808 ≤ z) (hz2 : z ≤ 9223372036854775807) (ht : Tabs w) :
    Calls Tryd.prog 3 #[.slice A n c, .int .i64 z] w fun e w' => e = .returned (.bool true) ∧ Below w.heap.size w w' := by
  have HT := Lib.hid ht; have HS := Lib.hid hb
  have HB := Lib.hid (Below.refl w.heap.size w)
  have HL := Lib.hid (show bs.length = n by have := hb.len; simpa using this)
  clear ht hb
  by_cases h3 : n ≤ 300
  · have g1 : decide (300 < (n : Int)) = false := by simp; omega
    obtain ⟨k, hk⟩ : ∃ k : Nat, z % ((n : Int) + 1) = (k : Int) := ⟨(z % ((n : Int) + 1)).toNat, by have := Int.emod_nonneg z (show (n : Int) + 1 ≠ 0 by omega); omega⟩
    have hkn : k ≤ n := by have := Int.emod_lt_of_pos z (show 0 < (n : Int) + 1 by omega); omega
    have hkc : k ≤ c := by omega
    obtain ⟨xs, hxs⟩ : ∃ xs, xs = (sha bs).map B := ⟨_, rfl⟩
    have HD := Lib.hid (show Dig xs (sha bs) by rw [hxs]; exact Dig.sha bs)
    clear hxs
    have heq := fun w => HD.out.self w
    go_enter Tryd.func3, Tryd.ntmps3
    go_wp2_with fail
    refine (pick_any z ((n : Int) + 1) _ hz hz2 (by omega) (by omega)).mono ?_
    rintro e w1 ⟨rfl, rfl⟩
    rw [hk]
    clear hk
    try go_wp2_with fail
    repeat' (first | (with_reducible refine wp_plan (id := 4) Grow [0,0,0,0,0,0,3,3,0,3,0,0,0,3,3,0,3,0,0,0,3,0,0] (.get 0 (.get 1 (.get 2 (.get 3 (.get 4 (.get 5 (.get 8 (.act 6 (.act 7 (.act 9 (.get 10 (.get 11 (.get 12 (.get 15 (.act 13 (.act 14 (.act 16 (.get 17 (.get 18 (.get 19 (.act 20 (.get 21 (.get 22 .done))))))))))))))))))))))) (by kernel_rfl) (by kernel_rfl) Grow.refl Grow.trans ?_) | go_values | go_skip | go_guarded | go_step | go_upon | go_back)
    intro w_ hd_
    have hb_ := hd_.grow
    have HB_ := Lib.hid (HB.out.grow' hb_)
    clear HB
    have HB := HB_
    clear HB_
    have HT_ := Lib.hid (HT.out.grow hb_)
    clear HT
    have HT := HT_
    clear HT_
    have HS_ := Lib.hid (HS.out.grow hb_)
    clear HS
    have HS := HS_
    clear HS_
    clear hb_ hd_
    repeat (first | (refine pl_calm rfl rfl (by first | rfl | (go_simp; done) | rfl) (fun w_ => by first | (go_simp; rfl) | (go_simp; done) | rfl) (fun K hK => ?_); go_simp; refine hK _ _ ?_; clear hK K) | (refine pl_skip rfl (by first | rfl | (go_simp; done) | rfl) (fun K hK => ?_); go_simp; refine hK _ _ ?_; clear hK K) | (refine pl_skipa rfl (by first | rfl | (go_simp; done) | rfl) (fun K hK => ?_); go_simp; refine hK _ _ ?_; clear hK K))
    have HS1 := Lib.hid (show Sl w_ w_.heap.size 1 A k ((bs.take k).map B) by rw [List.map_take]; exact HS.out.to1 hkn)
    have HS2 := Lib.hid (show Sl w_ w_.heap.size 1 _ (n - k) ((bs.drop k).map B) by rw [List.map_drop]; exact HS.out.from1 hkn hn)
    generalize (if c = k then A else Option.map (fun x => x.add k) A) = A2 at HS2 ⊢
    refine pl_act rfl (by first | rfl | (go_simp; done) | rfl) (fun K hK => ?_)
    go_wp2_with fail
    generalize hw_ : World.alloc w_ _ = w2_
    obtain ⟨hX_, hb_, hs_⟩ := alloc_eq hw_
    generalize hg_ : w_.heap.size = g1 at hX_ hs_ ⊢
    refine hK _ _ (fun _ => hb_) ?_
    have HX := Lib.hid hX_
    clear hK K hw_ hX_
    have HB_ := Lib.hid (HB.out.grow' hb_)
    clear HB
    have HB := HB_
    clear HB_
    have HT_ := Lib.hid (HT.out.grow hb_)
    clear HT
    have HT := HT_
    clear HT_
    have HS_ := Lib.hid (HS.out.grow hb_)
    clear HS
    have HS := HS_
    clear HS_
    have HS1_ := Lib.hid (HS1.out.grow hb_)
    clear HS1
    have HS1 := HS1_
    clear HS1_
    have HS2_ := Lib.hid (HS2.out.grow hb_)
    clear HS2
    have HS2 := HS2_
    clear HS2_
    clear hb_ hg_ hs_
    clear w_
    rename World => w_
    have HP := Lib.hid (show Parts w_ w_.heap.size (some ⟨g1, 0, none⟩) 2 [(.slice A k c, bs.take k), (.slice A2 (n - k) (c - k), bs.drop k)] from
      parts_blk HX.out rfl (by intro p hp; simp only [List.mem_cons, List.not_mem_nil, or_false] at hp; rcases hp with rfl | rfl; exact part_mk HS1.out hkc; exact part_mk HS2.out (by omega)))
    refine pl_act rfl (by first | rfl | (go_simp; done) | rfl) (fun K hK => ?_)
    go_wp2_with fail
    refine (dsum_any _ _ _ _ HD.out (by simp [cat]) _ HP.out (by omega) (by rw [HL.out]; omega) HT.out).mono ?_
    rintro e w_ ⟨rfl, hb_⟩
    go_wp2_with fail
    refine hK _ _ (fun _ => hb_) ?_
    clear hK K
    have HB_ := Lib.hid (HB.out.grow' hb_)
    clear HB
    have HB := HB_
    clear HB_
    have HT_ := Lib.hid (HT.out.grow hb_)
    clear HT
    have HT := HT_
    clear HT_
    have HS_ := Lib.hid (HS.out.grow hb_)
    clear HS
    have HS := HS_
    clear HS_
    clear hb_
    clear HP HX HS1 HS2
    refine pl_act rfl (by first | rfl | (go_simp; done) | rfl) (fun K hK => ?_)
    go_wp2_with fail
    refine (dof_any _ _ _ HD.out _ HS.out (by omega)).mono ?_
    rintro e w_ ⟨rfl, hb_⟩
    go_wp2_with fail
    refine hK _ _ (fun _ => hb_) ?_
    clear hK K
    have HB_ := Lib.hid (HB.out.grow' hb_)
    clear HB
    have HB := HB_
    clear HB_
    have HT_ := Lib.hid (HT.out.grow hb_)
    clear HT
    have HT := HT_
    clear HT_
    have HS_ := Lib.hid (HS.out.grow hb_)
    clear HS
    have HS := HS_
    clear HS_
    clear hb_
    repeat (first | (refine pl_calm rfl rfl (by first | rfl | (go_simp; done) | rfl) (fun w_ => by first | (go_simp; rfl) | (go_simp; done) | rfl) (fun K hK => ?_); go_simp; refine hK _ _ ?_; clear hK K) | (refine pl_skip rfl (by first | rfl | (go_simp; done) | rfl) (fun K hK => ?_); go_simp; refine hK _ _ ?_; clear hK K) | (refine pl_skipa rfl (by first | rfl | (go_simp; done) | rfl) (fun K hK => ?_); go_simp; refine hK _ _ ?_; clear hK K))
    refine pl_act rfl (by first | rfl | (go_simp; done) | rfl) (fun K hK => ?_)
    go_wp2_with fail
    generalize hw_ : World.alloc w_ _ = w2_
    obtain ⟨hX_, hb_, hs_⟩ := alloc_eq hw_
    generalize hg_ : w_.heap.size = g2 at hX_ hs_ ⊢
    refine hK _ _ (fun _ => hb_) ?_
    have HX := Lib.hid hX_
    clear hK K hw_ hX_
    have HB_ := Lib.hid (HB.out.grow' hb_)
    clear HB
    have HB := HB_
    clear HB_
    have HT_ := Lib.hid (HT.out.grow hb_)
    clear HT
    have HT := HT_
    clear HT_
    have HS_ := Lib.hid (HS.out.grow hb_)
    clear HS
    have HS := HS_
    clear HS_
    clear hb_ hg_ hs_
    clear w_
    rename World => w_
    have HP := Lib.hid (show Parts w_ w_.heap.size (some ⟨g2, 0, none⟩) 1 [(.slice A n c, bs)] from
      parts_blk HX.out rfl (by intro p hp; simp only [List.mem_cons, List.not_mem_nil, or_false] at hp; rcases hp with rfl; exact part_mk HS.out hn))
    refine pl_act rfl (by first | rfl | (go_simp; done) | rfl) (fun K hK => ?_)
    go_wp2_with fail
    refine (dsum_any _ _ _ _ HD.out (by simp [cat]) _ HP.out (by omega) (by rw [HL.out]; omega) HT.out).mono ?_
    rintro e w_ ⟨rfl, hb_⟩
    go_wp2_with fail
    refine hK _ _ (fun _ => hb_) ?_
    clear hK K
    have HB_ := Lib.hid (HB.out.grow' hb_)
    clear HB
    have HB := HB_
    clear HB_
    have HT_ := Lib.hid (HT.out.grow hb_)
    clear HT
    have HT := HT_
    clear HT_
    have HS_ := Lib.hid (HS.out.grow hb_)
    clear HS
    have HS := HS_
    clear HS_
    clear hb_
    clear HP HX
    refine pl_act rfl (by first | rfl | (go_simp; done) | rfl) (fun K hK => ?_)
    go_wp2_with fail
    refine (dof_any _ _ _ HD.out _ HS.out (by omega)).mono ?_
    rintro e w_ ⟨rfl, hb_⟩
    go_wp2_with fail
    refine hK _ _ (fun _ => hb_) ?_
    clear hK K
    have HB_ := Lib.hid (HB.out.grow' hb_)
    clear HB
    have HB := HB_
    clear HB_
    have HT_ := Lib.hid (HT.out.grow hb_)
    clear HT
    have HT := HT_
    clear HT_
    have HS_ := Lib.hid (HS.out.grow hb_)
    clear HS
    have HS := HS_
    clear HS_
    clear hb_
    repeat (first | (refine pl_calm rfl rfl (by first | rfl | (go_simp; done) | rfl) (fun w_ => by first | (go_simp; rfl) | (go_simp; done) | rfl) (fun K hK => ?_); go_simp; refine hK _ _ ?_; clear hK K) | (refine pl_skip rfl (by first | rfl | (go_simp; done) | rfl) (fun K hK => ?_); go_simp; refine hK _ _ ?_; clear hK K) | (refine pl_skipa rfl (by first | rfl | (go_simp; done) | rfl) (fun K hK => ?_); go_simp; refine hK _ _ ?_; clear hK K))
    refine pl_act rfl (by first | rfl | (go_simp; done) | rfl) (fun K hK => ?_)
    go_wp2_with fail
    refine (awake3_any _ HT.out).mono ?_
    rintro e w_ ⟨rfl, hb_⟩
    go_wp2_with fail
    refine hK _ _ (fun _ => hb_) ?_
    clear hK K
    have HB_ := Lib.hid (HB.out.grow' hb_)
    clear HB
    have HB := HB_
    clear HB_
    clear hb_
    repeat (first | (refine pl_calm rfl rfl (by first | rfl | (go_simp; done) | rfl) (fun w_ => by first | (go_simp; rfl) | (go_simp; done) | rfl) (fun K hK => ?_); go_simp; refine hK _ _ ?_; clear hK K) | (refine pl_skip rfl (by first | rfl | (go_simp; done) | rfl) (fun K hK => ?_); go_simp; refine hK _ _ ?_; clear hK K) | (refine pl_skipa rfl (by first | rfl | (go_simp; done) | rfl) (fun K hK => ?_); go_simp; refine hK _ _ ?_; clear hK K))
    refine pl_done ?_
    go_wp2_with fail
    go_ret
    exact ⟨rfl, HB.out⟩
  · have g1 : decide (300 < (n : Int)) = true := by simp; omega
    go_enter Tryd.func3, Tryd.ntmps3
    go_wp2_with fail
    refine (awake3_any _ HT.out).mono ?_
    rintro e w_ ⟨rfl, hb_⟩
    have HB_ := Lib.hid (HB.out.grow' hb_)
    clear HB
    have HB := HB_
    clear HB_
    clear hb_
    go_wp2_with fail
    go_ret
    exact ⟨rfl, HB.out⟩
theorem shaTells_walk (A : Option Addr) (n c : Nat) (bs : List UInt8) (z : Int) (w : World) (hb : Sl w w.heap.size 1 A n (bs.map B)) (hn : n ≤ c) (hc : c ≤ maxLen) (hz : (Lit.int .i64 z).wf = true) (ht : Tabs w) :
    Calls Tryd.prog 3 #[.slice A n c, .int .i64 z] w fun e w' => e = .returned (.bool true) ∧ Below w.heap.size w w' :=
  shaTells_any A n c bs z w hb hn (by unfold maxLen at hc; omega) (bounds_i64 hz).1 (bounds_i64 hz).2 ht
end Go.Proofs.YtlondennhhffdaaDoor

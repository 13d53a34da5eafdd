/- The walk of seisinlaw03.ShaRoots. -/
import Derived.Test.YtlondennhhffdaaDoorRootE
import Derived.Test.YtlondennhhffdaaDoorFlowS
import Derived.Test.YtlondennhhffdaaDoorShaH
import Derived.Test.YtlondennhhffdaaDoorOpenE
namespace Go.Proofs.YtlondennhhffdaaDoor
open Go.RowKit Go.Shelf
set_option linter.unusedVariables false
set_option maxRecDepth 100000 in
set_option maxHeartbeats 1000000 in
theorem shaRoots_any (A : Option Addr) (n c : Nat) (bs : List UInt8) (w : World) (hb : Sl w w.heap.size 1 A n (bs.map B)) (hn : n ≤ c) (ht : Tabs w) :
    Calls Tryd.prog 5 #[.slice A n c] w fun e w' => e = .returned (.bool true) ∧ Below w.heap.size w w' := by
  have HT := Lib.hid ht; have HS := Lib.hid hb
  have HB := Lib.hid (Below.refl w.heap.size w)
  have HL := Lib.hid (show bs.length = n by have := hb.len; simpa using this)
  clear ht hb
  by_cases h3 : n ≤ 100
  · have g1 : decide (100 < (n : Int)) = false := by simp; omega
    obtain ⟨xs, hxs⟩ : ∃ xs, xs = (sha bs).map B := ⟨_, rfl⟩
    have HD := Lib.hid (show Dig xs (sha bs) by rw [hxs]; exact Dig.sha bs)
    have HXS := Lib.hid hxs
    have heq := fun w => HD.out.self w
    clear hxs
    go_enter Tryd.func5, Tryd.ntmps5
    go_wp2_with fail
    generalize hw_ : World.alloc w _ = w2_
    obtain ⟨hX_, hb_, hs_⟩ := alloc_eq hw_
    have HX := Lib.hid hX_
    clear hw_ hX_
    have HB_ := Lib.hid (HB.out.grow' hb_)
    clear HB
    have HB := HB_
    clear HB_
    have HT_ := Lib.hid (HT.out.grow hb_)
    clear HT
    have HT := HT_
    clear HT_
    have HS_ := Lib.hid (HS.out.grow hb_)
    clear HS
    have HS := HS_
    clear HS_
    clear hb_ hs_
    rename World => w_
    have HP := Lib.hid (show ∃ ps, Parts w_ w_.heap.size (some ⟨w.heap.size, 0, none⟩) 1 ps ∧ ps.map Prod.snd = [bs] from parts1 HX.out HS.out hn)
    go_wp2_with fail
    refine (psum_any HD.out (by simp) HP.out (by omega) (by rw [HL.out]; omega) HT.out).mono ?_
    rintro e w_ ⟨rfl, hb_⟩
    have HB_ := Lib.hid (HB.out.grow' hb_)
    clear HB
    have HB := HB_
    clear HB_
    have HT_ := Lib.hid (HT.out.grow hb_)
    clear HT
    have HT := HT_
    clear HT_
    have HS_ := Lib.hid (HS.out.grow hb_)
    clear HS
    have HS := HS_
    clear HS_
    clear hb_
    clear HP HX
    go_wp2_with fail
    refine (const_any 8 2 19 _ (by omega) (by omega) (by omega) (by omega) (by omega) len20.1 len20.2).mono ?_
    rintro e w_ ⟨A1, c1, rfl, hs1, hb_⟩
    have HB_ := Lib.hid (HB.out.grow' hb_)
    clear HB
    have HB := HB_
    clear HB_
    have HT_ := Lib.hid (HT.out.grow hb_)
    clear HT
    have HT := HT_
    clear HT_
    have HS_ := Lib.hid (HS.out.grow hb_)
    clear HS
    have HS := HS_
    clear HS_
    clear hb_
    have H1 := Lib.hid (show Sl w_ w_.heap.size 1 A1 8 (firstSt.toList.map W) by rw [← v32_w, ← first_const]; exact hs1)
    clear hs1
    go_wp2_with fail
    refine (const_any 64 3 311 _ (by omega) (by omega) (by omega) (by omega) (by omega) len312.1 len312.2).mono ?_
    rintro e w_ ⟨A2, c2, rfl, hs2, hb_⟩
    have HB_ := Lib.hid (HB.out.grow' hb_)
    clear HB
    have HB := HB_
    clear HB_
    have HT_ := Lib.hid (HT.out.grow hb_)
    clear HT
    have HT := HT_
    clear HT_
    have HS_ := Lib.hid (HS.out.grow hb_)
    clear HS
    have HS := HS_
    clear HS_
    have H1_ := Lib.hid (H1.out.grow hb_)
    clear H1
    have H1 := H1_
    clear H1_
    clear hb_
    have H2 := Lib.hid (show Sl w_ w_.heap.size 1 A2 64 (roundKs.map W) by rw [← v32_w, ← rounds_const]; exact hs2)
    clear hs2
    have HRS := Lib.hid (rsum_any A A1 A2 n c c1 c2 bs w_ HS.out H1.out H2.out (by omega))
    rw [← HXS.out] at HRS
    go_wp2_with fail
    refine HRS.out.mono ?_
    rintro e w5_ ⟨rfl, hb_⟩
    have hb_ := hb_
    clear hb_
    have HB_ := Lib.hid (HB.out.grow' hb_)
    clear HB
    have HB := HB_
    clear HB_
    have HT_ := Lib.hid (HT.out.grow hb_)
    clear HT
    have HT := HT_
    clear HT_
    clear hb_
    try clear w_
    rename World => w_
    go_wp2_with fail
    refine (awake3_any _ HT.out).mono ?_
    rintro e w_ ⟨rfl, hb_⟩
    have HB_ := Lib.hid (HB.out.grow' hb_)
    clear HB
    have HB := HB_
    clear HB_
    clear hb_
    go_wp2_with fail
    go_ret
    exact ⟨rfl, HB.out⟩
  · have g1 : decide (100 < (n : Int)) = true := by simp; omega
    go_enter Tryd.func5, Tryd.ntmps5
    go_wp2_with fail
    refine (awake3_any _ HT.out).mono ?_
    rintro e w_ ⟨rfl, hb_⟩
    have HB_ := Lib.hid (HB.out.grow' hb_)
    clear HB
    have HB := HB_
    clear HB_
    clear hb_
    go_wp2_with fail
    go_ret
    exact ⟨rfl, HB.out⟩
theorem shaRoots_walk (A : Option Addr) (n c : Nat) (bs : List UInt8) (w : World) (hb : Sl w w.heap.size 1 A n (bs.map B)) (hn : n ≤ c) (hc : c ≤ maxLen) (ht : Tabs w) :
    Calls Tryd.prog 5 #[.slice A n c] w fun e w' => e = .returned (.bool true) ∧ Below w.heap.size w w' := shaRoots_any A n c bs w hb hn ht
end Go.Proofs.YtlondennhhffdaaDoor

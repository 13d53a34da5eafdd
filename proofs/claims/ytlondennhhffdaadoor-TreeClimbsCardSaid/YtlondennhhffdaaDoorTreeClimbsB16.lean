/- The document's answer of layer 1: the same bytes. -/
import Derived.Test.YtlondennhhffdaaDoorTreeClimbsB15
/- The document's answer of layer 1: the same bytes. -/
namespace Go.Proofs.YtlondennhhffdaaDoor
open Go.RowKit Go.Shelf
set_option linter.unusedVariables false
set_option maxRecDepth 100000 in
set_option maxHeartbeats 1000000 in
theorem bytes1_any {res : Bool} {A A2 : Option Addr} {n c n2 c2 : Nat} {xs ys : List UInt8} (hres : decide (xs = ys) = res) (w : World) (h1 : Sl w w.heap.size 1 A n (xs.map B)) (h2 : Sl w w.heap.size 1 A2 n2 (ys.map B)) (hn : n ≤ 1000000) :
    Calls Tryd.prog 46 #[.slice A n c, .slice A2 n2 c2] w fun e w' => e = .returned (.bool res) ∧ Below w.heap.size w w' := by
  have H1 := Lib.hid h1; have H2 := Lib.hid h2
  have HL1 := Lib.hid (show xs.length = n by have := h1.len; simpa using this)
  have HL2 := Lib.hid (show ys.length = n2 by have := h2.len; simpa using this)
  have HRES := Lib.hid hres
  clear h1 h2 hres
  by_cases hnn : n = n2
  · subst hnn
    have z1 : ((n : Int) != (n : Int)) = false := by simp
    go_enter Tryd.func46, Tryd.ntmps46
    go_wp2_with fail
    go_loopw [5] (fun i wr => ∃ k : Nat, k ≤ n ∧ i = .int .i64 k ∧ Hid (xs.take k = ys.take k) ∧ Hid (Below w.heap.size w wr)) (fun i _ => n - (intOf i).toNat)
    case atStart => exact ⟨0, by omega, rfl, Lib.hid (by simp), Lib.hid (Below.refl _ _)⟩
    case round =>
      obtain ⟨k, hk, rfl, heq, hbw⟩ := hrel
      by_cases hlt : k < n
      · have HB := hbw
        have H1A := Lib.hid ((H1.out.below HB.out).more HB.out.size)
        have H2A := Lib.hid ((H2.out.below HB.out).more HB.out.size)
        obtain ⟨x, hx⟩ : ∃ x, xs[k]? = some x := ⟨_, List.getElem?_eq_getElem (by rw [HL1.out]; exact hlt)⟩
        obtain ⟨y, hy⟩ : ∃ y, ys[k]? = some y := ⟨_, List.getElem?_eq_getElem (by rw [HL2.out]; exact hlt)⟩
        have HX := Lib.hid hx; have HY := Lib.hid hy
        clear hx hy
        by_cases hxy : x = y
        · subst hxy
          try go_wp2_with fail
          repeat' (first | (with_reducible refine wp_plan (id := 6) Grow [0,0,0,2,0,0,0,2,0] (.get 0 (.get 1 (.get 2 (.get 3 (.get 4 (.get 5 (.get 6 (.get 7 (.get 8 .done))))))))) (by kernel_rfl) (by kernel_rfl) Grow.refl Grow.trans ?_) | go_values | go_skip | go_guarded | go_step | go_upon | go_back)
          intro w_ hd_
          have hb_ := hd_.grow
          have HB_ := Lib.hid (HB.out.grow' hb_)
          clear HB
          have HB := HB_
          clear HB_
          have H1A_ := Lib.hid (H1A.out.grow hb_)
          clear H1A
          have H1A := H1A_
          clear H1A_
          have H2A_ := Lib.hid (H2A.out.grow hb_)
          clear H2A
          have H2A := H2A_
          clear H2A_
          clear hb_ hd_
          obtain ⟨b1, o1, u1, rfl, hb1, hu1, hc1⟩ := H1A.out.at_ hlt
          obtain ⟨b2, o2, u2, rfl, hb2, hu2, hc2⟩ := H2A.out.at_ hlt
          obtain rfl : u1 = .int .u8 (b8 x) := by rw [List.getElem?_map, HX.out] at hu1; exact (Option.some.inj hu1).symm
          obtain rfl : u2 = .int .u8 (b8 x) := by rw [List.getElem?_map, HY.out] at hu2; exact (Option.some.inj hu2).symm
          clear hb1 hb2 hu1 hu2
          repeat (first | (refine pl_calm rfl rfl (by first | exact wanted_none rfl | (go_simp; done) | rfl) (fun w_ => by first | (go_simp; rfl) | (go_simp; done) | rfl) (fun K hK => ?_); go_simp; refine hK _ _ ?_; clear hK K) | (refine pl_skip rfl (by first | (go_simp; done) | rfl) (fun K hK => ?_); go_simp; refine hK _ _ ?_; clear hK K) | (refine pl_skipa rfl (by first | (go_simp; done) | rfl) (fun K hK => ?_); go_simp; refine hK _ _ ?_; clear hK K) | (refine pl_load rfl rfl (by first | exact wanted_none rfl | (go_simp; done) | rfl) rfl (by first | rfl | (go_simp; rfl)) (by kernel_rfl) (by first | exact hc1 | exact hc2) (fun K hK => ?_); go_simp; refine hK _ _ ?_; clear hK K) | (refine pl_loadnow rfl rfl (by first | exact wanted_none rfl | (go_simp; done) | rfl) rfl (by first | rfl | (go_simp; rfl)) (by kernel_rfl) (by first | exact hc1 | exact hc2) (fun K hK => ?_); go_simp; refine hK _ _ ?_; clear hK K))
          refine pl_done ?_
          clear hc1 hc2
          have HE := Lib.hid (show xs.take (k + 1) = ys.take (k + 1) by rw [List.take_add_one, List.take_add_one, heq.out, HX.out, HY.out])
          go_wp2_with fail
          go_roundw
          case rel => exact ⟨k + 1, by omega, by go_num, HE, HB⟩
          case measure => simp [intOf]; omega
        · have hbb : ((b8 x) != (b8 y)) = true := by
            have : b8 x ≠ b8 y := fun h => hxy (b8_inj h)
            simpa using this
          have HF := Lib.hid (show res = false by
            rw [← HRES.out]
            have : xs ≠ ys := fun h => by
              subst h
              have h1 := HX.out
              rw [HY.out] at h1
              exact hxy (Option.some.inj h1).symm
            simpa using this)
          have hne : b8 x ≠ b8 y := fun h => hxy (b8_inj h)
          have hq := eq_false hne
          clear hxy
          try go_wp2_with fail
          repeat' (first | (with_reducible refine wp_plan (id := 6) Grow [0,0,0,2,0,0,0,2,0] (.get 0 (.get 1 (.get 2 (.get 3 (.get 4 (.get 5 (.get 6 (.get 7 (.get 8 .done))))))))) (by kernel_rfl) (by kernel_rfl) Grow.refl Grow.trans ?_) | go_values | go_skip | go_guarded | go_step | go_upon | go_back)
          intro w_ hd_
          have hb_ := hd_.grow
          have HB_ := Lib.hid (HB.out.grow' hb_)
          clear HB
          have HB := HB_
          clear HB_
          have H1A_ := Lib.hid (H1A.out.grow hb_)
          clear H1A
          have H1A := H1A_
          clear H1A_
          have H2A_ := Lib.hid (H2A.out.grow hb_)
          clear H2A
          have H2A := H2A_
          clear H2A_
          clear hb_ hd_
          obtain ⟨b1, o1, u1, rfl, hb1, hu1, hc1⟩ := H1A.out.at_ hlt
          obtain ⟨b2, o2, u2, rfl, hb2, hu2, hc2⟩ := H2A.out.at_ hlt
          obtain rfl : u1 = .int .u8 (b8 x) := by rw [List.getElem?_map, HX.out] at hu1; exact (Option.some.inj hu1).symm
          obtain rfl : u2 = .int .u8 (b8 y) := by rw [List.getElem?_map, HY.out] at hu2; exact (Option.some.inj hu2).symm
          clear hb1 hb2 hu1 hu2
          repeat (first | (refine pl_calm rfl rfl (by first | exact wanted_none rfl | (go_simp; done) | rfl) (fun w_ => by first | (go_simp; rfl) | (go_simp; done) | rfl) (fun K hK => ?_); go_simp; refine hK _ _ ?_; clear hK K) | (refine pl_skip rfl (by first | (go_simp; done) | rfl) (fun K hK => ?_); go_simp; refine hK _ _ ?_; clear hK K) | (refine pl_skipa rfl (by first | (go_simp; done) | rfl) (fun K hK => ?_); go_simp; refine hK _ _ ?_; clear hK K) | (refine pl_load rfl rfl (by first | exact wanted_none rfl | (go_simp; done) | rfl) rfl (by first | rfl | (go_simp; rfl)) (by kernel_rfl) (by first | exact hc1 | exact hc2) (fun K hK => ?_); go_simp; refine hK _ _ ?_; clear hK K) | (refine pl_loadnow rfl rfl (by first | exact wanted_none rfl | (go_simp; done) | rfl) rfl (by first | rfl | (go_simp; rfl)) (by kernel_rfl) (by first | exact hc1 | exact hc2) (fun K hK => ?_); go_simp; refine hK _ _ ?_; clear hK K))
          refine pl_done ?_
          clear hc1 hc2
          go_wp2_with fail
          go_ret
          exact ⟨by rw [HF.out]; rfl, HB.out⟩
      · obtain rfl : k = n := by omega
        have HT := Lib.hid (show res = true by
          rw [← HRES.out]
          have h := heq.out
          rw [List.take_of_length_le (by rw [HL1.out]; exact Nat.le_refl _), List.take_of_length_le (by rw [HL2.out]; exact Nat.le_refl _)] at h
          simpa using h)
        go_wp2_with fail
        go_ret
        exact ⟨by rw [HT.out]; rfl, hbw.out⟩
  · have z1 : ((n : Int) != (n2 : Int)) = true := by simp; omega
    have HF := Lib.hid (show res = false by
      rw [← HRES.out]
      have : xs ≠ ys := fun h => by subst h; exact hnn (by rw [← HL1.out, ← HL2.out])
      simpa using this)
    have hz : ¬ ((n : Int) = (n2 : Int)) := by omega
    have hzq := eq_false hz
    go_enter Tryd.func46, Tryd.ntmps46
    go_wp2_with fail
    go_ret
    exact ⟨by rw [HF.out]; rfl, Below.refl _ _⟩
end Go.Proofs.YtlondennhhffdaaDoor

/- Layer 5, the document's answer: climbing. -/
namespace Go.Proofs.YtlondennhhffdaaDoor
open Go.RowKit Go.Shelf
set_option linter.unusedVariables false
attribute [local irreducible] nodeB leafB noneB

theorem none_of {α : Type} {o : Option α} (h : o.isSome = false) : o = none := by cases o with | none => rfl | some x => cases h
theorem climbT_nat {b : List UInt8} {j N : Nat} {p : List (List UInt8)} (h : j < N) (hN : N ≤ 1048576) : climbT b j N p = climbB (leafB b) j N p := by
  unfold climbT; rw [if_neg (by omega)]; rfl
set_option maxRecDepth 100000 in
set_option maxHeartbeats 2000000 in
theorem rclimb_nat (A : Option Addr) (n c : Nat) (b : List UInt8) (hc : n ≤ c) (hn : n ≤ 1000000) : ∀ (M Nn j n2 c2 : Nat) (A2 : Option Addr) (ds : List (List UInt8)) (zs : List Value) (w : World), Nn ≤ M → 1 ≤ Nn → j < Nn → Nn ≤ 1048576 → n2 ≤ 9223372036854775807 → Dig zs (climbD b j Nn ds) → Sl w w.heap.size 1 A n (b.map B) → n ≤ c → n ≤ 1000000 → Ids w A2 n2 c2 ds →
    Calls Tryd.prog 44 #[.slice A n c, .int .i64 j, .int .i64 Nn, .slice A2 n2 c2] w fun e w' => e = .returned (.tuple #[.agg zs.toArray, .bool (climbT b j Nn ds).isSome]) ∧ Below w.heap.size w w' := by
  intro M
  induction M with
  | zero => intro Nn j n2 c2 A2 ds zs w h1 h2; omega
  | succ M ih =>
    intro Nn j n2 c2 A2 ds zs w hNMM hN1 hjN hNM hn2 hz hs _ _ hi
    by_cases hzz : Nn ≤ M
    · exact ih Nn j n2 c2 A2 ds zs w hzz hN1 hjN hNM hn2 hz hs hc hn hi
    have HS := Lib.hid hs; have HI := Lib.hid hi; have HZ := Lib.hid hz
    have HDL := Lib.hid hi.2.1
    have hnc : n2 ≤ c2 := hi.2.2.2
    have HB := Lib.hid (Below.refl w.heap.size w)
    have HG := Lib.hid (Nat.le_refl w.heap.size)
    have hrid := row_id
    have HRI := Lib.hid hrid
    clear hrid
    have g1 : decide ((Nn : Int) < 1) = false := by simp; omega
    have g2 : decide (1048576 < (Nn : Int)) = false := by simp; omega
    have g3 : decide ((j : Int) < 0) = false := by simp
    have g4 : decide ((Nn : Int) ≤ (j : Int)) = false := by simp; omega
    by_cases h1 : Nn = 1
    · subst h1
      have hj0 : j = 0 := by omega
      clear ih hs hi hz hzz hNMM
      by_cases hn0 : n2 = 0
      · subst hn0
        obtain rfl : ds = [] := List.eq_nil_of_length_eq_zero HDL.out
        have HC := Lib.hid (show climbT b j ((1 : Nat) : Int) [] = some (leafB b) by rw [climbT_nat hjN hNM, climbB_one _ _ _ _ (by omega)]; rfl)
        have HLD := Lib.hid (show Dig zs (leafB b) by have h := HZ.out; unfold climbD at h; rw [HC.out] at h; exact h)
        go_enter Tryd.func44, Tryd.ntmps44
        go_wp2_with (first | (with_reducible refine wpl_alloc (o := ⟨some 8, _, _, _, _, _⟩) rfl rfl zero_id ?_))
        intro w2_ hb2_ hb_ hsz2_
        have HX_ := Lib.hid (at_mk hb2_ len_id)
        clear hb2_ hsz2_
        have HB_ := Lib.hid (HB.out.grow' hb_)
        clear HB
        have HB := HB_
        clear HB_
        have HS_ := Lib.hid (HS.out.grow hb_)
        clear HS
        have HS := HS_
        clear HS_
        have HR := HX_
        clear hb_ HX_
        try clear w_
        rename World => w_
        go_wp2_with fail
        refine (rleaf_any _ _ _ _ HLD.out _ HS.out hn).mono ?_
        rintro e w_ ⟨rfl, hb_⟩
        have HB_ := Lib.hid (HB.out.grow' hb_)
        clear HB
        have HB := HB_
        clear HB_
        have HR_ := Lib.hid (HR.out.grow hb_)
        clear HR
        have HR := HR_
        clear HR_
        clear hb_
        go_wp2_with (first | (with_reducible refine wpl_storeb (o := ⟨none, .store _ _ _, _, _, _, _⟩) rfl rfl row_id HR.out.blk rfl rfl HR.out.len HLD.out.len HLD.out.one ?_))
        intro w2_ hb2_ hg2_ hsz2_
        have HB_ := Lib.hid (put_below HB.out HG.out hg2_)
        have HX_ := Lib.hid (at_mk hb2_ HLD.out.len)
        clear hb2_ hg2_ hsz2_ HB HR
        have HB := HB_
        have HR := HX_
        clear HB_ HX_
        try clear w_
        rename World => w_
        go_wp2_with fail
        exact ret_cell2 rfl HRI.out HR.out.blk rfl HR.out.len rfl rfl ⟨by rw [HC.out]; rfl, HB.out⟩
      · have HC := Lib.hid (show climbT b j ((1 : Nat) : Int) ds = none by rw [climbT_nat hjN hNM, climbB_one _ _ _ _ (by omega), if_neg]; intro h; rw [h] at HDL; exact hn0 HDL.out.symm)
        have HZE := Lib.hid (show zs = List.replicate 32 (B 0) by have h := HZ.out.1; unfold climbD at h; rw [HC.out] at h; rw [h]; simp)
        have z1 : ((n2 : Int) == 0) = false := by simp; omega
        have z3 : decide ((n2 : Int) = 0) = false := by simp; omega
        have z5 : (n2 == 0) = false := by simp; omega
        have z7 : decide (n2 = 0) = false := by simp; omega
        go_enter Tryd.func44, Tryd.ntmps44
        go_wp2_with (first | (with_reducible refine wpl_alloc (o := ⟨some 8, _, _, _, _, _⟩) rfl rfl zero_id ?_))
        intro w2_ hb2_ hb_ hsz2_
        have HX_ := Lib.hid (at_mk hb2_ len_id)
        clear hb2_ hsz2_
        have HB_ := Lib.hid (HB.out.grow' hb_)
        clear HB
        have HB := HB_
        clear HB_
        have HR := HX_
        clear hb_ HX_
        try clear w_
        rename World => w_
        go_wp2_with (first | (refine wpl_storeb (o := ⟨none, .store _ _ _, _, _, _, _⟩) (cs := List.replicate 32 (B 0)) rfl rfl row_id HR.out.blk rfl rfl HR.out.len len_id ones0 ?_))
        intro w2_ hb2_ hg2_ hsz2_
        have HB_ := Lib.hid (put_below HB.out HG.out hg2_)
        have HX_ := Lib.hid (at_mk hb2_ len_id)
        clear hb2_ hg2_ hsz2_ HB HR
        have HB := HB_
        have HR := HX_
        clear HB_ HX_
        try clear w_
        rename World => w_
        go_wp2_with fail
        exact ret_cell2 rfl HRI.out HR.out.blk rfl HR.out.len rfl rfl ⟨by rw [HC.out, HZE.out]; rfl, HB.out⟩
    have hN2 : 2 ≤ Nn := by omega
    have y1 : ((Nn : Int) == 1) = false := by simp; omega
    have y3 : decide ((Nn : Int) = 1) = false := by simp; omega
    have y5 : (Nn == 1) = false := by simp; omega
    have y7 : decide (Nn = 1) = false := by simp; omega
    by_cases hn0 : n2 = 0
    · subst hn0
      obtain rfl : ds = [] := List.eq_nil_of_length_eq_zero HDL.out
      have HC := Lib.hid (show climbT b j Nn [] = none by rw [climbT_nat hjN hNM, climbB_nil _ _ _ hN2])
      have HZE := Lib.hid (show zs = List.replicate 32 (B 0) by have h := HZ.out.1; unfold climbD at h; rw [HC.out] at h; rw [h]; simp)
      clear ih hs hi hz hzz hNMM
      go_enter Tryd.func44, Tryd.ntmps44
      go_wp2_with (first | (with_reducible refine wpl_alloc (o := ⟨some 8, _, _, _, _, _⟩) rfl rfl zero_id ?_))
      intro w2_ hb2_ hb_ hsz2_
      have HX_ := Lib.hid (at_mk hb2_ len_id)
      clear hb2_ hsz2_
      have HB_ := Lib.hid (HB.out.grow' hb_)
      clear HB
      have HB := HB_
      clear HB_
      have HR := HX_
      clear hb_ HX_
      try clear w_
      rename World => w_
      go_wp2_with (first | (refine wpl_storeb (o := ⟨none, .store _ _ _, _, _, _, _⟩) (cs := List.replicate 32 (B 0)) rfl rfl row_id HR.out.blk rfl rfl HR.out.len len_id ones0 ?_))
      intro w2_ hb2_ hg2_ hsz2_
      have HB_ := Lib.hid (put_below HB.out HG.out hg2_)
      have HX_ := Lib.hid (at_mk hb2_ len_id)
      clear hb2_ hg2_ hsz2_ HB HR
      have HB := HB_
      have HR := HX_
      clear HB_ HX_
      try clear w_
      rename World => w_
      go_wp2_with fail
      exact ret_cell2 rfl HRI.out HR.out.blk rfl HR.out.len rfl rfl ⟨by rw [HC.out, HZE.out]; rfl, HB.out⟩
    obtain ⟨l, hl⟩ : ∃ l, n2 = l + 1 := ⟨n2 - 1, by omega⟩
    obtain ⟨last, hlast⟩ : ∃ x, ds[l]? = some x := ⟨_, List.getElem?_eq_getElem (by rw [HDL.out]; omega)⟩
    have hl32 : last.length = 32 := hi.2.2.1 _ (List.mem_of_getElem? hlast)
    obtain ⟨k, hk⟩ : ∃ k, k = halfN Nn := ⟨_, rfl⟩
    have hk1 : 1 ≤ k := by rw [hk]; exact halfN_pos Nn
    have hk2 : k < Nn := by rw [hk]; exact halfN_lt hN2
    have hln : l ≤ n2 := by omega
    have hln2 : l < n2 := by omega
    have hlc : l ≤ c2 := by omega
    have hq : (n2 : Int) - 1 = (l : Int) := by omega
    have hq2 : RowKit.wrap64 (l : Int) = (l : Int) := wrap64_in _ (by omega)
    have hkM : k ≤ M := by omega
    have hdM : Nn - k ≤ M := by omega
    have hN16 : Nn ≤ 16777216 := by omega
    have hgl : ds.getLast? = some last := by rw [List.getLast?_eq_getElem?, HDL.out, hl]; exact hlast
    have hdrop : ds.dropLast = ds.take l := by rw [List.dropLast_eq_take, HDL.out, hl]; rfl
    obtain ⟨ls, hls⟩ : ∃ ls, ls = last.map B := ⟨_, rfl⟩
    have HLD := Lib.hid (show Dig ls last from ⟨hls, hl32⟩)
    have HIL := Lib.hid (show Ids w A2 l c2 (ds.take l) from hi.take hln)
    have z1 : ((n2 : Int) == 0) = false := by simp; omega
    have z3 : decide ((n2 : Int) = 0) = false := by simp; omega
    have z5 : (n2 == 0) = false := by simp; omega
    have z7 : decide (n2 = 0) = false := by simp; omega
    have HIH := Lib.hid ih
    have HK := Lib.hid hk
    have HLA := Lib.hid hlast
    clear hs hi hz hzz hNMM hls hl32 hl hlast
    by_cases hik : j < k
    · skip
      have HC := Lib.hid (show climbT b j Nn ds = (climbT b j k (ds.take l)).map fun x => nodeB x last by
        rw [climbT_nat hjN hNM, climbT_nat hik (by omega), climbB_left _ _ _ _ last hN2 hgl (by rw [← hk]; exact hik), hdrop, ← hk])
      obtain ⟨zs1, hz1⟩ : ∃ v, Dig v (climbD b j k (ds.take l)) := ⟨(climbD b j k (ds.take l)).map B, rfl, climbD_len _ _ _ _⟩
      have HZ1 := Lib.hid hz1
      obtain ⟨ok, hok⟩ : ∃ ok, (climbT b j k (ds.take l)).isSome = ok := ⟨_, rfl⟩
      have HOK := Lib.hid hok
      have g5 : decide ((j : Int) < (k : Int)) = true := by simp; omega
      clear hz1 hok hgl hdrop ih hk
      go_enter Tryd.func44, Tryd.ntmps44
      go_wp2_with (first | (with_reducible refine wpl_alloc (o := ⟨some 8, _, _, _, _, _⟩) rfl rfl zero_id ?_))
      intro w2_ hb2_ hb_ hsz2_
      have HX_ := Lib.hid (at_mk hb2_ len_id)
      clear hb2_ hsz2_
      have HB_ := Lib.hid (HB.out.grow' hb_)
      clear HB
      have HB := HB_
      clear HB_
      have HS_ := Lib.hid (HS.out.grow hb_)
      clear HS
      have HS := HS_
      clear HS_
      have HI_ := Lib.hid (HI.out.grow hb_)
      clear HI
      have HI := HI_
      clear HI_
      have HIL_ := Lib.hid (HIL.out.grow hb_)
      clear HIL
      have HIL := HIL_
      clear HIL_
      have HR := HX_
      clear hb_ HX_
      try clear w_
      rename World => w_
      go_wp2_with fail
      refine (half_any Nn _ hN2 hN16).mono ?_
      rintro e w1 ⟨rfl, hw1⟩
      rw [hw1, ← HK.out]
      clear hw1
      clear w1
      obtain ⟨b1, o1, d1, rfl, hd1, hd32, hb1, hc1⟩ := HI.out.key hln2
      obtain rfl : last = d1 := by have := HLA.out; rw [hd1] at this; exact (Option.some.inj this).symm
      rw [← HLD.out.1] at hc1
      have HCC := Lib.hid hc1
      clear hc1 hd1 hd32 hb1
      go_wp2_with (first | (with_reducible refine wpl_loadm (o := ⟨some 51, _, _, _, _, _⟩) rfl rfl row_id HCC.out rfl HLD.out.len ?_) | (with_reducible refine wpl_alloc (o := ⟨some 11, _, _, _, _, _⟩) rfl rfl zero_id ?_))
      intro w1_ hb1_ hbw1_ hsz1_
      have HB1_ := Lib.hid (at_mk hb1_ len_id)
      have HBW1_ := Lib.hid hbw1_
      have HZ1_ := Lib.hid hsz1_
      clear hb1_ hbw1_ hsz1_
      go_wp2_with (first | (with_reducible refine wpl_storeb (o := ⟨none, .store _ _ _, _, _, _, _⟩) rfl rfl row_id HB1_.out.blk rfl rfl HB1_.out.len HLD.out.len HLD.out.one ?_))
      intro w2_ hb2_ hg2_ hsz2_
      have hb_ := var_grow HBW1_.out HZ1_.out hg2_
      have HX_ := Lib.hid (at_mk hb2_ HLD.out.len)
      clear hb2_ hg2_ hsz2_ HB1_ HBW1_ HZ1_
      have HB_ := Lib.hid (HB.out.grow' hb_)
      clear HB
      have HB := HB_
      clear HB_
      have HR_ := Lib.hid (HR.out.grow hb_)
      clear HR
      have HR := HR_
      clear HR_
      have HS_ := Lib.hid (HS.out.grow hb_)
      clear HS
      have HS := HS_
      clear HS_
      have HIL_ := Lib.hid (HIL.out.grow hb_)
      clear HIL
      have HIL := HIL_
      clear HIL_
      generalize hg_ : w_.heap.size = g11 at HX_ ⊢
      clear hg_
      have HV11 := HX_
      clear hb_ HX_
      clear w1_
      try clear w_
      rename World => w_
      clear HCC
      go_wp2_with fail
      refine (HIH.out k j l c2 _ (ds.take l) zs1 _ hkM hk1 hik (by omega) (by omega) HZ1.out HS.out hc hn HIL.out).mono ?_
      rintro e w2_ ⟨rfl, hb_⟩
      have hb_ := hb_
      clear hb_
      have HB_ := Lib.hid (HB.out.grow' hb_)
      clear HB
      have HB := HB_
      clear HB_
      have HR_ := Lib.hid (HR.out.grow hb_)
      clear HR
      have HR := HR_
      clear HR_
      have HV11_ := Lib.hid (HV11.out.grow hb_)
      clear HV11
      have HV11 := HV11_
      clear HV11_
      clear hb_
      try clear w_
      rename World => w_
      rw [HOK.out]
      go_wp2_with (first | (with_reducible refine wpl_alloc (o := ⟨some 12, _, _, _, _, _⟩) rfl rfl zero_id ?_))
      intro w1_ hb1_ hbw1_ hsz1_
      have HB1_ := Lib.hid (at_mk hb1_ len_id)
      have HBW1_ := Lib.hid hbw1_
      have HZ1_ := Lib.hid hsz1_
      clear hb1_ hbw1_ hsz1_
      go_wp2_with (first | (with_reducible refine wpl_storeb (o := ⟨none, .store _ _ _, _, _, _, _⟩) rfl rfl row_id HB1_.out.blk rfl rfl HB1_.out.len HZ1.out.len HZ1.out.one ?_))
      intro w2_ hb2_ hg2_ hsz2_
      have hb_ := var_grow HBW1_.out HZ1_.out hg2_
      have HX_ := Lib.hid (at_mk hb2_ HZ1.out.len)
      clear hb2_ hg2_ hsz2_ HB1_ HBW1_ HZ1_
      have HB_ := Lib.hid (HB.out.grow' hb_)
      clear HB
      have HB := HB_
      clear HB_
      have HR_ := Lib.hid (HR.out.grow hb_)
      clear HR
      have HR := HR_
      clear HR_
      have HV11_ := Lib.hid (HV11.out.grow hb_)
      clear HV11
      have HV11 := HV11_
      clear HV11_
      generalize hg_ : w_.heap.size = gx at HX_ ⊢
      clear hg_
      have HVX := HX_
      clear hb_ HX_
      clear w1_
      try clear w_
      rename World => w_
      cases ok with
      | true =>
        obtain ⟨rs, hrs⟩ : ∃ v, Dig v (nodeB (climbD b j k (ds.take l)) last) := ⟨(nodeB (climbD b j k (ds.take l)) last).map B, rfl, nodeB_len _ _⟩
        have HRS := Lib.hid hrs
        clear hrs
        have HE := Lib.hid (show rs = zs ∧ (climbT b j Nn ds).isSome = true by
          obtain ⟨x, hx⟩ := Option.isSome_iff_exists.1 HOK.out
          refine ⟨?_, by rw [HC.out, hx]; rfl⟩
          rw [HRS.out.1, HZ.out.1]
          unfold climbD
          rw [HC.out, hx]; rfl)
        go_wp2_with (first | (with_reducible refine wpl_loadb (o := ⟨_, .load _ _, _, _, _, _⟩) rfl rfl row_id HVX.out.blk rfl HVX.out.len ?_) | (with_reducible refine wpl_loadw (o := ⟨_, .load _ _, _, _, _, _⟩) (by first | rfl | (go_simp; done) | fail) rfl row_id HVX.out.blk rfl HVX.out.len ?_) | (with_reducible refine wpl_loadb (o := ⟨_, .load _ _, _, _, _, _⟩) rfl rfl row_id HV11.out.blk rfl HV11.out.len ?_) | (with_reducible refine wpl_loadw (o := ⟨_, .load _ _, _, _, _, _⟩) (by first | rfl | (go_simp; done) | fail) rfl row_id HV11.out.blk rfl HV11.out.len ?_))
        refine (rnode_any HZ1.out HLD.out HRS.out _).mono ?_
        rintro e w_ ⟨rfl, hb_⟩
        have HB_ := Lib.hid (HB.out.grow' hb_)
        clear HB
        have HB := HB_
        clear HB_
        have HR_ := Lib.hid (HR.out.grow hb_)
        clear HR
        have HR := HR_
        clear HR_
        clear hb_
        go_wp2_with (first | (with_reducible refine wpl_storeb (o := ⟨none, .store _ _ _, _, _, _, _⟩) rfl rfl row_id HR.out.blk rfl rfl HR.out.len HRS.out.len HRS.out.one ?_))
        intro w2_ hb2_ hg2_ hsz2_
        have HB_ := Lib.hid (put_below HB.out HG.out hg2_)
        have HX_ := Lib.hid (at_mk hb2_ HRS.out.len)
        clear hb2_ hg2_ hsz2_ HB HR
        have HB := HB_
        have HR := HX_
        clear HB_ HX_
        try clear w_
        rename World => w_
        go_wp2_with fail
        exact ret_cell2 rfl HRI.out HR.out.blk rfl HR.out.len rfl rfl ⟨by rw [HE.out.2, HE.out.1]; rfl, HB.out⟩
      | false =>
        have HN := Lib.hid (show climbT b j Nn ds = none by rw [HC.out, none_of HOK.out]; rfl)
        have HZE := Lib.hid (show zs = List.replicate 32 (B 0) by have h := HZ.out.1; unfold climbD at h; rw [HN.out] at h; rw [h]; simp)
        go_wp2_with (first | (refine wpl_storeb (o := ⟨none, .store _ _ _, _, _, _, _⟩) (cs := List.replicate 32 (B 0)) rfl rfl row_id HR.out.blk rfl rfl HR.out.len len_id ones0 ?_))
        intro w2_ hb2_ hg2_ hsz2_
        have HB_ := Lib.hid (put_below HB.out HG.out hg2_)
        have HX_ := Lib.hid (at_mk hb2_ len_id)
        clear hb2_ hg2_ hsz2_ HB HR
        have HB := HB_
        have HR := HX_
        clear HB_ HX_
        try clear w_
        rename World => w_
        go_wp2_with fail
        exact ret_cell2 rfl HRI.out HR.out.blk rfl HR.out.len rfl rfl ⟨by rw [HN.out, HZE.out]; rfl, HB.out⟩
    · skip
      have HC := Lib.hid (show climbT b j Nn ds = (climbT b (j - k : Nat) (Nn - k : Nat) (ds.take l)).map fun x => nodeB last x by
        rw [climbT_nat hjN hNM, climbT_nat (show j - k < Nn - k by omega) (by omega), climbB_right _ _ _ _ last hN2 hgl (by rw [← hk]; exact hik), hdrop, ← hk])
      obtain ⟨zs1, hz1⟩ : ∃ v, Dig v (climbD b (j - k : Nat) (Nn - k : Nat) (ds.take l)) := ⟨(climbD b (j - k : Nat) (Nn - k : Nat) (ds.take l)).map B, rfl, climbD_len _ _ _ _⟩
      have HZ1 := Lib.hid hz1
      obtain ⟨ok, hok⟩ : ∃ ok, (climbT b (j - k : Nat) (Nn - k : Nat) (ds.take l)).isSome = ok := ⟨_, rfl⟩
      have HOK := Lib.hid hok
      have g5 : decide ((j : Int) < (k : Int)) = false := by simp; omega
      clear hz1 hok hgl hdrop ih hk
      go_enter Tryd.func44, Tryd.ntmps44
      go_wp2_with (first | (with_reducible refine wpl_alloc (o := ⟨some 8, _, _, _, _, _⟩) rfl rfl zero_id ?_))
      intro w2_ hb2_ hb_ hsz2_
      have HX_ := Lib.hid (at_mk hb2_ len_id)
      clear hb2_ hsz2_
      have HB_ := Lib.hid (HB.out.grow' hb_)
      clear HB
      have HB := HB_
      clear HB_
      have HS_ := Lib.hid (HS.out.grow hb_)
      clear HS
      have HS := HS_
      clear HS_
      have HI_ := Lib.hid (HI.out.grow hb_)
      clear HI
      have HI := HI_
      clear HI_
      have HIL_ := Lib.hid (HIL.out.grow hb_)
      clear HIL
      have HIL := HIL_
      clear HIL_
      have HR := HX_
      clear hb_ HX_
      try clear w_
      rename World => w_
      go_wp2_with fail
      refine (half_any Nn _ hN2 hN16).mono ?_
      rintro e w1 ⟨rfl, hw1⟩
      rw [hw1, ← HK.out]
      clear hw1
      clear w1
      obtain ⟨b1, o1, d1, rfl, hd1, hd32, hb1, hc1⟩ := HI.out.key hln2
      obtain rfl : last = d1 := by have := HLA.out; rw [hd1] at this; exact (Option.some.inj this).symm
      rw [← HLD.out.1] at hc1
      have HCC := Lib.hid hc1
      clear hc1 hd1 hd32 hb1
      go_wp2_with (first | (with_reducible refine wpl_loadm (o := ⟨some 51, _, _, _, _, _⟩) rfl rfl row_id HCC.out rfl HLD.out.len ?_) | (with_reducible refine wpl_alloc (o := ⟨some 11, _, _, _, _, _⟩) rfl rfl zero_id ?_))
      intro w1_ hb1_ hbw1_ hsz1_
      have HB1_ := Lib.hid (at_mk hb1_ len_id)
      have HBW1_ := Lib.hid hbw1_
      have HZ1_ := Lib.hid hsz1_
      clear hb1_ hbw1_ hsz1_
      go_wp2_with (first | (with_reducible refine wpl_storeb (o := ⟨none, .store _ _ _, _, _, _, _⟩) rfl rfl row_id HB1_.out.blk rfl rfl HB1_.out.len HLD.out.len HLD.out.one ?_))
      intro w2_ hb2_ hg2_ hsz2_
      have hb_ := var_grow HBW1_.out HZ1_.out hg2_
      have HX_ := Lib.hid (at_mk hb2_ HLD.out.len)
      clear hb2_ hg2_ hsz2_ HB1_ HBW1_ HZ1_
      have HB_ := Lib.hid (HB.out.grow' hb_)
      clear HB
      have HB := HB_
      clear HB_
      have HR_ := Lib.hid (HR.out.grow hb_)
      clear HR
      have HR := HR_
      clear HR_
      have HS_ := Lib.hid (HS.out.grow hb_)
      clear HS
      have HS := HS_
      clear HS_
      have HIL_ := Lib.hid (HIL.out.grow hb_)
      clear HIL
      have HIL := HIL_
      clear HIL_
      generalize hg_ : w_.heap.size = g11 at HX_ ⊢
      clear hg_
      have HV11 := HX_
      clear hb_ HX_
      clear w1_
      try clear w_
      rename World => w_
      clear HCC
      go_wp2_with fail
      have hcl := HIH.out (Nn - k) (j - k) l c2 _ (ds.take l) zs1 w_ hdM (by omega) (by omega) (by omega) (by omega) HZ1.out HS.out hc hn HIL.out
      rw [HOK.out] at hcl
      rw [show ((j - k : Nat) : Int) = (j : Int) - (k : Int) by omega, show ((Nn - k : Nat) : Int) = (Nn : Int) - (k : Int) by omega] at hcl
      refine hcl.mono ?_
      rintro e w2_ ⟨rfl, hb_⟩
      have hb_ := hb_
      clear hb_
      have HB_ := Lib.hid (HB.out.grow' hb_)
      clear HB
      have HB := HB_
      clear HB_
      have HR_ := Lib.hid (HR.out.grow hb_)
      clear HR
      have HR := HR_
      clear HR_
      have HV11_ := Lib.hid (HV11.out.grow hb_)
      clear HV11
      have HV11 := HV11_
      clear HV11_
      clear hb_
      try clear w_
      rename World => w_
      go_wp2_with (first | (with_reducible refine wpl_alloc (o := ⟨some 14, _, _, _, _, _⟩) rfl rfl zero_id ?_))
      intro w1_ hb1_ hbw1_ hsz1_
      have HB1_ := Lib.hid (at_mk hb1_ len_id)
      have HBW1_ := Lib.hid hbw1_
      have HZ1_ := Lib.hid hsz1_
      clear hb1_ hbw1_ hsz1_
      go_wp2_with (first | (with_reducible refine wpl_storeb (o := ⟨none, .store _ _ _, _, _, _, _⟩) rfl rfl row_id HB1_.out.blk rfl rfl HB1_.out.len HZ1.out.len HZ1.out.one ?_))
      intro w2_ hb2_ hg2_ hsz2_
      have hb_ := var_grow HBW1_.out HZ1_.out hg2_
      have HX_ := Lib.hid (at_mk hb2_ HZ1.out.len)
      clear hb2_ hg2_ hsz2_ HB1_ HBW1_ HZ1_
      have HB_ := Lib.hid (HB.out.grow' hb_)
      clear HB
      have HB := HB_
      clear HB_
      have HR_ := Lib.hid (HR.out.grow hb_)
      clear HR
      have HR := HR_
      clear HR_
      have HV11_ := Lib.hid (HV11.out.grow hb_)
      clear HV11
      have HV11 := HV11_
      clear HV11_
      generalize hg_ : w_.heap.size = gx at HX_ ⊢
      clear hg_
      have HVX := HX_
      clear hb_ HX_
      clear w1_
      try clear w_
      rename World => w_
      cases ok with
      | true =>
        obtain ⟨rs, hrs⟩ : ∃ v, Dig v (nodeB last (climbD b (j - k : Nat) (Nn - k : Nat) (ds.take l))) := ⟨(nodeB last (climbD b (j - k : Nat) (Nn - k : Nat) (ds.take l))).map B, rfl, nodeB_len _ _⟩
        have HRS := Lib.hid hrs
        clear hrs
        have HE := Lib.hid (show rs = zs ∧ (climbT b j Nn ds).isSome = true by
          obtain ⟨x, hx⟩ := Option.isSome_iff_exists.1 HOK.out
          refine ⟨?_, by rw [HC.out, hx]; rfl⟩
          rw [HRS.out.1, HZ.out.1]
          unfold climbD
          rw [HC.out, hx]; rfl)
        go_wp2_with (first | (with_reducible refine wpl_loadb (o := ⟨_, .load _ _, _, _, _, _⟩) rfl rfl row_id HVX.out.blk rfl HVX.out.len ?_) | (with_reducible refine wpl_loadw (o := ⟨_, .load _ _, _, _, _, _⟩) (by first | rfl | (go_simp; done) | fail) rfl row_id HVX.out.blk rfl HVX.out.len ?_) | (with_reducible refine wpl_loadb (o := ⟨_, .load _ _, _, _, _, _⟩) rfl rfl row_id HV11.out.blk rfl HV11.out.len ?_) | (with_reducible refine wpl_loadw (o := ⟨_, .load _ _, _, _, _, _⟩) (by first | rfl | (go_simp; done) | fail) rfl row_id HV11.out.blk rfl HV11.out.len ?_))
        refine (rnode_any HLD.out HZ1.out HRS.out _).mono ?_
        rintro e w_ ⟨rfl, hb_⟩
        have HB_ := Lib.hid (HB.out.grow' hb_)
        clear HB
        have HB := HB_
        clear HB_
        have HR_ := Lib.hid (HR.out.grow hb_)
        clear HR
        have HR := HR_
        clear HR_
        clear hb_
        go_wp2_with (first | (with_reducible refine wpl_storeb (o := ⟨none, .store _ _ _, _, _, _, _⟩) rfl rfl row_id HR.out.blk rfl rfl HR.out.len HRS.out.len HRS.out.one ?_))
        intro w2_ hb2_ hg2_ hsz2_
        have HB_ := Lib.hid (put_below HB.out HG.out hg2_)
        have HX_ := Lib.hid (at_mk hb2_ HRS.out.len)
        clear hb2_ hg2_ hsz2_ HB HR
        have HB := HB_
        have HR := HX_
        clear HB_ HX_
        try clear w_
        rename World => w_
        go_wp2_with fail
        exact ret_cell2 rfl HRI.out HR.out.blk rfl HR.out.len rfl rfl ⟨by rw [HE.out.2, HE.out.1]; rfl, HB.out⟩
      | false =>
        have HN := Lib.hid (show climbT b j Nn ds = none by rw [HC.out, none_of HOK.out]; rfl)
        have HZE := Lib.hid (show zs = List.replicate 32 (B 0) by have h := HZ.out.1; unfold climbD at h; rw [HN.out] at h; rw [h]; simp)
        go_wp2_with (first | (refine wpl_storeb (o := ⟨none, .store _ _ _, _, _, _, _⟩) (cs := List.replicate 32 (B 0)) rfl rfl row_id HR.out.blk rfl rfl HR.out.len len_id ones0 ?_))
        intro w2_ hb2_ hg2_ hsz2_
        have HB_ := Lib.hid (put_below HB.out HG.out hg2_)
        have HX_ := Lib.hid (at_mk hb2_ len_id)
        clear hb2_ hg2_ hsz2_ HB HR
        have HB := HB_
        have HR := HX_
        clear HB_ HX_
        try clear w_
        rename World => w_
        go_wp2_with fail
        exact ret_cell2 rfl HRI.out HR.out.blk rfl HR.out.len rfl rfl ⟨by rw [HN.out, HZE.out]; rfl, HB.out⟩

set_option maxRecDepth 100000 in
set_option maxHeartbeats 2000000 in
theorem rclimb_any (A A2 : Option Addr) (n c n2 c2 : Nat) (b : List UInt8) (i N : Int) (ds : List (List UInt8)) {zs : List Value} (hz : Dig zs (climbD b i N ds)) (w : World) (hs : Sl w w.heap.size 1 A n (b.map B)) (hc : n ≤ c) (hn : n ≤ 1000000) (hi : Ids w A2 n2 c2 ds) (hn2 : n2 ≤ 9223372036854775807) :
    Calls Tryd.prog 44 #[.slice A n c, .int .i64 i, .int .i64 N, .slice A2 n2 c2] w fun e w' => e = .returned (.tuple #[.agg zs.toArray, .bool (climbT b i N ds).isSome]) ∧ Below w.heap.size w w' := by
  by_cases hbad : N < 1 ∨ 1048576 < N ∨ i < 0 ∨ N ≤ i
  · have HZ := Lib.hid hz
    have HB := Lib.hid (Below.refl w.heap.size w)
    have hrid := row_id
    have HRI := Lib.hid hrid
    clear hrid hs hi hz
    have HC := Lib.hid (show climbT b i N ds = none by unfold climbT; rw [if_pos hbad])
    have HZE := Lib.hid (show zs = List.replicate 32 (B 0) by have h := HZ.out.1; unfold climbD at h; rw [HC.out] at h; rw [h]; simp)
    have HG := Lib.hid (Nat.le_refl w.heap.size)
    by_cases c1 : N < 1
    · have g1 : decide (N < 1) = true := by simpa using c1
      go_enter Tryd.func44, Tryd.ntmps44
      go_wp2_with (first | (with_reducible refine wpl_alloc (o := ⟨some 8, _, _, _, _, _⟩) rfl rfl zero_id ?_))
      intro w2_ hb2_ hb_ hsz2_
      have HX_ := Lib.hid (at_mk hb2_ len_id)
      clear hb2_ hsz2_
      have HB_ := Lib.hid (HB.out.grow' hb_)
      clear HB
      have HB := HB_
      clear HB_
      have HR := HX_
      clear hb_ HX_
      try clear w_
      rename World => w_
      go_wp2_with (first | (refine wpl_storeb (o := ⟨none, .store _ _ _, _, _, _, _⟩) (cs := List.replicate 32 (B 0)) rfl rfl row_id HR.out.blk rfl rfl HR.out.len len_id ones0 ?_))
      intro w2_ hb2_ hg2_ hsz2_
      have HB_ := Lib.hid (put_below HB.out HG.out hg2_)
      have HX_ := Lib.hid (at_mk hb2_ len_id)
      clear hb2_ hg2_ hsz2_ HB HR
      have HB := HB_
      have HR := HX_
      clear HB_ HX_
      try clear w_
      rename World => w_
      go_wp2_with fail
      exact ret_cell2 rfl HRI.out HR.out.blk rfl HR.out.len rfl rfl ⟨by rw [HC.out, HZE.out]; rfl, HB.out⟩
    · have g1 : decide (N < 1) = false := by simpa using c1
      by_cases c2 : 1048576 < N
      · have g2 : decide (1048576 < N) = true := by simpa using c2
        go_enter Tryd.func44, Tryd.ntmps44
        go_wp2_with (first | (with_reducible refine wpl_alloc (o := ⟨some 8, _, _, _, _, _⟩) rfl rfl zero_id ?_))
        intro w2_ hb2_ hb_ hsz2_
        have HX_ := Lib.hid (at_mk hb2_ len_id)
        clear hb2_ hsz2_
        have HB_ := Lib.hid (HB.out.grow' hb_)
        clear HB
        have HB := HB_
        clear HB_
        have HR := HX_
        clear hb_ HX_
        try clear w_
        rename World => w_
        go_wp2_with (first | (refine wpl_storeb (o := ⟨none, .store _ _ _, _, _, _, _⟩) (cs := List.replicate 32 (B 0)) rfl rfl row_id HR.out.blk rfl rfl HR.out.len len_id ones0 ?_))
        intro w2_ hb2_ hg2_ hsz2_
        have HB_ := Lib.hid (put_below HB.out HG.out hg2_)
        have HX_ := Lib.hid (at_mk hb2_ len_id)
        clear hb2_ hg2_ hsz2_ HB HR
        have HB := HB_
        have HR := HX_
        clear HB_ HX_
        try clear w_
        rename World => w_
        go_wp2_with fail
        exact ret_cell2 rfl HRI.out HR.out.blk rfl HR.out.len rfl rfl ⟨by rw [HC.out, HZE.out]; rfl, HB.out⟩
      · have g2 : decide (1048576 < N) = false := by simpa using c2
        by_cases c3 : i < 0
        · have g3 : decide (i < 0) = true := by simpa using c3
          go_enter Tryd.func44, Tryd.ntmps44
          go_wp2_with (first | (with_reducible refine wpl_alloc (o := ⟨some 8, _, _, _, _, _⟩) rfl rfl zero_id ?_))
          intro w2_ hb2_ hb_ hsz2_
          have HX_ := Lib.hid (at_mk hb2_ len_id)
          clear hb2_ hsz2_
          have HB_ := Lib.hid (HB.out.grow' hb_)
          clear HB
          have HB := HB_
          clear HB_
          have HR := HX_
          clear hb_ HX_
          try clear w_
          rename World => w_
          go_wp2_with (first | (refine wpl_storeb (o := ⟨none, .store _ _ _, _, _, _, _⟩) (cs := List.replicate 32 (B 0)) rfl rfl row_id HR.out.blk rfl rfl HR.out.len len_id ones0 ?_))
          intro w2_ hb2_ hg2_ hsz2_
          have HB_ := Lib.hid (put_below HB.out HG.out hg2_)
          have HX_ := Lib.hid (at_mk hb2_ len_id)
          clear hb2_ hg2_ hsz2_ HB HR
          have HB := HB_
          have HR := HX_
          clear HB_ HX_
          try clear w_
          rename World => w_
          go_wp2_with fail
          exact ret_cell2 rfl HRI.out HR.out.blk rfl HR.out.len rfl rfl ⟨by rw [HC.out, HZE.out]; rfl, HB.out⟩
        · have g3 : decide (i < 0) = false := by simpa using c3
          have g4 : decide (N ≤ i) = true := by simp; omega
          go_enter Tryd.func44, Tryd.ntmps44
          go_wp2_with (first | (with_reducible refine wpl_alloc (o := ⟨some 8, _, _, _, _, _⟩) rfl rfl zero_id ?_))
          intro w2_ hb2_ hb_ hsz2_
          have HX_ := Lib.hid (at_mk hb2_ len_id)
          clear hb2_ hsz2_
          have HB_ := Lib.hid (HB.out.grow' hb_)
          clear HB
          have HB := HB_
          clear HB_
          have HR := HX_
          clear hb_ HX_
          try clear w_
          rename World => w_
          go_wp2_with (first | (refine wpl_storeb (o := ⟨none, .store _ _ _, _, _, _, _⟩) (cs := List.replicate 32 (B 0)) rfl rfl row_id HR.out.blk rfl rfl HR.out.len len_id ones0 ?_))
          intro w2_ hb2_ hg2_ hsz2_
          have HB_ := Lib.hid (put_below HB.out HG.out hg2_)
          have HX_ := Lib.hid (at_mk hb2_ len_id)
          clear hb2_ hg2_ hsz2_ HB HR
          have HB := HB_
          have HR := HX_
          clear HB_ HX_
          try clear w_
          rename World => w_
          go_wp2_with fail
          exact ret_cell2 rfl HRI.out HR.out.blk rfl HR.out.len rfl rfl ⟨by rw [HC.out, HZE.out]; rfl, HB.out⟩
  · obtain ⟨Nn, rfl⟩ : ∃ m : Nat, N = (m : Int) := ⟨N.toNat, by omega⟩
    obtain ⟨j, rfl⟩ : ∃ m : Nat, i = (m : Int) := ⟨i.toNat, by omega⟩
    exact rclimb_nat A n c b hc hn Nn Nn j n2 c2 A2 ds zs w (Nat.le_refl _) (by omega) (by omega) (by omega) hn2 hz hs hc hn hi
end Go.Proofs.YtlondennhhffdaaDoor

/- Layer 5: a leaf's path climbs to the root; a path of another length climbs nowhere. No program in sight. -/
namespace Go.Proofs.YtlondennhhffdaaDoor
open Go.RowKit Go.Shelf
set_option linter.unusedVariables false
attribute [local irreducible] nodeB leafB noneB

theorem climb_path : ∀ (N : Nat) (l : List (List UInt8)) (i : Nat) (x : List UInt8), l.length ≤ N → l[i]? = some x → climbB (leafB x) i l.length (pathB l i) = some (rootB l) := by
  intro N
  induction N with
  | zero =>
    intro l i x hl hx
    have := (List.getElem?_eq_some_iff.1 hx).1
    omega
  | succ N ih =>
    intro l i x hl hx
    have hi := (List.getElem?_eq_some_iff.1 hx).1
    by_cases h2 : l.length < 2
    · obtain ⟨y, rfl⟩ : ∃ y, l = [y] := by
        match l, hi with
        | [y], _ => exact ⟨y, rfl⟩
        | y :: z :: r, _ => simp only [List.length_cons] at h2; omega
      have hi0 : i = 0 := by simp only [List.length_cons, List.length_nil] at hi; omega
      subst hi0
      have hxy : y = x := by simpa using hx
      subst hxy
      rw [climbB_one _ _ _ _ h2, pathB_none _ _ (.inl h2), rootB_one]; rfl
    · have h2' : 2 ≤ l.length := by omega
      have hk1 := halfN_pos l.length
      have hk2 := halfN_lt h2'
      by_cases hik : i < halfN l.length
      · rw [pathB_left l i h2' hik, climbB_left _ _ _ _ (rootB (l.drop (halfN l.length))) h2' (by simp) hik, List.dropLast_concat, rootB_more l h2']
        have hlen : (l.take (halfN l.length)).length = halfN l.length := by rw [List.length_take]; omega
        have h := ih (l.take (halfN l.length)) i x (by omega) (by rw [List.getElem?_take_of_lt hik]; exact hx)
        rw [hlen] at h
        rw [h]; rfl
      · rw [pathB_right l i h2' hi hik, climbB_right _ _ _ _ (rootB (l.take (halfN l.length))) h2' (by simp) hik, List.dropLast_concat, rootB_more l h2']
        have hlen : (l.drop (halfN l.length)).length = l.length - halfN l.length := by rw [List.length_drop]
        have h := ih (l.drop (halfN l.length)) (i - halfN l.length) x (by omega) (by rw [List.getElem?_drop, show halfN l.length + (i - halfN l.length) = i by omega]; exact hx)
        rw [hlen] at h
        rw [h]; rfl
/-- How long a path is that climbs. -/
def depB (i n : Nat) : Nat := if h : n < 2 then 0 else 1 + if i < halfN n then depB i (halfN n) else depB (i - halfN n) (n - halfN n)
termination_by n
decreasing_by
  · exact halfN_lt (by omega)
  · have := halfN_pos n; omega
theorem depB_left {i n : Nat} (h : ¬ n < 2) (hk : i < halfN n) : depB i n = 1 + depB i (halfN n) := by rw [depB, dif_neg h, if_pos hk]
theorem depB_right {i n : Nat} (h : ¬ n < 2) (hk : ¬ i < halfN n) : depB i n = 1 + depB (i - halfN n) (n - halfN n) := by rw [depB, dif_neg h, if_neg hk]
theorem climb_dep : ∀ (N n i : Nat) (d : List UInt8) (p : List (List UInt8)), n ≤ N → ((climbB d i n p).isSome = true ↔ p.length = depB i n) := by
  intro N
  induction N with
  | zero =>
    intro n i d p hn
    rw [climbB_one _ _ _ _ (by omega), depB, dif_pos (by omega)]
    by_cases hp : p = []
    · subst hp; simp
    · rw [if_neg hp]
      have : p.length ≠ 0 := fun h => hp (List.eq_nil_of_length_eq_zero h)
      simpa using this
  | succ N ih =>
    intro n i d p hn
    by_cases h2 : n < 2
    · rw [climbB_one _ _ _ _ h2, depB, dif_pos h2]
      by_cases hp : p = []
      · subst hp; simp
      · rw [if_neg hp]
        have : p.length ≠ 0 := fun h => hp (List.eq_nil_of_length_eq_zero h)
        simpa using this
    · have hk1 := halfN_pos n
      have hk2 := halfN_lt (show 2 ≤ n by omega)
      cases hl : p.getLast? with
      | none =>
        have hp : p = [] := by simpa using hl
        subst hp
        rw [climbB_nil _ _ _ (by omega), depB, dif_neg h2]
        simp only [Option.isSome_none, List.length_nil]
        constructor
        · intro h; cases h
        · intro h; omega
      | some last =>
        have hpl : p.length = p.dropLast.length + 1 := by
          have : p ≠ [] := fun h => by subst h; simp at hl
          have : 0 < p.length := List.length_pos_iff.2 this
          rw [List.length_dropLast]; omega
        by_cases hik : i < halfN n
        · rw [climbB_left _ _ _ _ last (by omega) hl hik, Option.isSome_map, ih _ _ _ _ (by omega), depB_left h2 hik]
          omega
        · rw [climbB_right _ _ _ _ last (by omega) hl hik, Option.isSome_map, ih _ _ _ _ (by omega), depB_right h2 hik]
          omega
/-- As the laws ask it. -/
theorem climbT_path {l : List (List UInt8)} {i : Nat} {x : List UInt8} (hx : l[i]? = some x) (hl : l.length ≤ 1048576) : climbT x i l.length (pathI l i) = some (rootB l) := by
  have hi := (List.getElem?_eq_some_iff.1 hx).1
  rw [climbT_nat hi hl, pathI_nat]
  exact climb_path l.length l i x (Nat.le_refl _) hx
theorem climbT_short {l : List (List UInt8)} {i : Nat} {x y : List UInt8} {q : List (List UInt8)} (hx : l[i]? = some x) (hl : l.length ≤ 1048576) (hq : q.length ≠ (pathI l i).length) : climbT y i l.length q = none := by
  have hi := (List.getElem?_eq_some_iff.1 hx).1
  have h1 := climbT_path hx hl
  rw [climbT_nat hi hl] at h1 ⊢
  have h2 := (climb_dep l.length l.length i (leafB x) (pathI l i) (Nat.le_refl _)).1 (by rw [h1]; rfl)
  have h3 := climb_dep l.length l.length i (leafB y) q (Nat.le_refl _)
  cases h : climbB (leafB y) i l.length q with
  | none => rfl
  | some z => exact absurd (h3.1 (by rw [h]; rfl)) (by rw [← h2]; exact hq)
theorem climbD_of {b : List UInt8} {i n : Int} {p : List (List UInt8)} {r : List UInt8} (h : climbT b i n p = some r) : climbD b i n p = r := by unfold climbD; rw [h]; rfl
end Go.Proofs.YtlondennhhffdaaDoor

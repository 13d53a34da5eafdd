/- The document's Has and Same of requests. Printed by mkqr.py. -/
import Derived.Test.YtmchpopllhnahaaQO
namespace Go.Proofs.Ytmchpopllhnahaa
open Go.RowKit
set_option linter.unusedVariables false
set_option maxRecDepth 100000 in
set_option maxHeartbeats 1000000 in
theorem bytes1_any {res : Bool} {A A2 : Option Addr} {n c n2 c2 : Nat} {xs ys : List UInt8} (hres : decide (xs = ys) = res) (w : World) (h1 : Sl w w.heap.size 1 A n (xs.map B)) (h2 : Sl w w.heap.size 1 A2 n2 (ys.map B)) (hn : n ≤ 1000000) :
    Calls Try.prog 43 #[.slice A n c, .slice A2 n2 c2] w fun e w' => e = .returned (.bool res) ∧ Below w.heap.size w w' := by
  have H1 := Lib.hid h1; have H2 := Lib.hid h2
  have HL1 := Lib.hid (show xs.length = n by have := h1.len; simpa using this)
  have HL2 := Lib.hid (show ys.length = n2 by have := h2.len; simpa using this)
  have HRES := Lib.hid hres
  clear h1 h2 hres
  by_cases hnn : n = n2
  · subst hnn
    have z1 : ((n : Int) != (n : Int)) = false := by simp
    go_enter Try.func43, Try.ntmps43
    go_wp2_with fail
    go_loopw [5] (fun i wr => ∃ k : Nat, k ≤ n ∧ i = .int .i64 k ∧ Hid (xs.take k = ys.take k) ∧ Hid (Below w.heap.size w wr)) (fun i _ => n - (intOf i).toNat)
    case atStart => exact ⟨0, by omega, rfl, Lib.hid (by simp), Lib.hid (Below.refl _ _)⟩
    case round =>
      obtain ⟨k, hk, rfl, heq, hbw⟩ := hrel
      by_cases hlt : k < n
      · have HB := hbw
        have H1A := Lib.hid ((H1.out.below HB.out).more HB.out.size)
        have H2A := Lib.hid ((H2.out.below HB.out).more HB.out.size)
        obtain ⟨x, hx⟩ : ∃ x, xs[k]? = some x := ⟨_, List.getElem?_eq_getElem (by rw [HL1.out]; exact hlt)⟩
        obtain ⟨y, hy⟩ : ∃ y, ys[k]? = some y := ⟨_, List.getElem?_eq_getElem (by rw [HL2.out]; exact hlt)⟩
        have HX := Lib.hid hx; have HY := Lib.hid hy
        clear hx hy
        by_cases hxy : x = y
        · subst hxy
          try go_wp2_with fail
          repeat' (first | (with_reducible refine wp_plan (id := 6) Grow [0,0,0,2,0,0,0,2,0] (.get 0 (.get 1 (.get 2 (.get 3 (.get 4 (.get 5 (.get 6 (.get 7 (.get 8 .done))))))))) (by kernel_rfl) (by kernel_rfl) Grow.refl Grow.trans ?_) | go_values | go_skip | go_guarded | go_step | go_upon | go_back)
          intro w_ hd_
          have hb_ := hd_.grow
          have HB_ := Lib.hid (HB.out.grow' hb_)
          clear HB
          have HB := HB_
          clear HB_
          have H1A_ := Lib.hid (H1A.out.grow hb_)
          clear H1A
          have H1A := H1A_
          clear H1A_
          have H2A_ := Lib.hid (H2A.out.grow hb_)
          clear H2A
          have H2A := H2A_
          clear H2A_
          clear hb_ hd_
          obtain ⟨b1, o1, u1, rfl, hb1, hu1, hc1⟩ := H1A.out.at_ hlt
          obtain ⟨b2, o2, u2, rfl, hb2, hu2, hc2⟩ := H2A.out.at_ hlt
          obtain rfl : u1 = .int .u8 (b8 x) := by rw [List.getElem?_map, HX.out] at hu1; exact (Option.some.inj hu1).symm
          obtain rfl : u2 = .int .u8 (b8 x) := by rw [List.getElem?_map, HY.out] at hu2; exact (Option.some.inj hu2).symm
          clear hb1 hb2 hu1 hu2
          repeat (first | (refine pl_calm rfl rfl (by first | exact wanted_none rfl | (go_simp; done) | rfl) (fun w_ => by first | (go_simp; rfl) | (go_simp; done) | rfl) (fun K hK => ?_); go_simp; refine hK _ _ ?_; clear hK K) | (refine pl_skip rfl (by first | (go_simp; done) | rfl) (fun K hK => ?_); go_simp; refine hK _ _ ?_; clear hK K) | (refine pl_skipa rfl (by first | (go_simp; done) | rfl) (fun K hK => ?_); go_simp; refine hK _ _ ?_; clear hK K) | (refine pl_load rfl rfl (by first | exact wanted_none rfl | (go_simp; done) | rfl) rfl (by first | rfl | (go_simp; rfl)) (by kernel_rfl) (by first | exact hc1 | exact hc2) (fun K hK => ?_); go_simp; refine hK _ _ ?_; clear hK K) | (refine pl_loadnow rfl rfl (by first | exact wanted_none rfl | (go_simp; done) | rfl) rfl (by first | rfl | (go_simp; rfl)) (by kernel_rfl) (by first | exact hc1 | exact hc2) (fun K hK => ?_); go_simp; refine hK _ _ ?_; clear hK K))
          refine pl_done ?_
          clear hc1 hc2
          have HE := Lib.hid (show xs.take (k + 1) = ys.take (k + 1) by rw [List.take_add_one, List.take_add_one, heq.out, HX.out, HY.out])
          go_wp2_with fail
          go_roundw
          case rel => exact ⟨k + 1, by omega, by go_num, HE, HB⟩
          case measure => simp [intOf]; omega
        · have hbb : ((b8 x) != (b8 y)) = true := by
            have : b8 x ≠ b8 y := fun h => hxy (b8_inj h)
            simpa using this
          have HF := Lib.hid (show res = false by
            rw [← HRES.out]
            have : xs ≠ ys := fun h => by
              subst h
              have h1 := HX.out
              rw [HY.out] at h1
              exact hxy (Option.some.inj h1).symm
            simpa using this)
          have hne : b8 x ≠ b8 y := fun h => hxy (b8_inj h)
          have hq := eq_false hne
          clear hxy
          try go_wp2_with fail
          repeat' (first | (with_reducible refine wp_plan (id := 6) Grow [0,0,0,2,0,0,0,2,0] (.get 0 (.get 1 (.get 2 (.get 3 (.get 4 (.get 5 (.get 6 (.get 7 (.get 8 .done))))))))) (by kernel_rfl) (by kernel_rfl) Grow.refl Grow.trans ?_) | go_values | go_skip | go_guarded | go_step | go_upon | go_back)
          intro w_ hd_
          have hb_ := hd_.grow
          have HB_ := Lib.hid (HB.out.grow' hb_)
          clear HB
          have HB := HB_
          clear HB_
          have H1A_ := Lib.hid (H1A.out.grow hb_)
          clear H1A
          have H1A := H1A_
          clear H1A_
          have H2A_ := Lib.hid (H2A.out.grow hb_)
          clear H2A
          have H2A := H2A_
          clear H2A_
          clear hb_ hd_
          obtain ⟨b1, o1, u1, rfl, hb1, hu1, hc1⟩ := H1A.out.at_ hlt
          obtain ⟨b2, o2, u2, rfl, hb2, hu2, hc2⟩ := H2A.out.at_ hlt
          obtain rfl : u1 = .int .u8 (b8 x) := by rw [List.getElem?_map, HX.out] at hu1; exact (Option.some.inj hu1).symm
          obtain rfl : u2 = .int .u8 (b8 y) := by rw [List.getElem?_map, HY.out] at hu2; exact (Option.some.inj hu2).symm
          clear hb1 hb2 hu1 hu2
          repeat (first | (refine pl_calm rfl rfl (by first | exact wanted_none rfl | (go_simp; done) | rfl) (fun w_ => by first | (go_simp; rfl) | (go_simp; done) | rfl) (fun K hK => ?_); go_simp; refine hK _ _ ?_; clear hK K) | (refine pl_skip rfl (by first | (go_simp; done) | rfl) (fun K hK => ?_); go_simp; refine hK _ _ ?_; clear hK K) | (refine pl_skipa rfl (by first | (go_simp; done) | rfl) (fun K hK => ?_); go_simp; refine hK _ _ ?_; clear hK K) | (refine pl_load rfl rfl (by first | exact wanted_none rfl | (go_simp; done) | rfl) rfl (by first | rfl | (go_simp; rfl)) (by kernel_rfl) (by first | exact hc1 | exact hc2) (fun K hK => ?_); go_simp; refine hK _ _ ?_; clear hK K) | (refine pl_loadnow rfl rfl (by first | exact wanted_none rfl | (go_simp; done) | rfl) rfl (by first | rfl | (go_simp; rfl)) (by kernel_rfl) (by first | exact hc1 | exact hc2) (fun K hK => ?_); go_simp; refine hK _ _ ?_; clear hK K))
          refine pl_done ?_
          clear hc1 hc2
          go_wp2_with fail
          go_ret
          exact ⟨by rw [HF.out]; rfl, HB.out⟩
      · obtain rfl : k = n := by omega
        have HT := Lib.hid (show res = true by
          rw [← HRES.out]
          have h := heq.out
          rw [List.take_of_length_le (by rw [HL1.out]; exact Nat.le_refl _), List.take_of_length_le (by rw [HL2.out]; exact Nat.le_refl _)] at h
          simpa using h)
        go_wp2_with fail
        go_ret
        exact ⟨by rw [HT.out]; rfl, hbw.out⟩
  · have z1 : ((n : Int) != (n2 : Int)) = true := by simp; omega
    have HF := Lib.hid (show res = false by
      rw [← HRES.out]
      have : xs ≠ ys := fun h => by subst h; exact hnn (by rw [← HL1.out, ← HL2.out])
      simpa using this)
    have hz : ¬ ((n : Int) = (n2 : Int)) := by omega
    have hzq := eq_false hz
    go_enter Try.func43, Try.ntmps43
    go_wp2_with fail
    go_ret
    exact ⟨by rw [HF.out]; rfl, Below.refl _ _⟩
set_option maxRecDepth 100000 in
set_option maxHeartbeats 2000000 in
theorem rhas_any {w : World} {M : List Nat} {A : Option Addr} {n c : Nat} {L : List (Value × Wt)} (h : XAt w M A n L) (hn : n ≤ 1000) (cc nn : Int) :
    Calls Try.prog 24 #[.slice A n c, .int .i64 cc, .int .i64 nn] w fun e w' => e = .returned (.bool (hasP (L.map Prod.snd) cc nn)) ∧ w = w' := by
  have HX := Lib.hid h
  obtain ⟨th, hth⟩ : ∃ q, q = hasP (L.map Prod.snd) cc nn := ⟨_, rfl⟩
  have HTH := Lib.hid hth
  rw [← hth]
  clear hth h
  go_enter Try.func24, Try.ntmps24
  go_wp2_with fail
  go_loopw [7] (fun iv wr => ∃ k : Nat, k ≤ n ∧ iv = .int .i64 k ∧ Hid (hasP ((L.take k).map Prod.snd) cc nn = false) ∧ wr = w) (fun iv _ => n - (intOf iv).toNat)
  case atStart => exact ⟨0, by omega, rfl, Lib.hid (by simp [hasP]), rfl⟩
  case round =>
    obtain ⟨k, hk, rfl, hnot, rfl⟩ := hrel
    by_cases hlt : k < n
    · obtain ⟨b, off, p, rfl, hp, hc, _, _⟩ := HX.out.at_ hlt
      have c0 : wr.cell? ⟨b, off + k * 4, none⟩ = some (.int .i64 p.2.cl) := hc 0 _ rfl
      have c1 : wr.cell? ⟨b, off + k * 4 + 1, none⟩ = some (.int .i64 p.2.num) := hc 1 _ rfl
      have HSN := Lib.hid (show hasP ((L.take (k + 1)).map Prod.snd) cc nn = (hasP ((L.take k).map Prod.snd) cc nn || isHas cc nn p.2) by
        rw [take_snoc hp, List.map_append]; unfold hasP; rw [List.any_append]; simp)
      have HME := Lib.hid (show p.2 ∈ L.map Prod.snd from List.mem_map_of_mem (List.mem_of_getElem? hp))
      obtain ⟨b1, hb1⟩ : ∃ q, (p.2.cl == cc) = q := ⟨_, rfl⟩
      obtain ⟨b2, hb2⟩ : ∃ q, (p.2.num == nn) = q := ⟨_, rfl⟩
      have HIS := Lib.hid (show isHas cc nn p.2 = (b1 && b2) by unfold isHas; rw [hb1, hb2])
      have v1 : IntKind.i64.wrap ((k : Int) + 1) = (k : Int) + 1 := IntWalk.i64_in _ (by omega)
      clear hp hc
      obtain ⟨x1, hx1⟩ : ∃ q, q = p.2.cl := ⟨_, rfl⟩
      obtain ⟨x2, hx2⟩ : ∃ q, q = p.2.num := ⟨_, rfl⟩
      rw [← hx1] at c0 hb1
      rw [← hx2] at c1 hb2
      clear hx1 hx2
      cases b1
      · have HNX := Lib.hid (show hasP ((L.take (k + 1)).map Prod.snd) cc nn = false by rw [HSN.out, hnot.out, HIS.out]; rfl)
        go_wp2_with fail
        go_roundw
        all_goals clear v1
        case rel => exact ⟨k + 1, by omega, by go_num, HNX, by first | trivial | rfl⟩
        case measure => simp [intOf]; omega
      · cases b2
        · have HNX := Lib.hid (show hasP ((L.take (k + 1)).map Prod.snd) cc nn = false by rw [HSN.out, hnot.out, HIS.out]; rfl)
          go_wp2_with fail
          go_roundw
          all_goals clear v1
          case rel => exact ⟨k + 1, by omega, by go_num, HNX, by first | trivial | rfl⟩
          case measure => simp [intOf]; omega
        · have HT := Lib.hid (show th = true by rw [HTH.out]; unfold hasP; exact List.any_eq_true.2 ⟨_, HME.out, HIS.out⟩)
          clear v1
          go_wp2_with fail
          go_ret
          exact ⟨by rw [HT.out]; rfl, rfl⟩
    · obtain rfl : k = n := by omega
      have HT := Lib.hid (show th = false by have h := hnot.out; rw [List.take_of_length_le (by rw [HX.out.1]; exact Nat.le_refl _)] at h; rw [HTH.out, h])
      go_wp2_with fail
      go_ret
      exact ⟨by rw [HT.out]; rfl, rfl⟩
set_option maxRecDepth 100000 in
set_option maxHeartbeats 4000000 in
theorem rsameL_any {w : World} {M M2 : List Nat} {A A2 : Option Addr} {n c c2 : Nat} {L L2 : List (Value × Wt)} (h : XAt w M A n L) (h2 : XAt w M2 A2 n L2) (he : L.map Prod.snd = L2.map Prod.snd) (hn : n ≤ 1000) :
    Calls Try.prog 23 #[.slice A n c, .slice A2 n c2] w fun e w' => e = .returned (.bool true) ∧ Grow w w' := by
  have HX := Lib.hid h; have HY := Lib.hid h2
  have HE := Lib.hid (fun k => show (L[k]?).map Prod.snd = (L2[k]?).map Prod.snd by rw [← List.getElem?_map, ← List.getElem?_map, he])
  obtain ⟨w_, hw⟩ : ∃ x, x = w := ⟨_, rfl⟩
  have HB := Lib.hid (show Below w.heap.size w w_ by rw [hw]; exact Below.refl _ _)
  suffices H : Calls Try.prog 23 #[.slice A n c, .slice A2 n c2] w_ fun e w' => e = .returned (.bool true) ∧ Grow w w' by rw [hw] at H; exact H
  clear hw h h2 he
  have z1 : ((n : Int) != (n : Int)) = false := by simp
  go_enter Try.func23, Try.ntmps23
  go_wp2_with fail
  go_loopw [5] (fun iv wr => ∃ k : Nat, k ≤ n ∧ iv = .int .i64 k ∧ Hid (Below w.heap.size w wr)) (fun iv _ => n - (intOf iv).toNat)
  case atStart => exact ⟨0, by omega, rfl, HB⟩
  case round =>
    obtain ⟨k, hk, rfl, hI⟩ := hrel
    clear HB
    have HB := hI
    clear hI
    rename World => w_
    by_cases hlt : k < n
    · have HXA := Lib.hid (HX.out.grow HB.out); have HXB := Lib.hid (HY.out.grow HB.out)
      try go_wp2_with fail
      repeat' (first | (with_reducible refine wp_flow (id := 6) [0,0,3,7,15,0,0,96,224,480,1023,2047,4095,4095,16383,32767,65535,4095,4095,397311,921599,1970175,4194303,8388607,16777215,33554431,33554431,134217727,268435455,536870911,33554431,33554431,3254779903,7549747199,16139681791,34359738367,68719476735,137438953471,274877906943,549755813887,549755813887,2199023255551,4398046511103,8796093022207,549755813887,549755813887,53326313947135,123695058124799,264432546480127,562949953421311,1125899906842623,2251799813685247] [0,0,0,0,0,0,0,0,0,0,0,0,0,0,0,0,0,0,0,0,0,0,0,0,0,0,0,0,0,0,0,0,0,0,0,3,0,0,0,0,0,0,0,0,0,0,0,0,0,3,0,0] (fun i => match i with | 35 => spV (.bool true) | 49 => spV (.bool true) | _ => spV undef) (by kernel_rfl) (by kernel_rfl) ?_) | go_values | go_skip | go_guarded | go_step | go_upon | go_back)
      intro w_ hd_
      have hb_ := hd_.grow
      have HB_ := Lib.hid (HB.out.grow' hb_)
      clear HB
      have HB := HB_
      clear HB_
      have HXA_ := Lib.hid (HXA.out.grow hb_)
      clear HXA
      have HXA := HXA_
      clear HXA_
      have HXB_ := Lib.hid (HXB.out.grow hb_)
      clear HXB
      have HXB := HXB_
      clear HXB_
      clear hb_ hd_
      show wpL _ _ _ _ _ _ _ [0,1,2,3,4,5,6,7,8,9,10,11,12,13,14,15,16,17,18,19,20,21,22,23,24,25,26,27,28,29,30,31,32,33,34,35,36,37,38,39,40,41,42,43,44,45,46,47,48,49,50,51] _ _
      obtain ⟨b1, o1, p, rfl, hp, hc1, hb1, hk1⟩ := HXA.out.at_ hlt
      obtain ⟨b2, o2, q, rfl, hq, hc2, hb2, hk2⟩ := HXB.out.at_ hlt
      have hpq : p.2 = q.2 := by have h := HE.out k; rw [hp, hq] at h; exact Option.some.inj h
      obtain ⟨A3, n3, c3, e3, hn3, hs3, _⟩ := hb1
      obtain ⟨A4, n4, c4, e4, hn4, hs4, _⟩ := hb2
      have a0 : w_.cell? ⟨b1, o1 + k * 4, none⟩ = some (.int .i64 p.2.cl) := hc1 0 _ rfl
      have a1 : w_.cell? ⟨b1, o1 + k * 4 + 1, none⟩ = some (.int .i64 p.2.num) := hc1 1 _ rfl
      have a2 : w_.cell? ⟨b1, o1 + k * 4 + 2, none⟩ = some (.float .f64 p.2.rate) := hc1 2 _ rfl
      have a3 : w_.cell? ⟨b1, o1 + k * 4 + 3, none⟩ = some (.slice A3 n3 c3) := (hc1 3 _ rfl).trans (by rw [e3])
      have d0 : w_.cell? ⟨b2, o2 + k * 4, none⟩ = some (.int .i64 p.2.cl) := (hc2 0 _ rfl).trans (by rw [hpq])
      have d1 : w_.cell? ⟨b2, o2 + k * 4 + 1, none⟩ = some (.int .i64 p.2.num) := (hc2 1 _ rfl).trans (by rw [hpq])
      have d2 : w_.cell? ⟨b2, o2 + k * 4 + 2, none⟩ = some (.float .f64 p.2.rate) := (hc2 2 _ rfl).trans (by rw [hpq])
      have d3 : w_.cell? ⟨b2, o2 + k * 4 + 3, none⟩ = some (.slice A4 n4 c4) := (hc2 3 _ rfl).trans (by rw [e4])
      have HSM := Lib.hid (show ∀ w, Calls Try.prog 12 #[.float .f64 p.2.rate, .float .f64 p.2.rate] w fun e w' => e = .returned (.bool true) ∧ Below w.heap.size w w' from fun w => by
        refine (rsame_any p.2.rate p.2.rate w hk1.1 hk1.1).mono ?_
        rintro e w' ⟨h1, rfl⟩
        exact ⟨by rw [h1]; simp [sameF], Below.refl _ _⟩)
      rw [← hpq] at hs4
      have HBY := Lib.hid (fun w2 (hg : Grow w_ w2) => bytes1_any (A := A3) (A2 := A4) (c := c3) (c2 := c4) (res := true) (by simp) w2 (hs3.grow hg) (hs4.grow hg) (by rw [hn3]; have := hk1.2; omega))
      have HA3 := Lib.hid a3; have HD3 := Lib.hid d3
      have HR0 := Lib.hid (Grow.refl w_)
      obtain ⟨xc, hxc⟩ : ∃ z, z = p.2.cl := ⟨_, rfl⟩
      obtain ⟨xn, hxn⟩ : ∃ z, z = p.2.num := ⟨_, rfl⟩
      obtain ⟨xr, hxr⟩ : ∃ z, z = p.2.rate := ⟨_, rfl⟩
      rw [← hxc] at a0 d0
      rw [← hxn] at a1 d1
      rw [← hxr] at a2 d2 HSM
      clear hp hq hc1 hc2 hpq e3 e4 hs3 hs4 hn3 hn4 hk1 hk2 hxc hxn hxr
      have z2 : (xc != xc) = false := by simp
      have z3 : (xn != xn) = false := by simp
      repeat (first | (refine fl_calm rfl (by decide) (by first | exact wanted_none rfl | (go_simp; done) | fail) (fun w_ _ _ => by first | (go_simp; rfl) | (go_simp; done) | rfl) (fun K hK => ?_); go_simp; refine hK _ ?_; clear hK K) | (refine fl_skip rfl (by first | (go_simp; done) | fail) (fun K hK => ?_); go_simp; refine hK _ ?_; clear hK K) | (refine fl_load rfl (by decide) (by first | exact wanted_none rfl | (go_simp; done) | fail) rfl (by first | rfl | (go_simp; rfl)) (by kernel_rfl) (by first | exact a0 | exact a1 | exact a2 | exact a3 | exact d0 | exact d1 | exact d2 | exact d3) (fun K hK => ?_); go_simp; refine hK _ ?_; clear hK K))
      refine fl_callv rfl (by kernel_rfl) rfl (by first | exact wanted_none rfl | (go_simp; done) | fail) (fun w_ => by first | (go_simp; exact ⟨rfl, rfl⟩) | (go_simp; rfl) | (go_simp; exact ⟨⟨rfl, rfl, rfl⟩, rfl⟩)) (fun w2_ hg_ hL_ => ?_) (fun K hK => ?_)
      · skip
        exact HSM.out _
      go_simp
      refine hK _ ?_
      clear hK K
      repeat (first | (refine fl_calm rfl (by decide) (by first | exact wanted_none rfl | (go_simp; done) | fail) (fun w_ _ _ => by first | (go_simp; rfl) | (go_simp; done) | rfl) (fun K hK => ?_); go_simp; refine hK _ ?_; clear hK K) | (refine fl_skip rfl (by first | (go_simp; done) | fail) (fun K hK => ?_); go_simp; refine hK _ ?_; clear hK K) | (refine fl_load rfl (by decide) (by first | exact wanted_none rfl | (go_simp; done) | fail) rfl (by first | rfl | (go_simp; rfl)) (by kernel_rfl) (by first | exact a3 | exact d3) (fun K hK => ?_); go_simp; refine hK _ ?_; clear hK K))
      refine fl_callv rfl (by kernel_rfl) rfl (by first | exact wanted_none rfl | (go_simp; done) | fail) (fun w_ => by first | (go_simp; exact ⟨rfl, rfl⟩) | (go_simp; rfl) | (go_simp; exact ⟨⟨rfl, rfl, rfl⟩, rfl⟩)) (fun w2_ hg_ hL_ => ?_) (fun K hK => ?_)
      · skip
        exact HBY.out _ hg_
      go_simp
      refine hK _ ?_
      clear hK K
      repeat (first | (refine fl_calm rfl (by decide) (by first | exact wanted_none rfl | (go_simp; done) | fail) (fun w_ _ _ => by first | (go_simp; rfl) | (go_simp; done) | rfl) (fun K hK => ?_); go_simp; refine hK _ ?_; clear hK K) | (refine fl_skip rfl (by first | (go_simp; done) | fail) (fun K hK => ?_); go_simp; refine hK _ ?_; clear hK K))
      refine fl_done ?_
      intro w2_ hg_ hL_
      replace HB := Lib.hid (HB.out.grow' hg_)
      clear hg_ hL_
      try clear w_
      rename World => w_
      clear a0 a1 a2 a3 d0 d1 d2 d3 z2 z3
      have v1 : IntKind.i64.wrap ((k : Int) + 1) = (k : Int) + 1 := IntWalk.i64_in _ (by omega)
      go_wp2_with fail
      go_roundw
      all_goals clear v1
      case rel => exact ⟨k + 1, by omega, by go_num, HB⟩
      case measure => simp [intOf]; omega
    · obtain rfl : k = n := by omega
      go_wp2_with fail
      go_ret
      exact ⟨rfl, HB.out⟩
end Go.Proofs.Ytmchpopllhnahaa

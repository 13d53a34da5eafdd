/- The contract of the document's Check. Printed by mkrchk.py. -/
import Derived.Test.YtobmldegjajocaaCommandSameT16
import Derived.Test.YtobmldegjajocaaCommandSameT7
import Derived.Deep.CutBlock
import Derived.Deep.CutRange
set_option linter.unusedSimpArgs false
/- The contract of the document's Check. Printed by mkrchk.py. -/
namespace Go.Proofs.Ytobmldegjajocaa
open Go.RowKit Go.Shelf
set_option linter.unusedVariables false
theorem pt_eq {x y : List UInt8 × Int} (hx : ptKO x) (hy : ptKO y) : ∃ r : Bool, (r = true ↔ x = y) ∧ ∀ w, (Op.equalIn 10000 103 (.agg (ptKV x).toArray) (.agg (ptKV y).toArray)).run Try.prog w = .ok r w := by
  obtain ⟨n4, hn4⟩ := types_3
  obtain ⟨r, hr, hq⟩ := eql_deep key_pt (m := 3) (by omega) (by kernel_rfl) (by kernel_rfl) (by kernel_rfl) (ptKV x) (ptKV y) (by rw [ptKV_len hx, cells_point]) (by rw [ptKV_len hy, cells_point]) (by rw [hn4]; exact lits_pt (n4 + 1) _ hx) (by rw [hn4]; exact lits_pt (n4 + 1) _ hy)
  exact ⟨r, hr.trans ⟨fun h => ptKA_inj hx.1 hy.1 (by unfold ptKA; rw [h]), fun h => by rw [h]⟩, hq⟩
end Go.Proofs.Ytobmldegjajocaa
/- Contracts: slices.Equal of bytes, of outs. Printed by mktsame.py. -/
namespace Go.Proofs.Ytobmldegjajocaa
open Go.RowKit Go.Shelf
set_option linter.unusedVariables false
theorem outV_inj {x y : Outp} (hx : x.ok) (hy : y.ok) (h : outV x = outV y) : x = y := by
  unfold outV at h
  have h3 := List.append_inj h (by simp [hx.1, hy.1])
  have h4 := map_B_injT h3.1
  obtain ⟨o1, a1⟩ := x; obtain ⟨o2, a2⟩ := y
  have h5 : a1 = a2 := by simpa using h3.2
  rw [show o1 = o2 from h4, h5]
theorem lits_out (d : Nat) (x : Outp) (h : x.ok) : ∃ l, Try.prog.keyLits (d + 3) 31 (outV x) = some l := by
  refine kl_struct Try.underlying31 _ _ (by rw [outV_len h, cells_tout]) (by kernel_rfl) ?_
  have e0 : (x.owner.map B).length = 32 := by rw [List.length_map, h.1]
  intro f hf
  simp only [List.mem_cons, List.not_mem_nil, or_false] at hf
  rcases hf with rfl | rfl
  · have : List.take 32 (List.drop 0 (outV x)) = x.owner.map B := by unfold outV; rw [List.drop_zero, List.take_append_of_le_length (by omega), List.take_of_length_le (by omega)]
    simp only [cells_id, this]; exact lits_id _ _ h.1
  · have : List.take 1 (List.drop 32 (outV x)) = [.int .u64 x.amount] := by unfold outV; rw [List.drop_append_of_le_length (by omega), List.drop_of_length_le (by omega)]; rfl
    simp only [cells_u64, this]; exact kl_int Try.underlying24 _ _ h.2.wf
theorem key_out : WideMaps.KeyLaw Try.prog 31 := deep_law_laid laid_out' (m := 3) (by omega) (of_decide_eq_true (by kernel_rfl)) (by kernel_rfl) (by kernel_rfl)
theorem out_eq {x y : Outp} (hx : x.ok) (hy : y.ok) : ∃ r : Bool, (r = true ↔ x = y) ∧ ∀ w, (Op.equalIn 10000 31 (.agg (outV x).toArray) (.agg (outV y).toArray)).run Try.prog w = .ok r w := by
  obtain ⟨n4, hn4⟩ := types_3
  obtain ⟨r, hr, hq⟩ := eql_deep key_out (m := 3) (by omega) (by kernel_rfl) (by kernel_rfl) (by kernel_rfl) (outV x) (outV y) (by rw [outV_len hx, cells_tout]) (by rw [outV_len hy, cells_tout]) (by rw [hn4]; exact lits_out (n4 + 1) _ hx) (by rw [hn4]; exact lits_out (n4 + 1) _ hy)
  exact ⟨r, hr.trans ⟨fun h => outV_inj hx hy h, fun h => by rw [h]⟩, hq⟩
set_option maxRecDepth 100000 in
set_option maxHeartbeats 1000000 in
theorem sbytes_any {res : Bool} {A A2 : Option Addr} {n c n2 c2 : Nat} {xs ys : List UInt8} (hres : decide (xs = ys) = res) (w : World) (h1 : Sl w w.heap.size 1 A n (xs.map B)) (h2 : Sl w w.heap.size 1 A2 n2 (ys.map B)) (hn : n ≤ 1000000) :
    Calls Try.prog 88 #[.slice A n c, .slice A2 n2 c2] w fun e w' => e = .returned (.bool res) ∧ Below w.heap.size w w' := by
  have H1 := Lib.hid h1; have H2 := Lib.hid h2
  have HL1 := Lib.hid (show xs.length = n by have := h1.len; simpa using this)
  have HL2 := Lib.hid (show ys.length = n2 by have := h2.len; simpa using this)
  have HRES := Lib.hid hres
  clear h1 h2 hres
  by_cases hnn : n = n2
  · subst hnn
    have z1 : ((n : Int) != (n : Int)) = false := by simp
    go_enter Try.func88, Try.ntmps88
    go_wp2_with fail
    go_loopw [13] (fun i wr => ∃ k : Nat, k ≤ n ∧ i = .int .i64 k ∧ Hid (xs.take k = ys.take k) ∧ Hid (Below w.heap.size w wr)) (fun i _ => n - (intOf i).toNat)
    case atStart => exact ⟨0, by omega, rfl, Lib.hid (by simp), Lib.hid (Below.refl _ _)⟩
    case round =>
      obtain ⟨k, hk, rfl, heq, hbw⟩ := hrel
      by_cases hlt : k < n
      · have HB := hbw
        have H1A := Lib.hid ((H1.out.below HB.out).more HB.out.size)
        have H2A := Lib.hid ((H2.out.below HB.out).more HB.out.size)
        obtain ⟨x, hx⟩ : ∃ x, xs[k]? = some x := ⟨_, List.getElem?_eq_getElem (by rw [HL1.out]; exact hlt)⟩
        obtain ⟨y, hy⟩ : ∃ y, ys[k]? = some y := ⟨_, List.getElem?_eq_getElem (by rw [HL2.out]; exact hlt)⟩
        have HX := Lib.hid hx; have HY := Lib.hid hy
        clear hx hy
        by_cases hxy : x = y
        · subst hxy
          try go_wp2_with fail
          repeat' (first | (with_reducible refine wp_plan (id := 6) Grow [0,0,0,2,0,0,0,2,0] (.get 0 (.get 1 (.get 2 (.get 3 (.get 4 (.get 5 (.get 6 (.get 7 (.get 8 .done))))))))) (by kernel_rfl) (by kernel_rfl) Grow.refl Grow.trans ?_) | go_values | go_skip | go_guarded | go_step | go_upon | go_back)
          intro w_ hd_
          have hb_ := hd_.grow
          have HB_ := Lib.hid (HB.out.grow' hb_)
          clear HB
          have HB := HB_
          clear HB_
          have H1A_ := Lib.hid (H1A.out.grow hb_)
          clear H1A
          have H1A := H1A_
          clear H1A_
          have H2A_ := Lib.hid (H2A.out.grow hb_)
          clear H2A
          have H2A := H2A_
          clear H2A_
          clear hb_ hd_
          obtain ⟨b1, o1, u1, rfl, hb1, hu1, hc1⟩ := H1A.out.at_ hlt
          obtain ⟨b2, o2, u2, rfl, hb2, hu2, hc2⟩ := H2A.out.at_ hlt
          obtain rfl : u1 = .int .u8 (b8 x) := by rw [List.getElem?_map, HX.out] at hu1; exact (Option.some.inj hu1).symm
          obtain rfl : u2 = .int .u8 (b8 x) := by rw [List.getElem?_map, HY.out] at hu2; exact (Option.some.inj hu2).symm
          clear hb1 hb2 hu1 hu2
          repeat (first | (refine pl_calm rfl rfl (by first | exact wanted_none rfl | (go_simp; done) | rfl) (fun w_ => by first | (go_simp; rfl) | (go_simp; done) | rfl) (fun K hK => ?_); go_simp; refine hK _ _ ?_; clear hK K) | (refine pl_skip rfl (by first | (go_simp; done) | rfl) (fun K hK => ?_); go_simp; refine hK _ _ ?_; clear hK K) | (refine pl_skipa rfl (by first | (go_simp; done) | rfl) (fun K hK => ?_); go_simp; refine hK _ _ ?_; clear hK K) | (refine pl_load rfl rfl (by first | exact wanted_none rfl | (go_simp; done) | rfl) rfl (by first | rfl | (go_simp; rfl)) (by kernel_rfl) (by first | exact hc1 | exact hc2) (fun K hK => ?_); go_simp; refine hK _ _ ?_; clear hK K) | (refine pl_loadnow rfl rfl (by first | exact wanted_none rfl | (go_simp; done) | rfl) rfl (by first | rfl | (go_simp; rfl)) (by kernel_rfl) (by first | exact hc1 | exact hc2) (fun K hK => ?_); go_simp; refine hK _ _ ?_; clear hK K))
          refine pl_done ?_
          clear hc1 hc2
          have HE := Lib.hid (show xs.take (k + 1) = ys.take (k + 1) by rw [List.take_add_one, List.take_add_one, heq.out, HX.out, HY.out])
          go_wp2_with fail
          go_roundw
          case rel => exact ⟨k + 1, by omega, by go_num, HE, HB⟩
          case measure => simp [intOf]; omega
        · have hbb : ((b8 x) != (b8 y)) = true := by
            have : b8 x ≠ b8 y := fun h => hxy (b8_inj h)
            simpa using this
          have HF := Lib.hid (show res = false by
            rw [← HRES.out]
            have : xs ≠ ys := fun h => by
              subst h
              have h1 := HX.out
              rw [HY.out] at h1
              exact hxy (Option.some.inj h1).symm
            simpa using this)
          have hne : b8 x ≠ b8 y := fun h => hxy (b8_inj h)
          have hq := eq_false hne
          clear hxy
          try go_wp2_with fail
          repeat' (first | (with_reducible refine wp_plan (id := 6) Grow [0,0,0,2,0,0,0,2,0] (.get 0 (.get 1 (.get 2 (.get 3 (.get 4 (.get 5 (.get 6 (.get 7 (.get 8 .done))))))))) (by kernel_rfl) (by kernel_rfl) Grow.refl Grow.trans ?_) | go_values | go_skip | go_guarded | go_step | go_upon | go_back)
          intro w_ hd_
          have hb_ := hd_.grow
          have HB_ := Lib.hid (HB.out.grow' hb_)
          clear HB
          have HB := HB_
          clear HB_
          have H1A_ := Lib.hid (H1A.out.grow hb_)
          clear H1A
          have H1A := H1A_
          clear H1A_
          have H2A_ := Lib.hid (H2A.out.grow hb_)
          clear H2A
          have H2A := H2A_
          clear H2A_
          clear hb_ hd_
          obtain ⟨b1, o1, u1, rfl, hb1, hu1, hc1⟩ := H1A.out.at_ hlt
          obtain ⟨b2, o2, u2, rfl, hb2, hu2, hc2⟩ := H2A.out.at_ hlt
          obtain rfl : u1 = .int .u8 (b8 x) := by rw [List.getElem?_map, HX.out] at hu1; exact (Option.some.inj hu1).symm
          obtain rfl : u2 = .int .u8 (b8 y) := by rw [List.getElem?_map, HY.out] at hu2; exact (Option.some.inj hu2).symm
          clear hb1 hb2 hu1 hu2
          repeat (first | (refine pl_calm rfl rfl (by first | exact wanted_none rfl | (go_simp; done) | rfl) (fun w_ => by first | (go_simp; rfl) | (go_simp; done) | rfl) (fun K hK => ?_); go_simp; refine hK _ _ ?_; clear hK K) | (refine pl_skip rfl (by first | (go_simp; done) | rfl) (fun K hK => ?_); go_simp; refine hK _ _ ?_; clear hK K) | (refine pl_skipa rfl (by first | (go_simp; done) | rfl) (fun K hK => ?_); go_simp; refine hK _ _ ?_; clear hK K) | (refine pl_load rfl rfl (by first | exact wanted_none rfl | (go_simp; done) | rfl) rfl (by first | rfl | (go_simp; rfl)) (by kernel_rfl) (by first | exact hc1 | exact hc2) (fun K hK => ?_); go_simp; refine hK _ _ ?_; clear hK K) | (refine pl_loadnow rfl rfl (by first | exact wanted_none rfl | (go_simp; done) | rfl) rfl (by first | rfl | (go_simp; rfl)) (by kernel_rfl) (by first | exact hc1 | exact hc2) (fun K hK => ?_); go_simp; refine hK _ _ ?_; clear hK K))
          refine pl_done ?_
          clear hc1 hc2
          go_wp2_with fail
          go_ret
          exact ⟨by rw [HF.out]; rfl, HB.out⟩
      · obtain rfl : k = n := by omega
        have HT := Lib.hid (show res = true by
          rw [← HRES.out]
          have h := heq.out
          rw [List.take_of_length_le (by rw [HL1.out]; exact Nat.le_refl _), List.take_of_length_le (by rw [HL2.out]; exact Nat.le_refl _)] at h
          simpa using h)
        go_wp2_with fail
        go_ret
        exact ⟨by rw [HT.out]; rfl, hbw.out⟩
  · have z1 : ((n : Int) != (n2 : Int)) = true := by simp; omega
    have HF := Lib.hid (show res = false by
      rw [← HRES.out]
      have : xs ≠ ys := fun h => by subst h; exact hnn (by rw [← HL1.out, ← HL2.out])
      simpa using this)
    have hz : ¬ ((n : Int) = (n2 : Int)) := by omega
    have hzq := eq_false hz
    go_enter Try.func88, Try.ntmps88
    go_wp2_with fail
    go_ret
    exact ⟨by rw [HF.out]; rfl, Below.refl _ _⟩
--.
set_option maxRecDepth 100000 in
set_option maxHeartbeats 1000000 in
theorem eqouts_any {res : Bool} {A A2 : Option Addr} {n c n2 c2 : Nat} {os qs : List Outp} (hres : res = true ↔ os = qs) (w : World) (hn : n ≤ 1000000) (h1 : OutsAt w A n c os) (h2 : OutsAt w A2 n2 c2 qs) :
    Calls Try.prog 89 #[.slice A n c, .slice A2 n2 c2] w fun e w' => e = .returned (.bool res) ∧ Below w.heap.size w w' := by
  have H1 := Lib.hid h1; have H2 := Lib.hid h2
  have HL1 := Lib.hid h1.2.2.1; have HL2 := Lib.hid h2.2.2.1
  have HRES := Lib.hid hres
  clear h1 h2 hres
  obtain ⟨w_, hw⟩ : ∃ x, x = w := ⟨_, rfl⟩
  have HB := Lib.hid (show Below w.heap.size w w_ by rw [hw]; exact Below.refl _ _)
  suffices H : Calls Try.prog 89 #[.slice A n c, .slice A2 n2 c2] w_ fun e w' => e = .returned (.bool res) ∧ Below w.heap.size w w' by rw [hw] at H; exact H
  clear hw
  by_cases hl : n = n2
  · subst hl
    have g1 : ((n : Int) == (n : Int)) = true := by simp
    have g2 : ((n : Int) != (n : Int)) = false := by simp
    go_enter Try.func89, Try.ntmps89
    go_wp2_with fail
    go_loopw [13] (fun i wr => ∃ k : Nat, k ≤ n ∧ i = .int .i64 k ∧ Hid (os.take k = qs.take k) ∧ Hid (Below w.heap.size w wr)) (fun i _ => n - (intOf i).toNat)
    case atStart => exact ⟨0, by omega, rfl, Lib.hid (by simp), HB⟩
    case round =>
      obtain ⟨k, hk, rfl, hup, hbw⟩ := hrel
      clear HB
      have HB := hbw
      clear hbw
      by_cases hlt : k < n
      · obtain ⟨b, off, p, rfl, hp, hok, hc⟩ := H1.out.at_ hlt
        obtain ⟨b2, off2, p2, rfl, hp2, hok2, hc2⟩ := H2.out.at_ hlt
        have HP := Lib.hid hp; have HP2 := Lib.hid hp2
        obtain ⟨r, hr, hq⟩ := out_eq hok hok2
        have HRR := Lib.hid hr
        have HC := Lib.hid hc; have HC2 := Lib.hid hc2
        have HK1 := Lib.hid (outV_len hok); have HK2 := Lib.hid (outV_len hok2)
        obtain ⟨ov, hov⟩ : ∃ q, q = outV p := ⟨_, rfl⟩
        obtain ⟨ou, hou⟩ : ∃ q, q = outV p2 := ⟨_, rfl⟩
        rw [← hov] at HC HK1 hq
        rw [← hou] at HC2 HK2 hq
        clear hr hc hc2 hok hok2 hp hp2 hov hou
        have v1 : IntKind.i64.wrap ((k : Int) + 1) = (k : Int) + 1 := IntWalk.i64_in _ (by omega)
        have v2 : RowKit.wrap64 ((k : Int) + 1) = (k : Int) + 1 := wrap64_in _ (by clear v1; omega)
        try go_wp2_with fail
        repeat' (first | (with_reducible refine wp_flow (id := 6) [0,0,3,7,0,0,48,112,255] [0,0,0,0,0,0,0,0,0] (fun i => match i with  | _ => spV undef) (by kernel_rfl) (by kernel_rfl) ?_) | go_values | go_skip | go_guarded | go_step | go_upon | go_back)
        intro w_ hd_
        have hb_ := hd_.grow
        have HB_ := Lib.hid (HB.out.grow' hb_)
        clear HB
        have HB := HB_
        clear HB_
        clear hb_ hd_
        show wpL _ _ _ _ _ _ _ [0,1,2,3,4,5,6,7,8] _ _
        have HM1 := Lib.hid (show ∀ j' u, ov[j']? = some u → w_.cell? ⟨b, off + k * 33 + j', none⟩ = some u from fun j' u hu => bcell HB.out (HC.out j' u hu))
        have HM2 := Lib.hid (show ∀ j' u, ou[j']? = some u → w_.cell? ⟨b2, off2 + k * 33 + j', none⟩ = some u from fun j' u hu => bcell HB.out (HC2.out j' u hu))
        repeat (first | (refine fl_calm rfl (by decide) (by first | exact wanted_none rfl | (go_simp; done) | fail) (fun w_ _ _ => by first | (go_simp; rfl) | (go_simp; done) | rfl) (fun K hK => ?_); go_simp; refine hK _ ?_; clear hK K) | (refine fl_skip rfl (by first | (go_simp; done) | fail) (fun K hK => ?_); go_simp; refine hK _ ?_; clear hK K))
        refine fl_loadm rfl (by decide) (by first | exact wanted_none rfl | (go_simp; done) | fail) rfl row_tout HM1.out (by first | rfl | (go_simp; done) | rfl) HK1.out (fun K hK => ?_)
        go_simp
        refine hK _ ?_
        clear hK K
        repeat (first | (refine fl_calm rfl (by decide) (by first | exact wanted_none rfl | (go_simp; done) | fail) (fun w_ _ _ => by first | (go_simp; rfl) | (go_simp; done) | rfl) (fun K hK => ?_); go_simp; refine hK _ ?_; clear hK K) | (refine fl_skip rfl (by first | (go_simp; done) | fail) (fun K hK => ?_); go_simp; refine hK _ ?_; clear hK K))
        refine fl_loadm rfl (by decide) (by first | exact wanted_none rfl | (go_simp; done) | fail) rfl row_tout HM2.out (by first | rfl | (go_simp; done) | rfl) HK2.out (fun K hK => ?_)
        go_simp
        refine hK _ ?_
        clear hK K
        repeat (first | (refine fl_calm rfl (by decide) (by first | exact wanted_none rfl | (go_simp; done) | fail) (fun w_ _ _ => by first | (go_simp; rfl) | (go_simp; done) | rfl) (fun K hK => ?_); go_simp; refine hK _ ?_; clear hK K) | (refine fl_skip rfl (by first | (go_simp; done) | fail) (fun K hK => ?_); go_simp; refine hK _ ?_; clear hK K))
        refine fl_done ?_
        intro w2_ hg_ hL_
        replace HB := Lib.hid (HB.out.grow' hg_)
        clear hg_ hL_
        try clear w_
        rename World => w_
        clear HM1 HM2 hq
        cases r with
        | true =>
          have HE := Lib.hid (show p = p2 from HRR.out.1 rfl)
          go_wp2_with fail
          go_roundw
          all_goals clear v1 v2
          case rel => exact ⟨k + 1, by omega, by go_num, Lib.hid (by rw [List.take_add_one, List.take_add_one, HP.out, HP2.out, hup.out, HE.out]), HB⟩
          case measure => simp [intOf]; omega
        | false =>
          have HF := Lib.hid (show res = false by
            cases res with
            | false => rfl
            | true =>
              have h := HRES.out.1 rfl
              have h1 := HP.out
              rw [h, HP2.out] at h1
              have := HRR.out.2 (Option.some.inj h1).symm
              cases this)
          clear v1 v2
          go_wp2_with fail
          go_ret
          exact ⟨by rw [HF.out]; rfl, HB.out⟩
      · have HF := Lib.hid (show res = true by
            refine HRES.out.2 ?_
            have h := hup.out
            rw [List.take_of_length_le (by rw [HL1.out]; omega), List.take_of_length_le (by rw [HL2.out]; omega)] at h
            exact h)
        go_wp2_with fail
        go_ret
        exact ⟨by rw [HF.out]; rfl, HB.out⟩
  · have g1 : ((n : Int) == (n2 : Int)) = false := by simp; omega
    have g2 : ((n : Int) != (n2 : Int)) = true := by simp; omega
    have g3 : (n == n2) = false := by simp; omega
    have g4 : (n != n2) = true := by simp; omega
    have g5 : decide (n = n2) = false := by simp; omega
    have HF := Lib.hid (show res = false by
      cases res with
      | false => rfl
      | true => have h := HRES.out.1 rfl; have h1 := HL1.out; have h2 := HL2.out; rw [h, h2] at h1; exact absurd h1.symm hl)
    clear hl
    go_enter Try.func89, Try.ntmps89
    go_wp2_with fail
    go_ret
    exact ⟨by rw [HF.out]; rfl, HB.out⟩
end Go.Proofs.Ytobmldegjajocaa

/- Contracts: slices.Equal of bytes, of outs. Printed by mktsame.py. -/
import Derived.Test.YtphmefhnffoafaaDoorTxSameB5
set_option linter.unusedSimpArgs false
/- Contracts: slices.Equal of bytes, of outs. Printed by mktsame.py. -/
namespace Go.Proofs.YtphmefhnffoafaaDoor
open Go.RowKit Go.Shelf
set_option linter.unusedVariables false
theorem outV_inj {x y : Outp} (hx : x.ok) (hy : y.ok) (h : outV x = outV y) : x = y := by
  unfold outV at h
  have h3 := List.append_inj h (by simp [hx.1, hy.1])
  have h4 := map_B_injT h3.1
  obtain ⟨o1, a1⟩ := x; obtain ⟨o2, a2⟩ := y
  have h5 : a1 = a2 := by simpa using h3.2
  rw [show o1 = o2 from h4, h5]
theorem lits_out (d : Nat) (x : Outp) (h : x.ok) : ∃ l, Tryd.prog.keyLits (d + 3) 107 (outV x) = some l := by
  refine kl_struct Tryd.underlying107 _ _ (by rw [outV_len h, cells_tout]) (by kernel_rfl) ?_
  have e0 : (x.owner.map B).length = 32 := by rw [List.length_map, h.1]
  intro f hf
  simp only [List.mem_cons, List.not_mem_nil, or_false] at hf
  rcases hf with rfl | rfl
  · have : List.take 32 (List.drop 0 (outV x)) = x.owner.map B := by unfold outV; rw [List.drop_zero, List.take_append_of_le_length (by omega), List.take_of_length_le (by omega)]
    simp only [cells_id, this]; exact lits_id _ _ h.1
  · have : List.take 1 (List.drop 32 (outV x)) = [.int .u64 x.amount] := by unfold outV; rw [List.drop_append_of_le_length (by omega), List.drop_of_length_le (by omega)]; rfl
    simp only [cells_u64, this]; exact kl_int Tryd.underlying27 _ _ h.2.wf
theorem key_out : WideMaps.KeyLaw Tryd.prog 107 := deep_law_laid laid_out' (m := 3) (by omega) (of_decide_eq_true (by kernel_rfl)) (by kernel_rfl) (by kernel_rfl)
theorem out_eq {x y : Outp} (hx : x.ok) (hy : y.ok) : ∃ r : Bool, (r = true ↔ x = y) ∧ ∀ w, (Op.equalIn 10000 107 (.agg (outV x).toArray) (.agg (outV y).toArray)).run Tryd.prog w = .ok r w := by
  obtain ⟨n4, hn4⟩ := types_3
  obtain ⟨r, hr, hq⟩ := eql_deep key_out (m := 3) (by omega) (by kernel_rfl) (by kernel_rfl) (by kernel_rfl) (outV x) (outV y) (by rw [outV_len hx, cells_tout]) (by rw [outV_len hy, cells_tout]) (by rw [hn4]; exact lits_out (n4 + 1) _ hx) (by rw [hn4]; exact lits_out (n4 + 1) _ hy)
  exact ⟨r, hr.trans ⟨fun h => outV_inj hx hy h, fun h => by rw [h]⟩, hq⟩
set_option maxRecDepth 100000 in
set_option maxHeartbeats 1000000 in
theorem sbytes_any {res : Bool} {A A2 : Option Addr} {n c n2 c2 : Nat} {xs ys : List UInt8} (hres : decide (xs = ys) = res) (w : World) (h1 : Sl w w.heap.size 1 A n (xs.map B)) (h2 : Sl w w.heap.size 1 A2 n2 (ys.map B)) (hn : n ≤ 1000000) :
    Calls Tryd.prog 74 #[.slice A n c, .slice A2 n2 c2] w fun e w' => e = .returned (.bool res) ∧ Below w.heap.size w w' := by
  have H1 := Lib.hid h1; have H2 := Lib.hid h2
  have HL1 := Lib.hid (show xs.length = n by have := h1.len; simpa using this)
  have HL2 := Lib.hid (show ys.length = n2 by have := h2.len; simpa using this)
  have HRES := Lib.hid hres
  clear h1 h2 hres
  by_cases hnn : n = n2
  · subst hnn
    have z1 : ((n : Int) != (n : Int)) = false := by simp
    go_enter Tryd.func74, Tryd.ntmps74
    go_wp2_with fail
    go_loopw [13] (fun i wr => ∃ k : Nat, k ≤ n ∧ i = .int .i64 k ∧ Hid (xs.take k = ys.take k) ∧ Hid (Below w.heap.size w wr)) (fun i _ => n - (intOf i).toNat)
    case atStart => exact ⟨0, by omega, rfl, Lib.hid (by simp), Lib.hid (Below.refl _ _)⟩
    case round =>
      obtain ⟨k, hk, rfl, heq, hbw⟩ := hrel
      by_cases hlt : k < n
      · have HB := hbw
        have H1A := Lib.hid ((H1.out.below HB.out).more HB.out.size)
        have H2A := Lib.hid ((H2.out.below HB.out).more HB.out.size)
        obtain ⟨x, hx⟩ : ∃ x, xs[k]? = some x := ⟨_, List.getElem?_eq_getElem (by rw [HL1.out]; exact hlt)⟩
        obtain ⟨y, hy⟩ : ∃ y, ys[k]? = some y := ⟨_, List.getElem?_eq_getElem (by rw [HL2.out]; exact hlt)⟩
        have HX := Lib.hid hx; have HY := Lib.hid hy
        clear hx hy
        by_cases hxy : x = y
        · subst hxy
          try go_wp2_with fail
          repeat' (first | (with_reducible refine wp_plan (id := 6) Grow [0,0,0,2,0,0,0,2,0] (.get 0 (.get 1 (.get 2 (.get 3 (.get 4 (.get 5 (.get 6 (.get 7 (.get 8 .done))))))))) (by kernel_rfl) (by kernel_rfl) Grow.refl Grow.trans ?_) | go_values | go_skip | go_guarded | go_step | go_upon | go_back)
          intro w_ hd_
          have hb_ := hd_.grow
          have HB_ := Lib.hid (HB.out.grow' hb_)
          clear HB
          have HB := HB_
          clear HB_
          have H1A_ := Lib.hid (H1A.out.grow hb_)
          clear H1A
          have H1A := H1A_
          clear H1A_
          have H2A_ := Lib.hid (H2A.out.grow hb_)
          clear H2A
          have H2A := H2A_
          clear H2A_
          clear hb_ hd_
          obtain ⟨b1, o1, u1, rfl, hb1, hu1, hc1⟩ := H1A.out.at_ hlt
          obtain ⟨b2, o2, u2, rfl, hb2, hu2, hc2⟩ := H2A.out.at_ hlt
          obtain rfl : u1 = .int .u8 (b8 x) := by rw [List.getElem?_map, HX.out] at hu1; exact (Option.some.inj hu1).symm
          obtain rfl : u2 = .int .u8 (b8 x) := by rw [List.getElem?_map, HY.out] at hu2; exact (Option.some.inj hu2).symm
          clear hb1 hb2 hu1 hu2
          repeat (first | (refine pl_calm rfl rfl (by first | exact wanted_none rfl | (go_simp; done) | rfl) (fun w_ => by first | (go_simp; rfl) | (go_simp; done) | rfl) (fun K hK => ?_); go_simp; refine hK _ _ ?_; clear hK K) | (refine pl_skip rfl (by first | (go_simp; done) | rfl) (fun K hK => ?_); go_simp; refine hK _ _ ?_; clear hK K) | (refine pl_skipa rfl (by first | (go_simp; done) | rfl) (fun K hK => ?_); go_simp; refine hK _ _ ?_; clear hK K) | (refine pl_load rfl rfl (by first | exact wanted_none rfl | (go_simp; done) | rfl) rfl (by first | rfl | (go_simp; rfl)) (by kernel_rfl) (by first | exact hc1 | exact hc2) (fun K hK => ?_); go_simp; refine hK _ _ ?_; clear hK K) | (refine pl_loadnow rfl rfl (by first | exact wanted_none rfl | (go_simp; done) | rfl) rfl (by first | rfl | (go_simp; rfl)) (by kernel_rfl) (by first | exact hc1 | exact hc2) (fun K hK => ?_); go_simp; refine hK _ _ ?_; clear hK K))
          refine pl_done ?_
          clear hc1 hc2
          have HE := Lib.hid (show xs.take (k + 1) = ys.take (k + 1) by rw [List.take_add_one, List.take_add_one, heq.out, HX.out, HY.out])
          go_wp2_with fail
          go_roundw
          case rel => exact ⟨k + 1, by omega, by go_num, HE, HB⟩
          case measure => simp [intOf]; omega
        · have hbb : ((b8 x) != (b8 y)) = true := by
            have : b8 x ≠ b8 y := fun h => hxy (b8_inj h)
            simpa using this
          have HF := Lib.hid (show res = false by
            rw [← HRES.out]
            have : xs ≠ ys := fun h => by
              subst h
              have h1 := HX.out
              rw [HY.out] at h1
              exact hxy (Option.some.inj h1).symm
            simpa using this)
          have hne : b8 x ≠ b8 y := fun h => hxy (b8_inj h)
          have hq := eq_false hne
          clear hxy
          try go_wp2_with fail
          repeat' (first | (with_reducible refine wp_plan (id := 6) Grow [0,0,0,2,0,0,0,2,0] (.get 0 (.get 1 (.get 2 (.get 3 (.get 4 (.get 5 (.get 6 (.get 7 (.get 8 .done))))))))) (by kernel_rfl) (by kernel_rfl) Grow.refl Grow.trans ?_) | go_values | go_skip | go_guarded | go_step | go_upon | go_back)
          intro w_ hd_
          have hb_ := hd_.grow
          have HB_ := Lib.hid (HB.out.grow' hb_)
          clear HB
          have HB := HB_
          clear HB_
          have H1A_ := Lib.hid (H1A.out.grow hb_)
          clear H1A
          have H1A := H1A_
          clear H1A_
          have H2A_ := Lib.hid (H2A.out.grow hb_)
          clear H2A
          have H2A := H2A_
          clear H2A_
          clear hb_ hd_
          obtain ⟨b1, o1, u1, rfl, hb1, hu1, hc1⟩ := H1A.out.at_ hlt
          obtain ⟨b2, o2, u2, rfl, hb2, hu2, hc2⟩ := H2A.out.at_ hlt
          obtain rfl : u1 = .int .u8 (b8 x) := by rw [List.getElem?_map, HX.out] at hu1; exact (Option.some.inj hu1).symm
          obtain rfl : u2 = .int .u8 (b8 y) := by rw [List.getElem?_map, HY.out] at hu2; exact (Option.some.inj hu2).symm
          clear hb1 hb2 hu1 hu2
          repeat (first | (refine pl_calm rfl rfl (by first | exact wanted_none rfl | (go_simp; done) | rfl) (fun w_ => by first | (go_simp; rfl) | (go_simp; done) | rfl) (fun K hK => ?_); go_simp; refine hK _ _ ?_; clear hK K) | (refine pl_skip rfl (by first | (go_simp; done) | rfl) (fun K hK => ?_); go_simp; refine hK _ _ ?_; clear hK K) | (refine pl_skipa rfl (by first | (go_simp; done) | rfl) (fun K hK => ?_); go_simp; refine hK _ _ ?_; clear hK K) | (refine pl_load rfl rfl (by first | exact wanted_none rfl | (go_simp; done) | rfl) rfl (by first | rfl | (go_simp; rfl)) (by kernel_rfl) (by first | exact hc1 | exact hc2) (fun K hK => ?_); go_simp; refine hK _ _ ?_; clear hK K) | (refine pl_loadnow rfl rfl (by first | exact wanted_none rfl | (go_simp; done) | rfl) rfl (by first | rfl | (go_simp; rfl)) (by kernel_rfl) (by first | exact hc1 | exact hc2) (fun K hK => ?_); go_simp; refine hK _ _ ?_; clear hK K))
          refine pl_done ?_
          clear hc1 hc2
          go_wp2_with fail
          go_ret
          exact ⟨by rw [HF.out]; rfl, HB.out⟩
      · obtain rfl : k = n := by omega
        have HT := Lib.hid (show res = true by
          rw [← HRES.out]
          have h := heq.out
          rw [List.take_of_length_le (by rw [HL1.out]; exact Nat.le_refl _), List.take_of_length_le (by rw [HL2.out]; exact Nat.le_refl _)] at h
          simpa using h)
        go_wp2_with fail
        go_ret
        exact ⟨by rw [HT.out]; rfl, hbw.out⟩
  · have z1 : ((n : Int) != (n2 : Int)) = true := by simp; omega
    have HF := Lib.hid (show res = false by
      rw [← HRES.out]
      have : xs ≠ ys := fun h => by subst h; exact hnn (by rw [← HL1.out, ← HL2.out])
      simpa using this)
    have hz : ¬ ((n : Int) = (n2 : Int)) := by omega
    have hzq := eq_false hz
    go_enter Tryd.func74, Tryd.ntmps74
    go_wp2_with fail
    go_ret
    exact ⟨by rw [HF.out]; rfl, Below.refl _ _⟩
--.
set_option maxRecDepth 100000 in
set_option maxHeartbeats 1000000 in
theorem eqouts_any {res : Bool} {A A2 : Option Addr} {n c n2 c2 : Nat} {os qs : List Outp} (hres : res = true ↔ os = qs) (w : World) (hn : n ≤ 1000000) (h1 : OutsAt w A n c os) (h2 : OutsAt w A2 n2 c2 qs) :
    Calls Tryd.prog 75 #[.slice A n c, .slice A2 n2 c2] w fun e w' => e = .returned (.bool res) ∧ Below w.heap.size w w' := by
  have H1 := Lib.hid h1; have H2 := Lib.hid h2
  have HL1 := Lib.hid h1.2.2.1; have HL2 := Lib.hid h2.2.2.1
  have HRES := Lib.hid hres
  clear h1 h2 hres
  obtain ⟨w_, hw⟩ : ∃ x, x = w := ⟨_, rfl⟩
  have HB := Lib.hid (show Below w.heap.size w w_ by rw [hw]; exact Below.refl _ _)
  suffices H : Calls Tryd.prog 75 #[.slice A n c, .slice A2 n2 c2] w_ fun e w' => e = .returned (.bool res) ∧ Below w.heap.size w w' by rw [hw] at H; exact H
  clear hw
  by_cases hl : n = n2
  · subst hl
    have g1 : ((n : Int) == (n : Int)) = true := by simp
    have g2 : ((n : Int) != (n : Int)) = false := by simp
    go_enter Tryd.func75, Tryd.ntmps75
    go_wp2_with fail
    go_loopw [13] (fun i wr => ∃ k : Nat, k ≤ n ∧ i = .int .i64 k ∧ Hid (os.take k = qs.take k) ∧ Hid (Below w.heap.size w wr)) (fun i _ => n - (intOf i).toNat)
    case atStart => exact ⟨0, by omega, rfl, Lib.hid (by simp), HB⟩
    case round =>
      obtain ⟨k, hk, rfl, hup, hbw⟩ := hrel
      clear HB
      have HB := hbw
      clear hbw
      by_cases hlt : k < n
      · obtain ⟨b, off, p, rfl, hp, hok, hc⟩ := H1.out.at_ hlt
        obtain ⟨b2, off2, p2, rfl, hp2, hok2, hc2⟩ := H2.out.at_ hlt
        have HP := Lib.hid hp; have HP2 := Lib.hid hp2
        obtain ⟨r, hr, hq⟩ := out_eq hok hok2
        have HRR := Lib.hid hr
        have HC := Lib.hid hc; have HC2 := Lib.hid hc2
        have HK1 := Lib.hid (outV_len hok); have HK2 := Lib.hid (outV_len hok2)
        obtain ⟨ov, hov⟩ : ∃ q, q = outV p := ⟨_, rfl⟩
        obtain ⟨ou, hou⟩ : ∃ q, q = outV p2 := ⟨_, rfl⟩
        rw [← hov] at HC HK1 hq
        rw [← hou] at HC2 HK2 hq
        clear hr hc hc2 hok hok2 hp hp2 hov hou
        have v1 : IntKind.i64.wrap ((k : Int) + 1) = (k : Int) + 1 := IntWalk.i64_in _ (by omega)
        have v2 : RowKit.wrap64 ((k : Int) + 1) = (k : Int) + 1 := wrap64_in _ (by clear v1; omega)
        try go_wp2_with fail
        repeat' (first | (with_reducible refine wp_flow (id := 6) [0,0,3,7,0,0,48,112,255] [0,0,0,0,0,0,0,0,0] (fun i => match i with  | _ => spV undef) (by kernel_rfl) (by kernel_rfl) ?_) | go_values | go_skip | go_guarded | go_step | go_upon | go_back)
        intro w_ hd_
        have hb_ := hd_.grow
        have HB_ := Lib.hid (HB.out.grow' hb_)
        clear HB
        have HB := HB_
        clear HB_
        clear hb_ hd_
        show wpL _ _ _ _ _ _ _ [0,1,2,3,4,5,6,7,8] _ _
        have HM1 := Lib.hid (show ∀ j' u, ov[j']? = some u → w_.cell? ⟨b, off + k * 33 + j', none⟩ = some u from fun j' u hu => bcell HB.out (HC.out j' u hu))
        have HM2 := Lib.hid (show ∀ j' u, ou[j']? = some u → w_.cell? ⟨b2, off2 + k * 33 + j', none⟩ = some u from fun j' u hu => bcell HB.out (HC2.out j' u hu))
        repeat (first | (refine fl_calm rfl (by decide) (by first | exact wanted_none rfl | (go_simp; done) | fail) (fun w_ _ _ => by first | (go_simp; rfl) | (go_simp; done) | rfl) (fun K hK => ?_); go_simp; refine hK _ ?_; clear hK K) | (refine fl_skip rfl (by first | (go_simp; done) | fail) (fun K hK => ?_); go_simp; refine hK _ ?_; clear hK K))
        refine fl_loadm rfl (by decide) (by first | exact wanted_none rfl | (go_simp; done) | fail) rfl row_tout HM1.out (by first | rfl | (go_simp; done) | rfl) HK1.out (fun K hK => ?_)
        go_simp
        refine hK _ ?_
        clear hK K
        repeat (first | (refine fl_calm rfl (by decide) (by first | exact wanted_none rfl | (go_simp; done) | fail) (fun w_ _ _ => by first | (go_simp; rfl) | (go_simp; done) | rfl) (fun K hK => ?_); go_simp; refine hK _ ?_; clear hK K) | (refine fl_skip rfl (by first | (go_simp; done) | fail) (fun K hK => ?_); go_simp; refine hK _ ?_; clear hK K))
        refine fl_loadm rfl (by decide) (by first | exact wanted_none rfl | (go_simp; done) | fail) rfl row_tout HM2.out (by first | rfl | (go_simp; done) | rfl) HK2.out (fun K hK => ?_)
        go_simp
        refine hK _ ?_
        clear hK K
        repeat (first | (refine fl_calm rfl (by decide) (by first | exact wanted_none rfl | (go_simp; done) | fail) (fun w_ _ _ => by first | (go_simp; rfl) | (go_simp; done) | rfl) (fun K hK => ?_); go_simp; refine hK _ ?_; clear hK K) | (refine fl_skip rfl (by first | (go_simp; done) | fail) (fun K hK => ?_); go_simp; refine hK _ ?_; clear hK K))
        refine fl_done ?_
        intro w2_ hg_ hL_
        replace HB := Lib.hid (HB.out.grow' hg_)
        clear hg_ hL_
        try clear w_
        rename World => w_
        clear HM1 HM2 hq
        cases r with
        | true =>
          have HE := Lib.hid (show p = p2 from HRR.out.1 rfl)
          go_wp2_with fail
          go_roundw
          all_goals clear v1 v2
          case rel => exact ⟨k + 1, by omega, by go_num, Lib.hid (by rw [List.take_add_one, List.take_add_one, HP.out, HP2.out, hup.out, HE.out]), HB⟩
          case measure => simp [intOf]; omega
        | false =>
          have HF := Lib.hid (show res = false by
            cases res with
            | false => rfl
            | true =>
              have h := HRES.out.1 rfl
              have h1 := HP.out
              rw [h, HP2.out] at h1
              have := HRR.out.2 (Option.some.inj h1).symm
              cases this)
          clear v1 v2
          go_wp2_with fail
          go_ret
          exact ⟨by rw [HF.out]; rfl, HB.out⟩
      · have HF := Lib.hid (show res = true by
            refine HRES.out.2 ?_
            have h := hup.out
            rw [List.take_of_length_le (by rw [HL1.out]; omega), List.take_of_length_le (by rw [HL2.out]; omega)] at h
            exact h)
        go_wp2_with fail
        go_ret
        exact ⟨by rw [HF.out]; rfl, HB.out⟩
  · have g1 : ((n : Int) == (n2 : Int)) = false := by simp; omega
    have g2 : ((n : Int) != (n2 : Int)) = true := by simp; omega
    have g3 : (n == n2) = false := by simp; omega
    have g4 : (n != n2) = true := by simp; omega
    have g5 : decide (n = n2) = false := by simp; omega
    have HF := Lib.hid (show res = false by
      cases res with
      | false => rfl
      | true => have h := HRES.out.1 rfl; have h1 := HL1.out; have h2 := HL2.out; rw [h, h2] at h1; exact absurd h1.symm hl)
    clear hl
    go_enter Tryd.func75, Tryd.ntmps75
    go_wp2_with fail
    go_ret
    exact ⟨by rw [HF.out]; rfl, HB.out⟩
end Go.Proofs.YtphmefhnffoafaaDoor

/- Contracts: the closure of Same, slices.EqualFunc of ins, tx.Same. Printed by mktsame2.py. -/
namespace Go.Proofs.YtphmefhnffoafaaDoor
open Go.RowKit Go.Shelf
set_option linter.unusedVariables false
theorem inp_eq {x y : Inp} {rp rs res : Bool} (h1 : rp = true ↔ x.pt = y.pt) (h3 : decide (x.secret = y.secret) = rs) (h : res = true ↔ x = y) : res = (rp && decide (x.amount = y.amount) && rs) := by
  rw [Bool.eq_iff_iff, h]
  simp only [Bool.and_eq_true, h1, ← h3, decide_eq_true_iff]
  obtain ⟨a, b, c, d⟩ := x; obtain ⟨a2, b2, c2, d2⟩ := y
  simp [Inp.pt, and_assoc]
theorem txn_eq {a b : Txn} {ri ro res : Bool} (h1 : ri = true ↔ a.ins = b.ins) (h2 : ro = true ↔ a.outs = b.outs) (h : res = true ↔ a = b) : res = (ri && ro && decide (a.fee = b.fee) && decide (a.expiry = b.expiry)) := by
  rw [Bool.eq_iff_iff, h]
  simp only [Bool.and_eq_true, h1, h2, decide_eq_true_iff]
  obtain ⟨x1, x2, x3, x4⟩ := a; obtain ⟨y1, y2, y3, y4⟩ := b
  simp [and_assoc]
theorem InOK.grow {w w2 : World} {p : Value × Inp} (h : InOK w w.heap.size p) (hg : Grow w w2) : InOK w2 w2.heap.size p := by
  obtain ⟨⟨A, c, e, hc, hs⟩, hk⟩ := h
  exact ⟨⟨A, c, e, hc, (hs.below hg).more hg.size⟩, hk⟩
set_option maxRecDepth 100000 in
set_option maxHeartbeats 1000000 in
theorem same1_any {res : Bool} {p q : Value × Inp} (hres : res = true ↔ p.2 = q.2) (w : World) (h1 : InOK w w.heap.size p) (h2 : InOK w w.heap.size q) (hn : p.2.secret.length ≤ 1000000) :
    Calls Tryd.prog 73 #[.agg (inV p.1 p.2).toArray, .agg (inV q.1 q.2).toArray] w fun e w' => e = .returned (.bool res) ∧ Grow w w' := by
  have HPC := Lib.hid (inV_cl h1); have HQC := Lib.hid (inV_cl h2)
  obtain ⟨⟨A, c, e1, hc1, hs1⟩, hk1⟩ := h1
  obtain ⟨⟨A2, c2, e2, hc2, hs2⟩, hk2⟩ := h2
  obtain ⟨r, hr, hq⟩ := pt_eq (x := p.2.pt) (y := q.2.pt) ⟨hk1.1, hk1.2.1⟩ ⟨hk2.1, hk2.2.1⟩
  obtain ⟨rs, hrs⟩ : ∃ z, decide (p.2.secret = q.2.secret) = z := ⟨_, rfl⟩
  have HRES := Lib.hid (inp_eq hr hrs hres)
  have HSB := Lib.hid (fun (w' : World) (hg : Grow w w') => sbytes_any (A := A) (n := p.2.secret.length) (c := c) (A2 := A2) (n2 := q.2.secret.length) (c2 := c2) hrs w' ((hs1.below hg).more hg.size) ((hs2.below hg).more hg.size) hn)
  have HP3 := Lib.hid (show (inV p.1 p.2)[33]? = some (.int .u64 p.2.amount) from (in_at hk1).2.1)
  have HP4 := Lib.hid (show (inV p.1 p.2)[34]? = some (.slice A p.2.secret.length c) by rw [← e1]; exact (in_at hk1).2.2)
  have HQ3 := Lib.hid (show (inV q.1 q.2)[33]? = some (.int .u64 q.2.amount) from (in_at hk2).2.1)
  have HQ4 := Lib.hid (show (inV q.1 q.2)[34]? = some (.slice A2 q.2.secret.length c2) by rw [← e2]; exact (in_at hk2).2.2)
  have HPT := Lib.hid (fun (w : World) (g : Nat) (h : Blk w g 105 (inV p.1 p.2)) => pt_cells h hk1)
  have HQT := Lib.hid (fun (w : World) (g : Nat) (h : Blk w g 105 (inV q.1 q.2)) => pt_cells h hk2)
  have HXL := Lib.hid (ptKV_len (x := p.2.pt) ⟨hk1.1, hk1.2.1⟩); have HYL := Lib.hid (ptKV_len (x := q.2.pt) ⟨hk2.1, hk2.2.1⟩)
  clear hr hrs hres hs1 hs2 hk1 hk2 hc1 hc2 e1 e2 hn
  obtain ⟨n1, hn1⟩ : ∃ z, z = p.2.secret.length := ⟨_, rfl⟩
  obtain ⟨n2, hn2⟩ : ∃ z, z = q.2.secret.length := ⟨_, rfl⟩
  obtain ⟨am, ham⟩ : ∃ z, z = p.2.amount := ⟨_, rfl⟩
  obtain ⟨an, han⟩ : ∃ z, z = q.2.amount := ⟨_, rfl⟩
  obtain ⟨xp, hxp⟩ : ∃ z, z = ptKV p.2.pt := ⟨_, rfl⟩
  obtain ⟨xq, hxq⟩ : ∃ z, z = ptKV q.2.pt := ⟨_, rfl⟩
  obtain ⟨pv, hpv⟩ : ∃ z, z = inV p.1 p.2 := ⟨_, rfl⟩
  obtain ⟨qv, hqv⟩ : ∃ z, z = inV q.1 q.2 := ⟨_, rfl⟩
  rw [← hn1] at HSB HP4
  rw [← hn2] at HSB HQ4
  rw [← ham] at HRES HP3
  rw [← han] at HRES HQ3
  rw [← hxp] at HPT HXL hq
  rw [← hxq] at HQT HYL hq
  rw [← hpv] at HPC HP3 HP4 HPT ⊢
  rw [← hqv] at HQC HQ3 HQ4 HQT ⊢
  clear hn1 hn2 ham han hxp hxq hpv hqv
  obtain ⟨w_, hw⟩ : ∃ x, x = w := ⟨_, rfl⟩
  have HB := Lib.hid (show Below w.heap.size w w_ by rw [hw]; exact Below.refl _ _)
  suffices H : Calls Tryd.prog 73 #[.agg pv.toArray, .agg qv.toArray] w_ fun e w' => e = .returned (.bool res) ∧ Grow w w' by rw [hw] at H; exact H
  clear hw
  go_enter Tryd.func73, Tryd.ntmps73
  go_wp2_with (first | (with_reducible refine wpl_box (o := ⟨some 2, _, _, _, _, _⟩) rfl rfl rfl ?_))
  intro w2_ hb2_ hb_ hsz2_
  have HX_ := Lib.hid (at_mk hb2_ HPC.out.len)
  clear hb2_ hsz2_
  have HG_ := Lib.hid HB.out.size
  have HB_ := Lib.hid (HB.out.grow' hb_)
  clear HB
  have HB := HB_
  clear HB_
  generalize hg_ : w_.heap.size = g1 at HX_ HG_ ⊢
  clear hg_
  have HX_g := HG_
  clear HG_
  have HX := HX_
  clear hb_ HX_
  try clear w_
  rename World => w_
  go_wp2_with (first | (with_reducible refine wpl_box (o := ⟨some 3, _, _, _, _, _⟩) rfl rfl rfl ?_))
  intro w2_ hb2_ hb_ hsz2_
  have HX_ := Lib.hid (at_mk hb2_ HQC.out.len)
  clear hb2_ hsz2_
  have HG_ := Lib.hid HB.out.size
  have HB_ := Lib.hid (HB.out.grow' hb_)
  clear HB
  have HB := HB_
  clear HB_
  have HX_ := Lib.hid (HX.out.grow hb_)
  clear HX
  have HX := HX_
  clear HX_
  generalize hg_ : w_.heap.size = g2 at HX_ HG_ ⊢
  clear hg_
  have HY_g := HG_
  clear HG_
  have HY := HX_
  clear hb_ HX_
  try clear w_
  rename World => w_
  have FM1 := Lib.hid (HPT.out _ _ HX.out.blk)
  have FM2 := Lib.hid (HQT.out _ _ HY.out.blk)
  have c33 := HX.out.blk.at_ HP3.out; have c34 := HX.out.blk.at_ HP4.out
  have d33 := HY.out.blk.at_ HQ3.out; have d34 := HY.out.blk.at_ HQ4.out
  cases r with
  | false =>
    have HF := Lib.hid (show res = false by rw [HRES.out]; rfl)
    go_wp2_with (first | (with_reducible refine wpl_loadm (o := ⟨some 6, _, _, _, _, _⟩) rfl rfl row_point FM1.out rfl HXL.out ?_) | (with_reducible refine wpl_loadm (o := ⟨some 8, _, _, _, _, _⟩) rfl rfl row_point FM2.out rfl HYL.out ?_))
    go_ret
    exact ⟨by rw [HF.out]; rfl, HB.out⟩
  | true =>
    by_cases hea : am = an
    · have HF := Lib.hid (show res = rs by rw [HRES.out, decide_eq_true hea]; rfl)
      subst hea
      have b1 : (am == am) = true := by simp
      have b2 : decide (am = am) = true := by simp
      go_wp2_with (first | (with_reducible refine wpl_loadm (o := ⟨some 6, _, _, _, _, _⟩) rfl rfl row_point FM1.out rfl HXL.out ?_) | (with_reducible refine wpl_loadm (o := ⟨some 8, _, _, _, _, _⟩) rfl rfl row_point FM2.out rfl HYL.out ?_))
      refine (HSB.out _ HB.out).mono ?_
      rintro e w2_ ⟨rfl, hb_⟩
      have HB_ := Lib.hid (HB.out.grow' hb_)
      clear hb_ HB
      go_wp2_with fail
      go_ret
      exact ⟨by rw [HF.out]; rfl, HB_.out⟩
    · have HF := Lib.hid (show res = false by rw [HRES.out, decide_eq_false hea]; rfl)
      have b1 : (am == an) = false := by simp [hea]
      have b2 : decide (am = an) = false := by simp [hea]
      go_wp2_with (first | (with_reducible refine wpl_loadm (o := ⟨some 6, _, _, _, _, _⟩) rfl rfl row_point FM1.out rfl HXL.out ?_) | (with_reducible refine wpl_loadm (o := ⟨some 8, _, _, _, _, _⟩) rfl rfl row_point FM2.out rfl HYL.out ?_))
      go_ret
      exact ⟨by rw [HF.out]; rfl, HB.out⟩
set_option maxRecDepth 100000 in
set_option maxHeartbeats 2000000 in
theorem eqfunc_any {res : Bool} {A A2 : Option Addr} {n c n2 c2 : Nat} {l m : List (Value × Inp)} (hres : res = true ↔ l.map Prod.snd = m.map Prod.snd) (w : World) (hn : n ≤ 1000000) (hsec : ∀ p ∈ l, p.2.secret.length ≤ 1000000) (h1 : InsAt w A n c l) (h2 : InsAt w A2 n2 c2 m) :
    Calls Tryd.prog 72 #[.slice A n c, .slice A2 n2 c2, .func (.func 73) #[] #[]] w fun e w' => e = .returned (.bool res) ∧ Grow w w' := by
  have H1 := Lib.hid h1; have H2 := Lib.hid h2
  have HL1 := Lib.hid h1.2.2.1; have HL2 := Lib.hid h2.2.2.1
  have HRES := Lib.hid hres; have HSEC := Lib.hid hsec
  clear h1 h2 hres hsec
  obtain ⟨w_, hw⟩ : ∃ x, x = w := ⟨_, rfl⟩
  have HB := Lib.hid (show Below w.heap.size w w_ by rw [hw]; exact Below.refl _ _)
  suffices H : Calls Tryd.prog 72 #[.slice A n c, .slice A2 n2 c2, .func (.func 73) #[] #[]] w_ fun e w' => e = .returned (.bool res) ∧ Grow w w' by rw [hw] at H; exact H
  clear hw
  by_cases hl : n = n2
  · subst hl
    have g1 : ((n : Int) == (n : Int)) = true := by simp
    have g2 : ((n : Int) != (n : Int)) = false := by simp
    go_enter Tryd.func72, Tryd.ntmps72
    go_wp2_with fail
    go_loopw [17] (fun i wr => ∃ k : Nat, k ≤ n ∧ i = .int .i64 k ∧ Hid ((l.map Prod.snd).take k = (m.map Prod.snd).take k) ∧ Hid (Below w.heap.size w wr)) (fun i _ => n - (intOf i).toNat)
    case atStart => exact ⟨0, by omega, rfl, Lib.hid (by simp), HB⟩
    case round =>
      obtain ⟨k, hk, rfl, hup, hbw⟩ := hrel
      clear HB
      have HB := hbw
      clear hbw
      rename World => w_
      by_cases hlt : k < n
      · obtain ⟨b, off, p, rfl, hp, hok, hc⟩ := H1.out.at_ hlt
        obtain ⟨b2, off2, q, rfl, hp2, hok2, hc2⟩ := H2.out.at_ hlt
        have HP := Lib.hid (show (l.map Prod.snd)[k]? = some p.2 by rw [List.getElem?_map, hp]; rfl)
        have HP2 := Lib.hid (show (m.map Prod.snd)[k]? = some q.2 by rw [List.getElem?_map, hp2]; rfl)
        have HPC := Lib.hid (inV_cl hok); have HQC := Lib.hid (inV_cl hok2)
        obtain ⟨r, hr⟩ : ∃ r : Bool, (r = true ↔ p.2 = q.2) := by
          by_cases h : p.2 = q.2
          · exact ⟨true, by simp [h]⟩
          · exact ⟨false, by simp [h]⟩
        have HRR := Lib.hid hr
        have HL := Lib.hid (fun (w' : World) (hg : Grow w w') => same1_any hr w' (hok.grow hg) (hok2.grow hg) (HSEC.out p (List.mem_of_getElem? hp)))
        have HC0 := Lib.hid hc; have HD0 := Lib.hid hc2
        obtain ⟨pv, hpv⟩ : ∃ z, z = inV p.1 p.2 := ⟨_, rfl⟩
        obtain ⟨qv, hqv⟩ : ∃ z, z = inV q.1 q.2 := ⟨_, rfl⟩
        rw [← hpv] at HPC HC0 HL
        rw [← hqv] at HQC HD0 HL
        clear hr hp hp2 hok hok2 hc hc2 hpv hqv
        have v1 : IntKind.i64.wrap ((k : Int) + 1) = (k : Int) + 1 := IntWalk.i64_in _ (by omega)
        have v2 : RowKit.wrap64 ((k : Int) + 1) = (k : Int) + 1 := wrap64_in _ (by clear v1; omega)
        have HC := Lib.hid (show ∀ j' u, pv[j']? = some u → w_.cell? ⟨b, off + k * 35 + j', none⟩ = some u from fun j' u hu => bcell HB.out (HC0.out j' u hu))
        go_wp2_with (first | (with_reducible refine wpl_loadm (o := ⟨some 21, _, _, _, _, _⟩) rfl rfl row_tin HC.out rfl HPC.out.len ?_) | (with_reducible refine wpl_alloc (o := ⟨some 8, _, _, _, _, _⟩) rfl rfl zero_tin ?_))
        intro w1_ hb1_ hbw1_ hsz1_
        have HB1_ := Lib.hid (at_mk hb1_ len_tin)
        have HBW1_ := Lib.hid hbw1_
        have HZ1_ := Lib.hid hsz1_
        clear hb1_ hbw1_ hsz1_
        go_wp2_with (first | (with_reducible refine wpl_storeb (o := ⟨none, .store _ _ _, _, _, _, _⟩) rfl rfl row_tin HB1_.out.blk rfl rfl HB1_.out.len HPC.out.len HPC.out.one ?_))
        intro w2_ hb2_ hg2_ hsz2_
        have hb_ := var_grow HBW1_.out HZ1_.out hg2_
        have HX_ := Lib.hid (at_mk hb2_ HPC.out.len)
        clear hb2_ hg2_ hsz2_ HB1_ HBW1_ HZ1_
        have HB_ := Lib.hid (HB.out.grow' hb_)
        clear HB
        have HB := HB_
        clear HB_
        generalize hg_ : w_.heap.size = g8 at HX_ ⊢
        clear hg_
        have HE := HX_
        clear hb_ HX_
        clear w1_
        try clear w_
        rename World => w_
        clear HC
        have HD := Lib.hid (show ∀ j' u, qv[j']? = some u → w_.cell? ⟨b2, off2 + k * 35 + j', none⟩ = some u from fun j' u hu => bcell HB.out (HD0.out j' u hu))
        go_wp2_with (first | (with_reducible refine wpl_loadm (o := ⟨some 25, _, _, _, _, _⟩) rfl rfl row_tin HD.out rfl HQC.out.len ?_) | (with_reducible refine wpl_alloc (o := ⟨some 9, _, _, _, _, _⟩) rfl rfl zero_tin ?_))
        intro w1_ hb1_ hbw1_ hsz1_
        have HB1_ := Lib.hid (at_mk hb1_ len_tin)
        have HBW1_ := Lib.hid hbw1_
        have HZ1_ := Lib.hid hsz1_
        clear hb1_ hbw1_ hsz1_
        go_wp2_with (first | (with_reducible refine wpl_storeb (o := ⟨none, .store _ _ _, _, _, _, _⟩) rfl rfl row_tin HB1_.out.blk rfl rfl HB1_.out.len HQC.out.len HQC.out.one ?_))
        intro w2_ hb2_ hg2_ hsz2_
        have hb_ := var_grow HBW1_.out HZ1_.out hg2_
        have HX_ := Lib.hid (at_mk hb2_ HQC.out.len)
        clear hb2_ hg2_ hsz2_ HB1_ HBW1_ HZ1_
        have HB_ := Lib.hid (HB.out.grow' hb_)
        clear HB
        have HB := HB_
        clear HB_
        have HE_ := Lib.hid (HE.out.grow hb_)
        clear HE
        have HE := HE_
        clear HE_
        generalize hg_ : w_.heap.size = g9 at HX_ ⊢
        clear hg_
        have HF := HX_
        clear hb_ HX_
        clear w1_
        try clear w_
        rename World => w_
        clear HD
        go_wp2_with (first | (with_reducible refine wpl_loadb (o := ⟨some 27, _, _, _, _, _⟩) rfl rfl row_tin HE.out.blk rfl HE.out.len ?_) | (with_reducible refine wpl_loadb (o := ⟨some 28, _, _, _, _, _⟩) rfl rfl row_tin HF.out.blk rfl HF.out.len ?_))
        refine (HL.out _ HB.out).mono ?_
        rintro e w2_ ⟨rfl, hb_⟩
        have HB_ := Lib.hid (HB.out.grow' hb_)
        clear hb_ HB HL
        cases r with
        | true =>
          have HEQ := Lib.hid (show p.2 = q.2 from HRR.out.1 rfl)
          go_wp2_with fail
          go_roundw
          all_goals clear v1 v2
          case rel => exact ⟨k + 1, by omega, by go_num, Lib.hid (by rw [List.take_add_one, List.take_add_one, HP.out, HP2.out, hup.out, HEQ.out]), HB_⟩
          case measure => simp [intOf]; omega
        | false =>
          have HN := Lib.hid (show res = false by
            cases res with
            | false => rfl
            | true =>
              have h := HRES.out.1 rfl
              have h1 := HP.out
              rw [h, HP2.out] at h1
              have := HRR.out.2 (Option.some.inj h1).symm
              cases this)
          clear v1 v2
          go_wp2_with fail
          go_ret
          exact ⟨by rw [HN.out]; rfl, HB_.out⟩
      · have HN := Lib.hid (show res = true by
            refine HRES.out.2 ?_
            have h := hup.out
            rw [List.take_of_length_le (by rw [List.length_map, HL1.out]; omega), List.take_of_length_le (by rw [List.length_map, HL2.out]; omega)] at h
            exact h)
        go_wp2_with fail
        go_ret
        exact ⟨by rw [HN.out]; rfl, HB.out⟩
  · have g1 : ((n : Int) == (n2 : Int)) = false := by simp; omega
    have g2 : ((n : Int) != (n2 : Int)) = true := by simp; omega
    have g3 : (n == n2) = false := by simp; omega
    have g4 : (n != n2) = true := by simp; omega
    have g5 : decide (n = n2) = false := by simp; omega
    have HN := Lib.hid (show res = false by
      cases res with
      | false => rfl
      | true => have h := congrArg List.length (HRES.out.1 rfl); rw [List.length_map, List.length_map, HL1.out, HL2.out] at h; exact absurd h hl)
    clear hl
    go_enter Tryd.func72, Tryd.ntmps72
    go_wp2_with fail
    go_ret
    exact ⟨by rw [HN.out]; rfl, HB.out⟩
set_option maxRecDepth 100000 in
set_option maxHeartbeats 2000000 in
theorem tsame_any {res : Bool} {A A2 : Option Addr} {n c n2 c2 : Nat} {B1 B2 : Option Addr} {m d m2 d2 : Nat} {fee ex fee2 ex2 : Int} {l l2 : List (Value × Inp)} {os os2 : List Outp} (hres : res = true ↔ (⟨l.map Prod.snd, os, fee, ex⟩ : Txn) = ⟨l2.map Prod.snd, os2, fee2, ex2⟩) (w : World) (hn : n ≤ 1000000) (hm : m ≤ 1000000) (hsec : ∀ p ∈ l, p.2.secret.length ≤ 1000000) (h1 : InsAt w A n c l) (h2 : InsAt w A2 n2 c2 l2) (h3 : OutsAt w B1 m d os) (h4 : OutsAt w B2 m2 d2 os2) :
    Calls Tryd.prog 30 #[.agg (txV A n c B1 m d fee ex).toArray, .agg (txV A2 n2 c2 B2 m2 d2 fee2 ex2).toArray] w fun e w' => e = .returned (.bool res) ∧ Grow w w' := by
  obtain ⟨ri, hri⟩ : ∃ r : Bool, (r = true ↔ l.map Prod.snd = l2.map Prod.snd) := by
    by_cases h : l.map Prod.snd = l2.map Prod.snd
    · exact ⟨true, by simp [h]⟩
    · exact ⟨false, by simp [h]⟩
  obtain ⟨ro, hro⟩ : ∃ r : Bool, (r = true ↔ os = os2) := by
    by_cases h : os = os2
    · exact ⟨true, by simp [h]⟩
    · exact ⟨false, by simp [h]⟩
  have HRES := Lib.hid (show res = (ri && ro && decide (fee = fee2) && decide (ex = ex2)) from txn_eq (a := ⟨l.map Prod.snd, os, fee, ex⟩) (b := ⟨l2.map Prod.snd, os2, fee2, ex2⟩) hri hro hres)
  have HEF := Lib.hid (fun (w' : World) (hg : Grow w w') => eqfunc_any hri w' hn hsec (h1.grow hg) (h2.grow hg))
  have HEO := Lib.hid (fun (w' : World) (hg : Grow w w') => eqouts_any hro w' hm (h3.grow hg) (h4.grow hg))
  have HTC := Lib.hid (txV_cl (A := A) (n := n) (c := c) (A2 := B1) (n2 := m) (c2 := d) (fee := fee) (ex := ex))
  have HUC := Lib.hid (txV_cl (A := A2) (n := n2) (c := c2) (A2 := B2) (n2 := m2) (c2 := d2) (fee := fee2) (ex := ex2))
  have HT0 := Lib.hid (show (txV A n c B1 m d fee ex)[0]? = some (.slice A n c) from rfl)
  have HT1 := Lib.hid (show (txV A n c B1 m d fee ex)[1]? = some (.slice B1 m d) from rfl)
  have HT2 := Lib.hid (show (txV A n c B1 m d fee ex)[2]? = some (.int .u64 fee) from rfl)
  have HT3 := Lib.hid (show (txV A n c B1 m d fee ex)[3]? = some (.int .i64 ex) from rfl)
  have HU0 := Lib.hid (show (txV A2 n2 c2 B2 m2 d2 fee2 ex2)[0]? = some (.slice A2 n2 c2) from rfl)
  have HU1 := Lib.hid (show (txV A2 n2 c2 B2 m2 d2 fee2 ex2)[1]? = some (.slice B2 m2 d2) from rfl)
  have HU2 := Lib.hid (show (txV A2 n2 c2 B2 m2 d2 fee2 ex2)[2]? = some (.int .u64 fee2) from rfl)
  have HU3 := Lib.hid (show (txV A2 n2 c2 B2 m2 d2 fee2 ex2)[3]? = some (.int .i64 ex2) from rfl)
  obtain ⟨tv, htv⟩ : ∃ q, q = txV A n c B1 m d fee ex := ⟨_, rfl⟩
  obtain ⟨uv, huv⟩ : ∃ q, q = txV A2 n2 c2 B2 m2 d2 fee2 ex2 := ⟨_, rfl⟩
  rw [← htv] at HTC HT0 HT1 HT2 HT3 ⊢
  rw [← huv] at HUC HU0 HU1 HU2 HU3 ⊢
  clear htv huv hri hro hres h1 h2 h3 h4 hsec hn hm
  obtain ⟨w_, hw⟩ : ∃ x, x = w := ⟨_, rfl⟩
  have HB := Lib.hid (show Below w.heap.size w w_ by rw [hw]; exact Below.refl _ _)
  suffices H : Calls Tryd.prog 30 #[.agg tv.toArray, .agg uv.toArray] w_ fun e w' => e = .returned (.bool res) ∧ Grow w w' by rw [hw] at H; exact H
  clear hw
  go_enter Tryd.func30, Tryd.ntmps30
  go_wp2_with (first | (with_reducible refine wpl_box (o := ⟨some 2, _, _, _, _, _⟩) rfl rfl rfl ?_))
  intro w2_ hb2_ hb_ hsz2_
  have HX_ := Lib.hid (at_mk hb2_ HTC.out.len)
  clear hb2_ hsz2_
  have HG_ := Lib.hid HB.out.size
  have HB_ := Lib.hid (HB.out.grow' hb_)
  clear HB
  have HB := HB_
  clear HB_
  generalize hg_ : w_.heap.size = g1 at HX_ HG_ ⊢
  clear hg_
  have HX_g := HG_
  clear HG_
  have HX := HX_
  clear hb_ HX_
  try clear w_
  rename World => w_
  go_wp2_with (first | (with_reducible refine wpl_box (o := ⟨some 3, _, _, _, _, _⟩) rfl rfl rfl ?_))
  intro w2_ hb2_ hb_ hsz2_
  have HX_ := Lib.hid (at_mk hb2_ HUC.out.len)
  clear hb2_ hsz2_
  have HG_ := Lib.hid HB.out.size
  have HB_ := Lib.hid (HB.out.grow' hb_)
  clear HB
  have HB := HB_
  clear HB_
  have HX_ := Lib.hid (HX.out.grow hb_)
  clear HX
  have HX := HX_
  clear HX_
  generalize hg_ : w_.heap.size = g2 at HX_ HG_ ⊢
  clear hg_
  have HY_g := HG_
  clear HG_
  have HY := HX_
  clear hb_ HX_
  try clear w_
  rename World => w_
  have c0 := HX.out.blk.at_ HT0.out; have d0 := HY.out.blk.at_ HU0.out
  go_wp2_with fail
  refine (HEF.out _ HB.out).mono ?_
  clear c0 d0
  rintro e w2_ ⟨rfl, hb_⟩
  have hb_ := hb_
  clear hb_
  have HB_ := Lib.hid (HB.out.grow' hb_)
  clear HB
  have HB := HB_
  clear HB_
  have HX_ := Lib.hid (HX.out.grow hb_)
  clear HX
  have HX := HX_
  clear HX_
  have HY_ := Lib.hid (HY.out.grow hb_)
  clear HY
  have HY := HY_
  clear HY_
  clear hb_
  try clear w_
  rename World => w_
  have c1 := HX.out.blk.at_ HT1.out; have d1 := HY.out.blk.at_ HU1.out
  cases ri with
  | false =>
    have HN := Lib.hid (show res = false by rw [HRES.out]; rfl)
    go_wp2_with fail
    go_ret
    exact ⟨by rw [HN.out]; rfl, HB.out⟩
  | true =>
    go_wp2_with fail
    refine (HEO.out _ HB.out).mono ?_
    clear c1 d1
    rintro e w3_ ⟨rfl, hb_⟩
    have hb_ := hb_
    clear hb_
    have HB_ := Lib.hid (HB.out.grow' hb_)
    clear HB
    have HB := HB_
    clear HB_
    have HX_ := Lib.hid (HX.out.grow hb_)
    clear HX
    have HX := HX_
    clear HX_
    have HY_ := Lib.hid (HY.out.grow hb_)
    clear HY
    have HY := HY_
    clear HY_
    clear hb_
    try clear w_
    rename World => w_
    have c2_ := HX.out.blk.at_ HT2.out; have d2_ := HY.out.blk.at_ HU2.out
    have c3_ := HX.out.blk.at_ HT3.out; have d3_ := HY.out.blk.at_ HU3.out
    cases ro with
    | false =>
      have HN := Lib.hid (show res = false by rw [HRES.out]; rfl)
      go_wp2_with fail
      go_ret
      exact ⟨by rw [HN.out]; rfl, HB.out⟩
    | true =>
      by_cases hf : fee = fee2
      · by_cases he : ex = ex2
        · have HN := Lib.hid (show res = true by rw [HRES.out, decide_eq_true hf, decide_eq_true he]; rfl)
          subst hf; subst he
          go_wp2_with fail
          go_ret
          exact ⟨by rw [HN.out]; simp, HB.out⟩
        · have HN := Lib.hid (show res = false by rw [HRES.out, decide_eq_false he]; simp)
          have b1 : (ex == ex2) = false := by simp [he]
          have b2 : decide (ex = ex2) = false := by simp [he]
          subst hf
          go_wp2_with fail
          go_ret
          exact ⟨by rw [HN.out]; first | rfl | simp [he], HB.out⟩
      · have HN := Lib.hid (show res = false by rw [HRES.out, decide_eq_false hf]; simp)
        have b1 : (fee == fee2) = false := by simp [hf]
        have b2 : decide (fee = fee2) = false := by simp [hf]
        go_wp2_with fail
        go_ret
        exact ⟨by rw [HN.out]; first | rfl | simp [hf], HB.out⟩
end Go.Proofs.YtphmefhnffoafaaDoor

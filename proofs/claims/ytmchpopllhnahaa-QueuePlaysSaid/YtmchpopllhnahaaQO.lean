/- The walk of QueueOrder. -/
import Derived.Test.YtmchpopllhnahaaQW
import Derived.Test.YtmchpopllhnahaaQP0
namespace Go.Proofs.Ytmchpopllhnahaa
open Go.RowKit
set_option linter.unusedVariables false
theorem bt_wr {i : Int} {r : Nat} : Try.prog.built 29 [(1, .int .i64 i), (2, .float .f64 r)] = some (wtV nilS ⟨0, i, r, []⟩).toArray := by
  rw [built_wt, fill_cons (off := 1) (s := 1) (cs := [.int .i64 i]) rfl rfl rfl (by simp [wtV]), fill_cons (off := 2) (s := 1) (cs := [.float .f64 r]) rfl rfl rfl (by simp [wtV, splice]), fill_nil]; rfl
/-- A push of a law's own request, with room. -/
theorem ord_push {w : World} {base g : Nat} {M : List Nat} {ps : List Wt} {d : Int} {xs : List Nat} {k : Nat} {r : Nat} (h : QP w base g [] M ps) (ho : OrdI d xs k ps) (hr : xs[k]? = some r) (hr64 : r < 2^64) (hl : ps.length < 32) :
    Calls Try.prog 9 #[.pointer (some ⟨g, 0, none⟩), .agg (wtV nilS ⟨0, (k : Int) + d, r, []⟩).toArray] w fun e w' => ∃ vo M' ps', e = .returned (.tuple #[.agg (wtV vo noWt).toArray, .int .i64 0]) ∧ vo.oneCell' = true ∧ QP w' base g [] M' ps' ∧ Step w M w' M' ∧ OrdI d xs (k + 1) ps' ∧ ps'.length = ps.length + 1 := by
  obtain ⟨h1, h2⟩ := ho.push hr hl
  refine (lpush_any (v := nilS) (p := ⟨0, (k : Int) + d, r, []⟩) h (BV.nil w M) ⟨hr64, by simp⟩).mono ?_
  rintro e w' ⟨vo, M', h3, h4, h5, h6⟩
  rw [h1] at h3 h4 h5
  exact ⟨vo, M', _, h3, h4.one, h5, h6, h2, insP_length _ _⟩
/-- Requests without bytes: a store elsewhere leaves the queue. -/
theorem QP.offnil {w w' : World} {base g q : Nat} {M : List Nat} {ps : List Wt} (h : QP w base g [] M ps) (hp : ∀ p ∈ ps, p.bs = []) (k : w.grownBy w' (some q)) (hq : q ∉ M) : QP w' base g [] M ps := by
  obtain ⟨A, n, c, L, rfl, rfl, h3, h4⟩ := h
  have hne : ∀ b ∈ qM g A, some b ≠ some q := fun b hb e => hq (by cases e; exact hb)
  refine ⟨A, n, c, L, rfl, rfl, ⟨h3.blk.grown k (hne g (qM_mem.2 (.inl rfl))), own_kept h3.own k (fun b hb => hne b (qM_mem.2 (.inr (by rw [hb]; rfl)))), h3.big, fun p hm => ⟨?_, (h3.els p hm).2⟩, h3.low⟩, fun b _ hb => by cases hb⟩
  obtain ⟨A1, n1, c1, e1, e2, e3, e4⟩ := (h3.els p hm).1
  have hb := hp p.2 (List.mem_map_of_mem hm)
  rw [hb] at e2 e3 ⊢
  obtain rfl : n1 = 0 := e2
  exact ⟨A1, 0, c1, e1, rfl, ⟨rfl, fun h => absurd h (by omega)⟩, fun h => absurd h (by omega)⟩
set_option maxRecDepth 100000 in
set_option maxHeartbeats 8000000 in
theorem queueOrder_any {A : Option Addr} {n c : Nat} {xs : List Nat} (w : World) (hs : Sl w w.heap.size 1 A n (xs.map (Value.float .f64))) (hx : ∀ x ∈ xs, x < 2^64) :
    Calls Try.prog 3 #[.slice A n c] w fun e w' => e = .returned (.bool true) ∧ Below w.heap.size w w' := by
  have HS := Lib.hid hs
  have HX := Lib.hid hx
  have HL := Lib.hid (show xs.length = n by have := hs.len; simpa using this)
  have HAW := Lib.hid awake26_any
  clear hs hx
  by_cases hn : n ≤ 32
  · have hn2 : ¬ (32 < (n : Int)) := by omega
    go_enter Try.func3, Try.ntmps3
    go_wp2_with fail
    refine (lnew_any (Nat.le_refl _)).mono ?_
    rintro e w1 ⟨g, rfl, hq, hb, hg⟩
    have HQ := Lib.hid hq
    have HB := Lib.hid (show Below w.heap.size w w1 from hb)
    clear hq hb hg
    go_wp2_with fail
    go_loopw [4] (fun iv wr => ∃ k : Nat, ∃ M ps, k ≤ n ∧ iv = .int .i64 k ∧ Hid (QP wr w.heap.size g [] M ps ∧ OrdI 0 xs k ps ∧ ps.length = k ∧ Below w.heap.size w wr)) (fun iv _ => n - (intOf iv).toNat)
    case atStart => exact ⟨0, [g], [], by omega, rfl, Lib.hid ⟨HQ.out, OrdI.start _ _, rfl, HB.out⟩⟩
    case round =>
      obtain ⟨k, M, ps, hk, rfl, hI⟩ := hrel
      clear HQ HB
      have HQ := Lib.hid hI.out.1; have HO := Lib.hid hI.out.2.1; have HLP := Lib.hid hI.out.2.2.1; have HB := Lib.hid hI.out.2.2.2
      clear hI
      rename World => w_
      by_cases hlt : k < n
      · obtain ⟨b, off, u, rfl, hbl, hu, hc⟩ := HS.out.at_ hlt
        rw [List.getElem?_map] at hu
        obtain ⟨r, hr, rfl⟩ := Option.map_eq_some_iff.1 hu
        have HR := Lib.hid hr
        have HR64 := Lib.hid (HX.out r (List.mem_of_getElem? hr))
        have c1 := bcell HB.out hc
        have HPU := Lib.hid (ord_push (d := 0) HQ.out HO.out HR.out HR64.out (by have := HLP.out; omega))
        have HBT := Lib.hid (bt_wr (i := (k : Int)) (r := r))
        rw [Int.add_zero] at HPU
        obtain ⟨ys, hys⟩ : ∃ x, x = wtV nilS ⟨0, (k : Int), r, []⟩ := ⟨_, rfl⟩
        rw [← hys] at HPU HBT
        clear hu hr hys hbl hc
        go_wp2_with (first | (with_reducible refine wpl_stop (o := ⟨some 32, _, _, _, _, _⟩) ?_))
        refine stop_go ?_
        refine wpl_build rfl rfl HBT.out ?_
        go_wp2_with fail
        refine HPU.out.mono ?_
        rintro e w2 ⟨vo, M', ps', rfl, h1, hq, hs, ho, hl⟩
        have HQ2 := Lib.hid hq; have HO2 := Lib.hid ho; have HL2 := Lib.hid (show ps'.length = k + 1 by rw [hl, HLP.out])
        have HB2 := Lib.hid (HQ.out.below HB.out hs)
        have HD := Lib.hid (wtV_cl noWt h1)
        clear h1 hq hs ho hl HQ HO HLP HB HPU HBT c1
        obtain ⟨zs, hzs⟩ : ∃ x, x = wtV vo noWt := ⟨_, rfl⟩
        rw [← hzs] at HD ⊢
        clear hzs
        have HB := HB2
        clear HB2
        try clear w_
        rename World => w_
        go_wp2_with (first | (with_reducible refine wpl_alloc (o := ⟨some 5, _, _, _, _, _⟩) rfl rfl zero_wait ?_))
        intro w1_ hb1_ hbw1_ hsz1_
        have HB1_ := Lib.hid (at_mk hb1_ len_wait)
        have HBW1_ := Lib.hid hbw1_
        have HZ1_ := Lib.hid hsz1_
        clear hb1_ hbw1_ hsz1_
        go_wp2_with (first | (with_reducible refine wpl_storeb (o := ⟨none, .store _ _ _, _, _, _, _⟩) rfl rfl row_wait HB1_.out.blk rfl rfl HB1_.out.len HD.out.len HD.out.one ?_))
        intro w2_ hb2_ hg2_ hsz2_
        have HG_ := Lib.hid HB.out.size
        have hb_ := var_grow HBW1_.out HZ1_.out hg2_
        have HX_ := Lib.hid (at_mk hb2_ HD.out.len)
        clear hb2_ hg2_ hsz2_ HB1_ HBW1_ HZ1_
        have HB_ := Lib.hid (HB.out.grow' hb_)
        clear HB
        have HB := HB_
        clear HB_
        have HQ2_ := Lib.hid (HQ2.out.grow hb_)
        clear HQ2
        have HQ2 := HQ2_
        clear HQ2_
        generalize hg_ : w_.heap.size = g5 at HX_ HG_ ⊢
        clear hg_
        have HV := HX_
        clear hb_ HX_
        clear w1_
        try clear w_
        rename World => w_
        have HV_g := HG_
        clear HG_
        have v1 : IntKind.i64.wrap ((k : Int) + 1) = (k : Int) + 1 := IntWalk.i64_in _ (by omega)
        go_wp2_with fail
        go_roundw
        all_goals clear v1
        case rel => exact ⟨k + 1, M', ps', by omega, by go_num, Lib.hid ⟨HQ2.out, HO2.out, HL2.out, HB.out⟩⟩
        case measure => simp [intOf]; omega
      · obtain rfl : k = n := by omega
        have HBI := Lib.hid (bt_wr (i := -1) (r := 9218868437227405312))
        have HDI := Lib.hid (wtV_cl ⟨0, -1, 9218868437227405312, []⟩ (v := nilS) rfl)
        have HPA := Lib.hid (show ((⟨0, -1, 9218868437227405312, []⟩ : Wt) :: ps).Pairwise Ah from List.pairwise_cons.2 ⟨fun x hx => by
          obtain ⟨_, _, j, hj, e, h3⟩ := HO.out.2.2 x hx
          have h4 := key_top x.rate (HX.out _ (List.mem_of_getElem? h3))
          show keyF x.rate < keyF 9218868437227405312 ∨ (keyF 9218868437227405312 = keyF x.rate ∧ (-1 : Int) < x.num)
          omega, HO.out.1⟩)
        obtain ⟨lw, hlw⟩ : ∃ x, x = (⟨0, -1, 9218868437227405312, []⟩ : Wt) := ⟨_, rfl⟩
        have HLR := Lib.hid (show lw.rate < 2^64 by rw [hlw]; decide)
        have HBI2 := Lib.hid (show Try.prog.built 29 [(1, .int .i64 (-1)), (2, .float .f64 9218868437227405312)] = some (wtV nilS lw).toArray by rw [hlw]; exact HBI.out)
        rw [← hlw] at HDI HPA
        clear hlw HBI
        obtain ⟨ys, hys⟩ : ∃ x, x = wtV nilS lw := ⟨_, rfl⟩
        have HYS := Lib.hid hys
        rw [← hys] at HDI HBI2
        clear hys
        have HML_ := Lib.hid (fun b hb => (HQ.out.lts b hb).2)
        have HFM := Lib.hid (show ∀ x ∈ ps, ∃ j : Nat, j < k ∧ x.num = (j : Int) ∧ xs[j]? = some x.rate ∧ x.bs = [] from fun x hx => by
          obtain ⟨_, h2, j, hj, e, h3⟩ := HO.out.2.2 x hx
          exact ⟨j, hj, by rw [e]; omega, h3, h2⟩)
        clear HO
        go_wp2_with fail
        refine ((minf_pos _)).mono ?_
        rintro e w_ ⟨rfl, rfl⟩
        go_wp2_with (first | (with_reducible refine wpl_stop (o := ⟨some 39, _, _, _, _, _⟩) ?_))
        refine stop_go ?_
        refine wpl_build rfl rfl HBI2.out ?_
        go_wp2_with (first | (with_reducible refine wpl_alloc (o := ⟨some 7, _, _, _, _, _⟩) rfl rfl zero_wait ?_))
        intro w1_ hb1_ hbw1_ hsz1_
        have HB1_ := Lib.hid (at_mk hb1_ len_wait)
        have HBW1_ := Lib.hid hbw1_
        have HZ1_ := Lib.hid hsz1_
        clear hb1_ hbw1_ hsz1_
        go_wp2_with (first | (with_reducible refine wpl_storeb (o := ⟨none, .store _ _ _, _, _, _, _⟩) rfl rfl row_wait HB1_.out.blk rfl rfl HB1_.out.len HDI.out.len HDI.out.one ?_))
        intro w2_ hb2_ hg2_ hsz2_
        have HG_ := Lib.hid HB.out.size
        have hb_ := var_grow HBW1_.out HZ1_.out hg2_
        have HX_ := Lib.hid (at_mk hb2_ HDI.out.len)
        clear hb2_ hg2_ hsz2_ HB1_ HBW1_ HZ1_
        have HB_ := Lib.hid (HB.out.grow' hb_)
        clear HB
        have HB := HB_
        clear HB_
        have HQ_ := Lib.hid (HQ.out.grow hb_)
        clear HQ
        have HQ := HQ_
        clear HQ_
        generalize hg_ : w_.heap.size = g7 at HX_ HG_ HML_ ⊢
        clear hg_
        have HW := HX_
        clear hb_ HX_
        clear w1_
        try clear w_
        rename World => w_
        have HW_g := HG_
        clear HG_
        have HN7 := Lib.hid (show g7 ∉ M from fun hm => Nat.lt_irrefl _ (HML_.out _ hm))
        clear HML_
        rw [HYS.out] at HW
        go_wp2_with fail
        go_loopw [8] (fun iv wr => ∃ i : Nat, ∃ qs lv lq, i ≤ k ∧ iv = .int .i64 i ∧ Hid (QP wr w.heap.size g [] M qs ∧ At wr g7 29 4 (wtV lv lq) ∧ Below w.heap.size w wr) ∧ Hid (qs.length = k - i ∧ (lq :: qs).Pairwise Ah ∧ lq.rate < 2^64 ∧ ∀ x ∈ qs, ∃ j : Nat, j < k ∧ x.num = (j : Int) ∧ xs[j]? = some x.rate ∧ x.bs = [])) (fun iv _ => k - (intOf iv).toNat)
        case atStart => exact ⟨0, ps, nilS, lw, by omega, rfl, Lib.hid ⟨HQ.out, HW.out, HB.out⟩, Lib.hid ⟨HLP.out, HPA.out, HLR.out, HFM.out⟩⟩
        case round =>
          obtain ⟨i, qs, lv, lq, hi, rfl, hI, hJ⟩ := hrel
          clear HQ HB HW HLP HPA HLR HFM
          have HQ := Lib.hid hI.out.1; have HW := Lib.hid hI.out.2.1; have HB := Lib.hid hI.out.2.2
          have HLP := Lib.hid hJ.out.1; have HPA := Lib.hid hJ.out.2.1; have HLR := Lib.hid hJ.out.2.2.1; have HFM := Lib.hid hJ.out.2.2.2
          clear hI hJ
          rename World => w_
          by_cases hlt : i < k
          · obtain ⟨x, qs', rfl⟩ : ∃ x q, qs = x :: q := by
              cases qs with
              | nil => have := HLP.out; simp at this; omega
              | cons x q => exact ⟨x, q, rfl⟩
            obtain ⟨j, hj, hxn, hxr, hxb⟩ := HFM.out x (List.mem_cons_self ..)
            obtain ⟨b, off, u, rfl, hbl, hu, hc⟩ := HS.out.at_ hj
            rw [List.getElem?_map, hxr] at hu
            cases hu
            have HPOP := Lib.hid (show Calls Try.prog 11 #[.pointer (some ⟨g, 0, none⟩)] w_ fun e w' => ∃ vo, e = .returned (.tuple #[.agg (wtV vo x).toArray, .bool true]) ∧ BV w' M vo x.bs ∧ QP w' w.heap.size g [] M qs' ∧ Step w_ M w' M from lpop_any HQ.out)
            have HXR64 := Lib.hid (HX.out _ (List.mem_of_getElem? hxr))
            have HSM := Lib.hid (show ∀ w, Calls Try.prog 12 #[.float .f64 x.rate, .float .f64 x.rate] w fun e w' => e = .returned (.bool true) ∧ Below w.heap.size w w' from fun w => by
              refine (rsame_any x.rate x.rate w HXR64.out HXR64.out).mono ?_
              rintro e w' ⟨h1, rfl⟩
              exact ⟨by rw [h1]; simp [sameF], Below.refl _ _⟩)
            have HCM := Lib.hid (fun w => refcmp_any lq.rate x.rate w HLR.out HXR64.out)
            have HAH := Lib.hid ((List.pairwise_cons.1 HPA.out).1 x (List.mem_cons_self ..))
            have HPA2 := Lib.hid (List.pairwise_cons.1 HPA.out).2
            have HRC := Lib.hid hc
            have HXN := Lib.hid hxn
            have HL2 := Lib.hid (show qs'.length = k - (i + 1) by have := HLP.out; rw [List.length_cons] at this; omega)
            have HFM2 := Lib.hid (fun y (hy : y ∈ qs') => HFM.out y (List.mem_cons_of_mem _ hy))
            clear hbl hc hxn hxr HPA HLP HFM HQ
            go_wp2_with fail
            refine HPOP.out.mono ?_
            rintro e w2 ⟨vo, rfl, h1, hq, hs⟩
            have HQ := Lib.hid hq
            have HW2 := Lib.hid (HW.out.step HN7.out hs).1
            have HB2 := Lib.hid (show Below w.heap.size w w2 from HB.out.trans (hs.below (fun b hb => (HQ.out.lts b hb).1) HB.out.size))
            have HD := Lib.hid (wtV_cl x h1.one)
            clear h1 hq hs HW HB HPOP
            have HW := HW2; have HB := HB2
            clear HW2 HB2
            try clear w_
            rename World => w_
            have H1 := Lib.hid (show (wtV vo x)[1]? = some (.int .i64 (j : Int)) by rw [← HXN.out]; rfl)
            have H2 := Lib.hid (show (wtV vo x)[2]? = some (.float .f64 x.rate) from rfl)
            have L1 := Lib.hid (show (wtV lv lq)[1]? = some (.int .i64 lq.num) from rfl)
            have L2 := Lib.hid (show (wtV lv lq)[2]? = some (.float .f64 lq.rate) from rfl)
            obtain ⟨ys2, hys2⟩ : ∃ y, y = wtV vo x := ⟨_, rfl⟩
            have HYS2 := Lib.hid hys2
            obtain ⟨ls, hls⟩ : ∃ y, y = wtV lv lq := ⟨_, rfl⟩
            rw [← hys2] at HD H1 H2 ⊢
            rw [← hls] at HW L1 L2
            clear hys2 hls
            go_wp2_with (first | (with_reducible refine wpl_alloc (o := ⟨some 9, _, _, _, _, _⟩) rfl rfl zero_wait ?_))
            intro w1_ hb1_ hbw1_ hsz1_
            have HB1_ := Lib.hid (at_mk hb1_ len_wait)
            have HBW1_ := Lib.hid hbw1_
            have HZ1_ := Lib.hid hsz1_
            clear hb1_ hbw1_ hsz1_
            go_wp2_with (first | (with_reducible refine wpl_storeb (o := ⟨none, .store _ _ _, _, _, _, _⟩) rfl rfl row_wait HB1_.out.blk rfl rfl HB1_.out.len HD.out.len HD.out.one ?_))
            intro w2_ hb2_ hg2_ hsz2_
            have HG_ := Lib.hid HB.out.size
            have hb_ := var_grow HBW1_.out HZ1_.out hg2_
            have HX_ := Lib.hid (at_mk hb2_ HD.out.len)
            clear hb2_ hg2_ hsz2_ HB1_ HBW1_ HZ1_
            have HB_ := Lib.hid (HB.out.grow' hb_)
            clear HB
            have HB := HB_
            clear HB_
            have HQ_ := Lib.hid (HQ.out.grow hb_)
            clear HQ
            have HQ := HQ_
            clear HQ_
            have HW_ := Lib.hid (HW.out.grow hb_)
            clear HW
            have HW := HW_
            clear HW_
            generalize hg_ : w_.heap.size = g9 at HX_ HG_ ⊢
            clear hg_
            have HV := HX_
            clear hb_ HX_
            clear w1_
            try clear w_
            rename World => w_
            have HV_g := HG_
            clear HG_
            have b1 : ¬ ((j : Int) < 0) := by omega
            have b2 : ¬ ((k : Int) ≤ (j : Int)) := by omega
            have c1 := HV.out.blk.at_ H1.out
            have c2 := HV.out.blk.at_ H2.out
            have cr := bcell HB.out HRC.out
            try go_wp2_with fail
            repeat' (first | (with_reducible refine wp_plan (id := 17) Grow [0,0,0,0,2,0,0,0,0,2,0,0,0,0,0,0,2,0,0,2,0,2,3,0,0] (.get 0 (.get 1 (.get 2 (.get 3 (.get 4 (.get 5 (.get 6 (.get 7 (.get 8 (.get 9 (.get 10 (.get 11 (.get 12 (.get 13 (.get 14 (.get 15 (.get 16 (.get 17 (.get 18 (.get 19 (.get 20 (.get 21 (.act 22 (.get 23 (.get 24 .done))))))))))))))))))))))))) (by kernel_rfl) (by kernel_rfl) Grow.refl Grow.trans ?_) | go_values | go_skip | go_guarded | go_step | go_upon | go_back)
            intro w_ hd_
            have hb_ := hd_.grow
            have HB_ := Lib.hid (HB.out.grow' hb_)
            clear HB
            have HB := HB_
            clear HB_
            have HQ_ := Lib.hid (HQ.out.grow hb_)
            clear HQ
            have HQ := HQ_
            clear HQ_
            have HW_ := Lib.hid (HW.out.grow hb_)
            clear HW
            have HW := HW_
            clear HW_
            have HV_ := Lib.hid (HV.out.grow hb_)
            clear HV
            have HV := HV_
            clear HV_
            clear hb_ hd_
            replace c1 := HV.out.blk.at_ H1.out
            replace c2 := HV.out.blk.at_ H2.out
            replace cr := bcell HB.out HRC.out
            repeat (first | (refine pl_calm rfl rfl (by first | exact wanted_none rfl | (go_simp; done) | rfl) (fun w_ => by first | (go_simp; rfl) | (go_simp; done) | rfl) (fun K hK => ?_); go_simp; refine hK _ _ ?_; clear hK K) | (refine pl_skip rfl (by first | (go_simp; done) | rfl) (fun K hK => ?_); go_simp; refine hK _ _ ?_; clear hK K) | (refine pl_skipa rfl (by first | (go_simp; done) | rfl) (fun K hK => ?_); go_simp; refine hK _ _ ?_; clear hK K) | (refine pl_load rfl rfl (by first | exact wanted_none rfl | (go_simp; done) | rfl) rfl (by first | rfl | (go_simp; rfl)) (by kernel_rfl) (by first | exact c1 | exact c2 | exact cr) (fun K hK => ?_); go_simp; refine hK _ _ ?_; clear hK K) | (refine pl_loadnow rfl rfl (by first | exact wanted_none rfl | (go_simp; done) | rfl) rfl (by first | rfl | (go_simp; rfl)) (by kernel_rfl) (by first | exact c1 | exact c2 | exact cr) (fun K hK => ?_); go_simp; refine hK _ _ ?_; clear hK K))
            refine pl_act rfl (by first | exact wanted_none rfl | (go_simp; done) | rfl) (fun K hK => ?_)
            go_wp2_with fail
            refine (HSM.out _).mono ?_
            rintro e w_ ⟨rfl, hb_⟩
            go_wp2_with fail
            refine hK _ _ (fun _ => hb_) ?_
            clear hK K
            have HB_ := Lib.hid (HB.out.grow' hb_)
            clear HB
            have HB := HB_
            clear HB_
            have HQ_ := Lib.hid (HQ.out.grow hb_)
            clear HQ
            have HQ := HQ_
            clear HQ_
            have HW_ := Lib.hid (HW.out.grow hb_)
            clear HW
            have HW := HW_
            clear HW_
            have HV_ := Lib.hid (HV.out.grow hb_)
            clear HV
            have HV := HV_
            clear HV_
            clear hb_
            repeat (first | (refine pl_calm rfl rfl (by first | exact wanted_none rfl | (go_simp; done) | rfl) (fun w_ => by first | (go_simp; rfl) | (go_simp; done) | rfl) (fun K hK => ?_); go_simp; refine hK _ _ ?_; clear hK K) | (refine pl_skip rfl (by first | (go_simp; done) | rfl) (fun K hK => ?_); go_simp; refine hK _ _ ?_; clear hK K) | (refine pl_skipa rfl (by first | (go_simp; done) | rfl) (fun K hK => ?_); go_simp; refine hK _ _ ?_; clear hK K))
            refine pl_done ?_
            clear c1 c2 cr b1 b2 HSM
            have c1 := HV.out.blk.at_ H1.out
            have c2 := HV.out.blk.at_ H2.out
            have d1 := HW.out.blk.at_ L1.out
            have d2 := HW.out.blk.at_ L2.out
            have HZ := Lib.hid (show (cmpK lq.rate x.rate = 1 ∨ (cmpK lq.rate x.rate = 0 ∧ lq.num < (j : Int))) by
              rw [← HXN.out]
              rcases HAH.out with h | h
              · left; unfold cmpK cmpN; unfold keyW at h; rw [if_neg (by omega), if_pos h]
              · right; refine ⟨?_, h.2⟩; unfold cmpK cmpN; unfold keyW at h; rw [if_neg (by omega), if_neg (by omega)])
            obtain ⟨z, hz⟩ : ∃ z, z = cmpK lq.rate x.rate := ⟨_, rfl⟩
            rw [← hz] at HZ HCM
            obtain ⟨ln, hln⟩ : ∃ z, z = lq.num := ⟨_, rfl⟩
            rw [← hln] at HZ d1
            clear hz hln HAH
            go_wp2_with fail
            refine (HCM.out _).mono ?_
            rintro e w2 ⟨rfl, rfl⟩
            have v1 : IntKind.i64.wrap ((i : Int) + 1) = (i : Int) + 1 := IntWalk.i64_in _ (by omega)
            rcases HZ.out with rfl | ⟨rfl, hlt3⟩
            · go_wp2_with (first | (with_reducible refine wpl_loadb (o := ⟨some 94, _, _, _, _, _⟩) rfl rfl row_wait HV.out.blk rfl HV.out.len ?_) | (with_reducible refine wpl_storeb (o := ⟨none, .store _ _ _, _, _, _, _⟩) rfl rfl row_wait HW.out.blk rfl rfl HW.out.len HD.out.len HD.out.one ?_))
              intro w2 hb2 hg2 hz2
              have HG := Lib.hid hg2
              have HW2 := Lib.hid (show At w2 g7 29 4 (wtV vo x) by rw [← HYS2.out]; exact at_mk hb2 HD.out.len)
              have HQ2 := Lib.hid (HQ.out.offnil (fun y hy => by obtain ⟨_, _, _, _, h⟩ := HFM2.out y hy; exact h) HG.out HN7.out)
              have HB2 := Lib.hid (put_below HB.out HW_g.out HG.out)
              clear hb2 hg2 hz2 HG HQ HW HV HB
              clear c1 c2 d1 d2
              go_wp2_with fail
              go_roundw
              all_goals clear v1
              case rel => exact ⟨i + 1, qs', vo, x, by omega, by go_num, Lib.hid ⟨HQ2.out, HW2.out, HB2.out⟩, Lib.hid ⟨HL2.out, HPA2.out, HXR64.out, HFM2.out⟩⟩
              case measure => simp [intOf]; omega
            · have b3 : ¬ ((j : Int) ≤ ln) := by omega
              go_wp2_with (first | (with_reducible refine wpl_loadb (o := ⟨some 94, _, _, _, _, _⟩) rfl rfl row_wait HV.out.blk rfl HV.out.len ?_) | (with_reducible refine wpl_storeb (o := ⟨none, .store _ _ _, _, _, _, _⟩) rfl rfl row_wait HW.out.blk rfl rfl HW.out.len HD.out.len HD.out.one ?_))
              intro w2 hb2 hg2 hz2
              have HG := Lib.hid hg2
              have HW2 := Lib.hid (show At w2 g7 29 4 (wtV vo x) by rw [← HYS2.out]; exact at_mk hb2 HD.out.len)
              have HQ2 := Lib.hid (HQ.out.offnil (fun y hy => by obtain ⟨_, _, _, _, h⟩ := HFM2.out y hy; exact h) HG.out HN7.out)
              have HB2 := Lib.hid (put_below HB.out HW_g.out HG.out)
              clear hb2 hg2 hz2 HG HQ HW HV HB
              clear c1 c2 d1 d2
              go_wp2_with fail
              go_roundw
              all_goals clear v1
              case rel => exact ⟨i + 1, qs', vo, x, by omega, by go_num, Lib.hid ⟨HQ2.out, HW2.out, HB2.out⟩, Lib.hid ⟨HL2.out, HPA2.out, HXR64.out, HFM2.out⟩⟩
              case measure => simp [intOf]; omega
          · obtain rfl : i = k := by omega
            have HQE := Lib.hid (show qs = [] from List.eq_nil_of_length_eq_zero (by rw [HLP.out]; omega))
            have HLEN := Lib.hid (show Calls Try.prog 14 #[.pointer (some ⟨g, 0, none⟩)] w_ fun e w' => e = .returned (.int .i64 0) ∧ w_ = w' by
              have h := llen_any HQ.out
              rw [HQE.out] at h
              exact h)
            go_wp2_with fail
            refine HLEN.out.mono ?_
            rintro e w2 ⟨rfl, rfl⟩
            go_wp2_with fail
            refine (HAW.out _).mono ?_
            rintro e w2 ⟨rfl, hb⟩
            have HB2 := Lib.hid (HB.out.grow' hb)
            clear hb
            go_wp2_with fail
            go_ret
            exact ⟨rfl, HB2.out⟩
  · have hn2 : (32 < (n : Int)) := by omega
    go_enter Try.func3, Try.ntmps3
    go_wp2_with fail
    refine (HAW.out _).mono ?_
    rintro e w1 ⟨rfl, hb⟩
    have HB := Lib.hid hb
    clear hb
    go_wp2_with fail
    go_ret
    exact ⟨rfl, HB.out⟩
end Go.Proofs.Ytmchpopllhnahaa

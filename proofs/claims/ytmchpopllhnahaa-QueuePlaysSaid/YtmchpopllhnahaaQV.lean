/- The walk of QueuePlays. Printed by mkqv.py. -/
import Derived.Test.YtmchpopllhnahaaQL1
import Derived.Deep.CutRange
namespace Go.Proofs.Ytmchpopllhnahaa
open Go.RowKit
set_option linter.unusedVariables false
theorem QP.nmem {w : World} {base g q : Nat} {X M : List Nat} {ps : List Wt} {T : TypeId} {cs : List Value} (h : QP w base g X M ps) (hb : Blk w q T cs) (h1 : T ≠ 29) (h2 : T ≠ 58) : q ∉ M := by
  obtain ⟨A, n, c, L, rfl, -, h3, -⟩ := h
  intro hm
  rcases qM_mem.1 hm with rfl | hm
  · have h4 := h3.blk
    unfold Blk at h4 hb
    rw [h4] at hb
    injection hb with hb
    injection hb with _ hb
    exact h2 hb.symm
  · rcases h3.own.2 with ⟨hv, _⟩ | ⟨g2, cap, cur, hv, _, hh, _⟩
    · injection hv with hA; rw [hA] at hm; cases hm
    · injection hv with hA
      rw [hA] at hm
      cases hm
      unfold Blk at hb
      rw [hb] at hh
      injection hh with hh
      injection hh with _ ht
      exact h1 ht
theorem XAt.one {w : World} {M : List Nat} {q : Nat} {v : Value} {p : Wt} (hb : Blk w q 29 (wtV v p)) (hq : q ∉ M) (hv : BV w M v p.bs) (hk : p.ok) : XAt w M (some ⟨q, 0, none⟩) 1 [(v, p)] :=
  ⟨rfl, by rw [wflat_one]; exact hb.sl (by simp [wtV]), fun _ b hb2 hm => by cases hb2; exact hq hm, fun x hx => by rw [List.mem_singleton] at hx; subst hx; exact ⟨hv, hk⟩⟩
theorem QP.ok {w : World} {base g : Nat} {X M : List Nat} {ps : List Wt} (h : QP w base g X M ps) : ∀ p ∈ ps, p.ok := by
  obtain ⟨A, n, c, L, rfl, rfl, h3, -⟩ := h
  intro p hp
  obtain ⟨x, hx, rfl⟩ := List.mem_map.1 hp
  exact (h3.els x hx).2
theorem wpl_row1w {P : Program} {w : World} {ops : Array Oper} {rest : List Oper} {o : Oper} {a : Act} {Q : Exit → Act → World → Prop} (hw : Region.wanted o (yielded ops a.tmps) = true) {t : TypeId} {x : Operand} (ho : o.op = .buildSlice t 1 #[(0, x)]) {e : TypeId} {sz bytes : Nat} (HE : ElemT P t e sz bytes) {ys : List Value}
    (hx : a.eval x = .agg ys.toArray) (hl : ys.length = sz) (h24 : sz ≤ 16777216)
    (h : ∀ w', Blk w' w.heap.size e ys → Grow w w' → w'.heap.size = w.heap.size + 1 → wpList P ops Q rest (a.put o.dst (.slice (some ⟨w.heap.size, 0, none⟩) 1 1)) w') : wpList P ops Q (o :: rest) a w := by
  refine wpl_wanted hw fun K hK => ?_
  have hr := run_row1 (P := P) (w := w) HE hl h24
  obtain ⟨n1, n2, n3⟩ := alloc_new w ys.toArray e
  unfold Oper.wp execOp
  simp only [ho, List.map_toArray, List.map_cons, List.map_nil, hx, Sem.run_bind, hr, Result.andThen_ok, Sem.run_pure]
  exact hK _ _ (h _ n1 n2 n3)
theorem bt_m5 : Try.prog.built 29 [(0, .int .i64 (-5)), (2, .float .f64 9218868437227405312)] = some (wtV nilS ⟨-5, 0, 9218868437227405312, []⟩).toArray := by rw [built_wt]; rfl
theorem pushP_ok {ps : List Wt} {p : Wt} (h : ∀ x ∈ ps, x.ok) : (pushP ps p).2.1.ok := by
  unfold pushP
  split
  · exact noWt_ok
  · split
    · split
      · exact noWt_ok
      · rename_i h1 _
        refine h _ ?_
        rw [List.getD_eq_getElem?_getD, List.getElem?_eq_getElem (by omega)]
        exact List.getElem_mem _
    · exact noWt_ok
set_option maxRecDepth 100000 in
set_option maxHeartbeats 16000000 in
theorem queuePlays_walk (A : Option Addr) (n c : Nat) (l : List ActT) (w : World) (h : ActsAt w A n l) (hn : n ≤ 9223372036854775807) :
    Calls Try.prog 6 #[.slice A n c] w fun e w' => e = .returned (.bool true) ∧ Below w.heap.size w w' := by
  have HA := Lib.hid h
  have HGR := Lib.hid (qgreat_any (c := c) w h hn)
  have HAW := Lib.hid awake26_any
  clear h
  go_enter Try.func6, Try.ntmps6
  go_wp2_with fail
  refine HGR.out.mono ?_
  rintro e w1 ⟨r, rfl, hr, rfl⟩
  have HR := Lib.hid hr
  clear hr HGR
  cases r with
  | true =>
    go_wp2_with fail
    refine (HAW.out _).mono ?_
    rintro e w2 ⟨rfl, hb⟩
    have HB2 := Lib.hid hb
    clear hb
    go_wp2_with fail
    go_ret
    exact ⟨rfl, HB2.out⟩
  | false =>
    have hn80 := (HR.out rfl).1
    have HALL := Lib.hid (HR.out rfl).2
    clear HR hn
    go_wp2_with fail
    refine (lnew_any (Nat.le_refl _)).mono ?_
    rintro e w1 ⟨g0, rfl, hq, hb, hg⟩
    have HQ := Lib.hid hq
    have HB := Lib.hid hb
    clear hq hb hg
    go_wp2_with fail
    go_loopw [3, 4, 5] (fun s3 s4 iv wr => ∃ k : Nat, ∃ g M Ax nx cx Lx ps, k ≤ n ∧ iv = .int .i64 k ∧ s3 = .pointer (some ⟨g, 0, none⟩) ∧ s4 = .slice Ax nx cx ∧ Hid (QP wr w.heap.size g [] M ps ∧ XAt wr M Ax nx Lx ∧ Lx.map Prod.snd = ps ∧ nx ≤ cx ∧ Below w.heap.size w wr)) (fun _ _ iv _ => n - (intOf iv).toNat)
    case atStart => exact ⟨0, g0, [g0], none, 0, 0, [], [], by omega, rfl, rfl, rfl, Lib.hid ⟨HQ.out, XAt.nil _ _, rfl, Nat.le_refl _, HB.out⟩⟩
    case round =>
      obtain ⟨k, g, M, Ax, nx, cx, Lx, ps, hk, rfl, rfl, rfl, hI⟩ := hrel
      clear HQ HB
      have HQ := Lib.hid hI.out.1; have HXT := Lib.hid hI.out.2.1; have HPS := Lib.hid hI.out.2.2.1; have HNC := Lib.hid hI.out.2.2.2.1; have HB := Lib.hid hI.out.2.2.2.2
      clear hI
      rename World => w_
      by_cases hlt : k < n
      · obtain ⟨b, off, a, rfl, ha, hc, hok⟩ := HA.out.at_ hlt
        have HC := Lib.hid (show ∀ j u, (actV a)[j]? = some u → w_.cell? ⟨b, off + k * 5 + j, none⟩ = some u from fun j u hu => bcell HB.out (hc j u hu))
        have HBV := Lib.hid hok.bv
        have HOK := Lib.hid (show a.2.2.ok from ⟨hok.2, HALL.out a (List.mem_of_getElem? ha)⟩)
        have HPC := Lib.hid (show Cl 5 (actV a) from ⟨rfl, fun u hu => by
          rcases List.mem_cons.1 hu with rfl | hu
          · rfl
          · exact (wtV_cl a.2.2 hok.bv.one).2 u hu⟩)
        obtain ⟨av, d, p⟩ := a
        have HE0 := Lib.hid (show (actV (av, d, p))[0]? = some (.int .i64 d) from rfl)
        have HE1 := Lib.hid (show ∀ j u, (wtV av p)[j]? = some u → (actV (av, d, p))[1 + j]? = some u from fun j u hu => by rw [Nat.add_comm]; exact hu)
        obtain ⟨es, hes⟩ : ∃ x, x = actV (av, d, p) := ⟨_, rfl⟩
        rw [← hes] at HC HPC HE0 HE1
        clear hes ha hc hok
        go_wp2_with (first | (with_reducible refine wpl_loadm (o := ⟨some 30, _, _, _, _, _⟩) rfl rfl row_act HC.out rfl HPC.out.len ?_) | (with_reducible refine wpl_alloc (o := ⟨some 6, _, _, _, _, _⟩) rfl rfl zero_act ?_))
        intro w1_ hb1_ hbw1_ hsz1_
        have HB1_ := Lib.hid (at_mk hb1_ len_act)
        have HBW1_ := Lib.hid hbw1_
        have HZ1_ := Lib.hid hsz1_
        clear hb1_ hbw1_ hsz1_
        go_wp2_with (first | (with_reducible refine wpl_storeb (o := ⟨none, .store _ _ _, _, _, _, _⟩) rfl rfl row_act HB1_.out.blk rfl rfl HB1_.out.len HPC.out.len HPC.out.one ?_))
        intro w2_ hb2_ hg2_ hsz2_
        have hb_ := var_grow HBW1_.out HZ1_.out hg2_
        have HX_ := Lib.hid (at_mk hb2_ HPC.out.len)
        clear hb2_ hg2_ hsz2_ HB1_ HBW1_ HZ1_
        have HB_ := Lib.hid (HB.out.grow' hb_)
        clear HB
        have HB := HB_
        clear HB_
        have HQ_ := Lib.hid (HQ.out.grow hb_)
        clear HQ
        have HQ := HQ_
        clear HQ_
        have HXT_ := Lib.hid (HXT.out.grow hb_)
        clear HXT
        have HXT := HXT_
        clear HXT_
        generalize hg_ : w_.heap.size = g6 at HX_ ⊢
        clear hg_
        have HE := HX_
        clear hb_ HX_
        clear w1_
        try clear w_
        rename World => w_
        have HN6 := Lib.hid (HQ.out.nmem HE.out.blk (by decide) (by decide))
        have c0 := HE.out.blk.at_ HE0.out
        have HW6 := Lib.hid (show MidAt w_ g6 1 (wtV av p) from fun j u hu => HE.out.blk.at_ (HE1.out j u hu))
        have HBVM := Lib.hid (show BV w_ M av p.bs from HBV.out.step ⟨.of_below HB.out, fun b hb => .inr (HQ.out.lts b hb).1⟩)
        go_upto_block 2 with fail
        go_cut [3, 4] from 33 to 115 (fun s3 s4 wr => ∃ g M Ax nx cx Lx ps, s3 = .pointer (some ⟨g, 0, none⟩) ∧ s4 = .slice Ax nx cx ∧ Hid (QP wr w.heap.size g [] M ps ∧ XAt wr M Ax nx Lx ∧ Lx.map Prod.snd = ps ∧ nx ≤ cx ∧ Below w.heap.size w wr))
        case first =>
          by_cases d1 : d = 1
          · subst d1
            cases ps with
            | nil =>
              have HL0 := Lib.hid (show Lx = [] from List.eq_nil_of_length_eq_zero (by have := congrArg List.length HPS.out; rw [List.length_map] at this; exact this))
              obtain rfl : nx = 0 := by rw [← HXT.out.1, HL0.out]; rfl
              have HPOP := Lib.hid (show Calls Try.prog 11 #[.pointer (some ⟨g, 0, none⟩)] w_ fun e w' => ∃ vo, e = .returned (.tuple #[.agg (wtV vo noWt).toArray, .bool false]) ∧ BV w' M vo noWt.bs ∧ QP w' w.heap.size g [] M [] ∧ Step w_ M w' M from lpop_any HQ.out)
              go_wp2_with fail
              refine HPOP.out.mono ?_
              rintro e w2_ ⟨vo, rfl, hbv, hq, hs⟩
              have HD := Lib.hid (wtV_cl noWt hbv.one)
              have HQ_ := Lib.hid hq; have HXT_ := Lib.hid (HXT.out.step hs); have HB_ := Lib.hid (HQ.out.below HB.out hs)
              clear hbv hq hs HQ HXT HB HPOP HE c0 HW6 HBVM
              have HQ := HQ_; have HXT := HXT_; have HB := HB_
              clear HQ_ HXT_ HB_
              try clear w_
              rename World => w_
              obtain ⟨y1, hy1⟩ : ∃ x, x = wtV vo noWt := ⟨_, rfl⟩
              rw [← hy1] at HD ⊢
              clear hy1
              go_wp2_with (first | (with_reducible refine wpl_alloc (o := ⟨some 7, _, _, _, _, _⟩) rfl rfl zero_wait ?_))
              intro w1_ hb1_ hbw1_ hsz1_
              have HB1_ := Lib.hid (at_mk hb1_ len_wait)
              have HBW1_ := Lib.hid hbw1_
              have HZ1_ := Lib.hid hsz1_
              clear hb1_ hbw1_ hsz1_
              go_wp2_with (first | (with_reducible refine wpl_storeb (o := ⟨none, .store _ _ _, _, _, _, _⟩) rfl rfl row_wait HB1_.out.blk rfl rfl HB1_.out.len HD.out.len HD.out.one ?_))
              intro w2_ hb2_ hg2_ hsz2_
              have HG_ := Lib.hid HB.out.size
              have hb_ := var_grow HBW1_.out HZ1_.out hg2_
              have HX_ := Lib.hid (at_mk hb2_ HD.out.len)
              clear hb2_ hg2_ hsz2_ HB1_ HBW1_ HZ1_
              have HB_ := Lib.hid (HB.out.grow' hb_)
              clear HB
              have HB := HB_
              clear HB_
              have HQ_ := Lib.hid (HQ.out.grow hb_)
              clear HQ
              have HQ := HQ_
              clear HQ_
              have HXT_ := Lib.hid (HXT.out.grow hb_)
              clear HXT
              have HXT := HXT_
              clear HXT_
              generalize hg_ : w_.heap.size = g7 at HX_ HG_ ⊢
              clear hg_
              have HV := HX_
              clear hb_ HX_
              clear w1_
              try clear w_
              rename World => w_
              have HV_g := HG_
              clear HG_
              try go_wp2_with fail
              repeat' (first | (with_reducible refine wp_plan (id := 19) Grow [0,0,0,0,0,0,0,0,2,3,0,0,3,0,0,0] (.get 0 (.get 1 (.get 2 (.get 3 (.get 4 (.get 5 (.get 6 (.get 7 (.get 8 (.get 10 (.get 11 (.act 9 (.act 12 (.get 13 (.get 14 (.get 15 .done)))))))))))))))) (by kernel_rfl) (by kernel_rfl) Grow.refl Grow.trans ?_) | go_values | go_skip | go_guarded | go_step | go_upon | go_back)
              intro w_ hd_
              have hb_ := hd_.grow
              have HB_ := Lib.hid (HB.out.grow' hb_)
              clear HB
              have HB := HB_
              clear HB_
              have HQ_ := Lib.hid (HQ.out.grow hb_)
              clear HQ
              have HQ := HQ_
              clear HQ_
              have HXT_ := Lib.hid (HXT.out.grow hb_)
              clear HXT
              have HXT := HXT_
              clear HXT_
              clear hb_ hd_
              repeat (first | (refine pl_calm rfl rfl (by first | exact wanted_none rfl | (go_simp; done) | rfl) (fun w_ => by first | (go_simp; rfl) | (go_simp; done) | rfl) (fun K hK => ?_); go_simp; refine hK _ _ ?_; clear hK K) | (refine pl_skip rfl (by first | (go_simp; done) | rfl) (fun K hK => ?_); go_simp; refine hK _ _ ?_; clear hK K) | (refine pl_skipa rfl (by first | (go_simp; done) | rfl) (fun K hK => ?_); go_simp; refine hK _ _ ?_; clear hK K))
              refine pl_done ?_
              go_wp2_with fail
              go_meet
              case rel => exact ⟨g, M, Ax, 0, cx, Lx, [], rfl, rfl, Lib.hid ⟨HQ.out, HXT.out, HPS.out, HNC.out, HB.out⟩⟩
            | cons p1 r1 =>
              obtain ⟨x1, Lr, rfl⟩ : ∃ x r, Lx = x :: r := by
                cases Lx with
                | nil => have := HPS.out; simp at this
                | cons x r => exact ⟨x, r, rfl⟩
              obtain ⟨m, hm⟩ : ∃ m, m = Lr.length := ⟨_, rfl⟩
              obtain rfl : nx = m + 1 := by rw [← HXT.out.1, hm]; rfl
              have HX1E := Lib.hid (show x1.2 = p1 ∧ Lr.map Prod.snd = r1 by have h := HPS.out; rw [List.map_cons] at h; injection h with h1 h2; exact ⟨h1, h2⟩)
              have HPK := Lib.hid (HQ.out.ok p1 (List.mem_cons_self ..))
              have hm31 : m ≤ 31 := by have := HQ.out.big; rw [← HPS.out, List.length_map, List.length_cons, ← hm] at this; omega
              have hcx : m + 1 ≤ cx := HNC.out
              have HPOP := Lib.hid (show Calls Try.prog 11 #[.pointer (some ⟨g, 0, none⟩)] w_ fun e w' => ∃ vo, e = .returned (.tuple #[.agg (wtV vo p1).toArray, .bool true]) ∧ BV w' M vo p1.bs ∧ QP w' w.heap.size g [] M r1 ∧ Step w_ M w' M from lpop_any HQ.out)
              clear hm
              go_wp2_with fail
              refine HPOP.out.mono ?_
              rintro e w2_ ⟨vo, rfl, hbv, hq, hs⟩
              have HVO := Lib.hid hbv
              have HD := Lib.hid (wtV_cl p1 hbv.one)
              have HQ_ := Lib.hid hq; have HXT_ := Lib.hid (HXT.out.step hs); have HB_ := Lib.hid (HQ.out.below HB.out hs)
              clear hbv hq hs HQ HXT HB HPOP HE c0 HW6 HBVM
              have HQ := HQ_; have HXT := HXT_; have HB := HB_
              clear HQ_ HXT_ HB_
              try clear w_
              rename World => w_
              obtain ⟨y1, hy1⟩ : ∃ x, x = wtV vo p1 := ⟨_, rfl⟩
              have HY1 := Lib.hid hy1
              rw [← hy1] at HD ⊢
              clear hy1
              go_wp2_with (first | (with_reducible refine wpl_alloc (o := ⟨some 7, _, _, _, _, _⟩) rfl rfl zero_wait ?_))
              intro w1_ hb1_ hbw1_ hsz1_
              have HB1_ := Lib.hid (at_mk hb1_ len_wait)
              have HBW1_ := Lib.hid hbw1_
              have HZ1_ := Lib.hid hsz1_
              clear hb1_ hbw1_ hsz1_
              go_wp2_with (first | (with_reducible refine wpl_storeb (o := ⟨none, .store _ _ _, _, _, _, _⟩) rfl rfl row_wait HB1_.out.blk rfl rfl HB1_.out.len HD.out.len HD.out.one ?_))
              intro w2_ hb2_ hg2_ hsz2_
              have HG_ := Lib.hid HB.out.size
              have hb_ := var_grow HBW1_.out HZ1_.out hg2_
              have HX_ := Lib.hid (at_mk hb2_ HD.out.len)
              clear hb2_ hg2_ hsz2_ HB1_ HBW1_ HZ1_
              have HB_ := Lib.hid (HB.out.grow' hb_)
              clear HB
              have HB := HB_
              clear HB_
              have HQ_ := Lib.hid (HQ.out.grow hb_)
              clear HQ
              have HQ := HQ_
              clear HQ_
              have HXT_ := Lib.hid (HXT.out.grow hb_)
              clear HXT
              have HXT := HXT_
              clear HXT_
              have HVO_ := Lib.hid (HVO.out.grow hb_)
              clear HVO
              have HVO := HVO_
              clear HVO_
              generalize hg_ : w_.heap.size = g7 at HX_ HG_ ⊢
              clear hg_
              have HV := HX_
              clear hb_ HX_
              clear w1_
              try clear w_
              rename World => w_
              have HV_g := HG_
              clear HG_
              have b1 : (0 : Int) < (m : Int) + 1 := by omega
              have b2 : (1 : Int) ≤ (cx : Int) := by omega
              have b3 : 1 ≤ cx := by omega
              try go_wp2_with fail
              repeat' (first | (with_reducible refine wp_plan (id := 19) Grow [0,0,0,0,0,0,0,0,2,3,0,0,3,0,0,0] (.get 0 (.get 1 (.get 2 (.get 3 (.get 4 (.get 5 (.get 6 (.get 7 (.get 8 (.get 10 (.get 11 (.act 9 (.act 12 (.get 13 (.get 14 (.get 15 .done)))))))))))))))) (by kernel_rfl) (by kernel_rfl) Grow.refl Grow.trans ?_) | go_values | go_skip | go_guarded | go_step | go_upon | go_back)
              intro w_ hd_
              have hb_ := hd_.grow
              have HB_ := Lib.hid (HB.out.grow' hb_)
              clear HB
              have HB := HB_
              clear HB_
              have HQ_ := Lib.hid (HQ.out.grow hb_)
              clear HQ
              have HQ := HQ_
              clear HQ_
              have HXT_ := Lib.hid (HXT.out.grow hb_)
              clear HXT
              have HXT := HXT_
              clear HXT_
              have HVO_ := Lib.hid (HVO.out.grow hb_)
              clear HVO
              have HVO := HVO_
              clear HVO_
              have HV_ := Lib.hid (HV.out.grow hb_)
              clear HV
              have HV := HV_
              clear HV_
              clear hb_ hd_
              repeat (first | (refine pl_loadb rfl rfl (by first | exact wanted_none rfl | (go_simp; done) | rfl) rfl row_wait HV.out.blk (by first | rfl | (go_simp; done) | rfl) HV.out.len (fun K hK => ?_); go_simp; refine hK _ _ ?_; clear hK K) | (refine pl_loadbnow rfl rfl (by first | exact wanted_none rfl | (go_simp; done) | rfl) rfl row_wait HV.out.blk (by first | rfl | (go_simp; done) | rfl) HV.out.len (fun K hK => ?_); go_simp; refine hK _ _ ?_; clear hK K) | (refine pl_calm rfl rfl (by first | exact wanted_none rfl | (go_simp; done) | rfl) (fun w_ => by first | (go_simp; rfl) | (go_simp; done) | rfl) (fun K hK => ?_); go_simp; refine hK _ _ ?_; clear hK K) | (refine pl_skip rfl (by first | (go_simp; done) | rfl) (fun K hK => ?_); go_simp; refine hK _ _ ?_; clear hK K) | (refine pl_skipa rfl (by first | (go_simp; done) | rfl) (fun K hK => ?_); go_simp; refine hK _ _ ?_; clear hK K))
              refine pl_act rfl (by first | exact wanted_none rfl | (go_simp; done) | rfl) (fun K hK => ?_)
              show wpList _ _ _ [⟨some 76, .buildSlice _ _ _, _, _, _, _⟩] _ _
              go_wp2_with (first | (with_reducible refine wpl_row1w (o := ⟨some 76, _, _, _, _, _⟩) (by first | rfl | (go_simp; done) | fail) rfl el_wait rfl HD.out.len (by decide) ?_))
              intro w2_ hr_ hb_ hs3_
              go_wp2_with fail
              refine hK _ _ (fun h => by first | cases h | exact hb_) ?_
              clear hK K
              replace HQ := Lib.hid (HQ.out.grow hb_)
              replace HXT := Lib.hid (HXT.out.grow hb_)
              replace HVO := Lib.hid (HVO.out.grow hb_)
              replace HV := Lib.hid (HV.out.grow hb_)
              replace HB := Lib.hid (HB.out.grow' hb_)
              generalize w_.heap.size = q1 at hr_ ⊢
              have HR1 := Lib.hid (show At w2_ q1 29 4 y1 from at_mk hr_ HD.out.len)
              clear hr_ hb_ hs3_
              try clear w_
              rename World => w_
              repeat (first | (refine pl_calm rfl rfl (by first | exact wanted_none rfl | (go_simp; done) | rfl) (fun w_ => by first | (go_simp; rfl) | (go_simp; done) | rfl) (fun K hK => ?_); go_simp; refine hK _ _ ?_; clear hK K) | (refine pl_skip rfl (by first | (go_simp; done) | rfl) (fun K hK => ?_); go_simp; refine hK _ _ ?_; clear hK K) | (refine pl_skipa rfl (by first | (go_simp; done) | rfl) (fun K hK => ?_); go_simp; refine hK _ _ ?_; clear hK K))
              have HSA := Lib.hid (show Calls Try.prog 23 #[.slice (some ⟨q1, 0, none⟩) 1 1, .slice Ax 1 cx] w_ fun e w' => e = .returned (.bool true) ∧ Grow w_ w' from rsameL_any (M := []) (M2 := M) (L := [(vo, p1)]) (L2 := (x1 :: Lr).take 1) (XAt.one (by rw [← HY1.out]; exact HR1.out.blk) (by simp) (HVO.out.sub (fun b hb => by cases hb)) HPK.out) (HXT.out.take (by omega)) (by rw [List.take_succ_cons, List.take_zero, List.map_cons, List.map_cons, HX1E.out.1]) (by omega))
              refine pl_act rfl (by first | exact wanted_none rfl | (go_simp; done) | rfl) (fun K hK => ?_)
              go_wp2_with fail
              refine HSA.out.mono ?_
              rintro e w2_ ⟨rfl, hb_⟩
              go_wp2_with fail
              refine hK _ _ (fun h => by first | cases h | exact hb_) ?_
              clear hK K HSA
              replace HQ := Lib.hid (HQ.out.grow hb_)
              replace HXT := Lib.hid (HXT.out.grow hb_)
              replace HB := Lib.hid (HB.out.grow' hb_)
              clear hb_
              try clear w_
              rename World => w_
              repeat (first | (refine pl_calm rfl rfl (by first | exact wanted_none rfl | (go_simp; done) | rfl) (fun w_ => by first | (go_simp; rfl) | (go_simp; done) | rfl) (fun K hK => ?_); go_simp; refine hK _ _ ?_; clear hK K) | (refine pl_skip rfl (by first | (go_simp; done) | rfl) (fun K hK => ?_); go_simp; refine hK _ _ ?_; clear hK K) | (refine pl_skipa rfl (by first | (go_simp; done) | rfl) (fun K hK => ?_); go_simp; refine hK _ _ ?_; clear hK K))
              refine pl_done ?_
              clear b1 b2
              have HXD := Lib.hid (HXT.out.drop (k := 1) (c := cx) (by omega) hcx)
              have HDR := Lib.hid (show List.drop 1 (x1 :: Lr) = Lr from rfl)
              by_cases hcx1 : cx = 1
              · obtain rfl : m = 0 := by omega
                subst hcx1
                have HXE := Lib.hid (show XAt w_ M Ax 0 Lr from by have h := HXD.out; rw [if_pos rfl] at h; exact h)
                go_wp2_with fail
                go_meet
                case rel => exact ⟨g, M, Ax, 0, 0, Lr, r1, rfl, rfl, Lib.hid ⟨HQ.out, HXE.out, HX1E.out.2, Nat.le_refl _, HB.out⟩⟩
              · have HXE := Lib.hid (show XAt w_ M (Ax.map (·.add (1 * 4))) m Lr from by have h := HXD.out; rw [if_neg hcx1] at h; exact h)
                have HC1 := Lib.hid (show m ≤ cx - 1 by omega)
                have b5 : (1 : Int) ≤ (m : Int) + 1 := by omega
                go_wp2_with fail
                go_meet
                case rel => exact ⟨g, M, Ax.map (·.add (1 * 4)), m, cx - 1, Lr, r1, rfl, by first | rfl | simp, Lib.hid ⟨HQ.out, HXE.out, HX1E.out.2, HC1.out, HB.out⟩⟩
          · by_cases d2 : d = 2
            · subst d2
              have HPX := Lib.hid (show ps = Lx.map Prod.snd from HPS.out.symm)
              obtain ⟨bh, hbh⟩ : ∃ x, x = hasP ps p.cl p.num := ⟨_, rfl⟩
              have hnx : nx ≤ 1000 := by
                have := HQ.out.big
                rw [← HPS.out, List.length_map, HXT.out.1] at this
                omega
              have HH1 := Lib.hid (fun w2 (h : QP w2 w.heap.size g [] M ps) => lhas_any h p.cl p.num)
              have HH2 := Lib.hid (show ∀ w, XAt w M Ax nx Lx → Calls Try.prog 24 #[.slice Ax nx cx, .int .i64 p.cl, .int .i64 p.num] w fun e w' => e = .returned (.bool bh) ∧ Grow w w' from fun w h => by
                refine (rhas_any h hnx p.cl p.num).mono ?_
                rintro e w' ⟨h1, rfl⟩
                exact ⟨by rw [h1, HPS.out, hbh], Grow.refl _⟩)
              rw [← hbh] at HH1
              clear hbh
              have HH1' := Lib.hid (show ∀ w2, QP w2 w.heap.size g [] M ps → Calls Try.prog 21 #[.pointer (some ⟨g, 0, none⟩), .int .i64 p.cl, .int .i64 p.num] w2 fun e w' => e = .returned (.bool bh) ∧ Grow w2 w' from HH1.out)
              clear HH1
              obtain ⟨pc, hpc⟩ : ∃ x, x = p.cl := ⟨_, rfl⟩
              obtain ⟨pn, hpn⟩ : ∃ x, x = p.num := ⟨_, rfl⟩
              have HP0 := Lib.hid (show (wtV av p)[0]? = some (.int .i64 pc) by rw [hpc]; rfl)
              have HP1 := Lib.hid (show (wtV av p)[1]? = some (.int .i64 pn) by rw [hpn]; rfl)
              rw [← hpc, ← hpn] at HH1' HH2
              clear hpc hpn
              try go_wp2_with fail
              repeat' (first | (with_reducible refine wp_flow (id := 24) [0,0,2,6,0,16,48,127,0,0,512,1536,0,4096,12288,32767,65535] [0,0,0,0,0,0,0,3,0,0,0,0,0,0,0,3,0] (fun i => match i with | 7 => spV (.bool bh) | 15 => spV (.bool bh) | _ => spV undef) (by kernel_rfl) (by kernel_rfl) ?_) | go_values | go_skip | go_guarded | go_step | go_upon | go_back)
              intro w_ hd_
              have hb_ := hd_.grow
              have HB_ := Lib.hid (HB.out.grow' hb_)
              clear HB
              have HB := HB_
              clear HB_
              have HQ_ := Lib.hid (HQ.out.grow hb_)
              clear HQ
              have HQ := HQ_
              clear HQ_
              have HXT_ := Lib.hid (HXT.out.grow hb_)
              clear HXT
              have HXT := HXT_
              clear HXT_
              have HE_ := Lib.hid (HE.out.grow hb_)
              clear HE
              have HE := HE_
              clear HE_
              have HW6_ := Lib.hid (HW6.out.grow hb_)
              clear HW6
              have HW6 := HW6_
              clear HW6_
              clear hb_ hd_
              show wpL _ _ _ _ _ _ _ [0,1,2,3,4,5,6,7,8,9,10,11,12,13,14,15,16] _ _
              have m0 : w_.cell? ⟨g6, 1, none⟩ = some (.int .i64 pc) := HW6.out 0 _ HP0.out
              have m1 : w_.cell? ⟨g6, 2, none⟩ = some (.int .i64 pn) := HW6.out 1 _ HP1.out
              repeat (first | (refine fl_calm rfl (by decide) (by first | exact wanted_none rfl | (go_simp; done) | fail) (fun w_ _ _ => by first | (go_simp; rfl) | (go_simp; done) | rfl) (fun K hK => ?_); go_simp; refine hK _ ?_; clear hK K) | (refine fl_skip rfl (by first | (go_simp; done) | fail) (fun K hK => ?_); go_simp; refine hK _ ?_; clear hK K) | (refine fl_load rfl (by decide) (by first | exact wanted_none rfl | (go_simp; done) | fail) rfl (by first | rfl | (go_simp; rfl)) (by kernel_rfl) (by first | exact m0 | exact m1) (fun K hK => ?_); go_simp; refine hK _ ?_; clear hK K))
              refine fl_callv rfl (by kernel_rfl) rfl (by first | exact wanted_none rfl | (go_simp; done) | fail) (fun w_ => by first | (go_simp; exact ⟨rfl, rfl⟩) | (go_simp; rfl) | (go_simp; exact ⟨⟨rfl, rfl, rfl⟩, rfl⟩)) (fun w2_ hg_ hL_ => ?_) (fun K hK => ?_)
              · skip
                exact HH1'.out _ (HQ.out.grow hg_)
              go_simp
              refine hK _ ?_
              clear hK K
              repeat (first | (refine fl_calm rfl (by decide) (by first | exact wanted_none rfl | (go_simp; done) | fail) (fun w_ _ _ => by first | (go_simp; rfl) | (go_simp; done) | rfl) (fun K hK => ?_); go_simp; refine hK _ ?_; clear hK K) | (refine fl_skip rfl (by first | (go_simp; done) | fail) (fun K hK => ?_); go_simp; refine hK _ ?_; clear hK K) | (refine fl_load rfl (by decide) (by first | exact wanted_none rfl | (go_simp; done) | fail) rfl (by first | rfl | (go_simp; rfl)) (by kernel_rfl) (by first | exact m0 | exact m1) (fun K hK => ?_); go_simp; refine hK _ ?_; clear hK K))
              refine fl_callv rfl (by kernel_rfl) rfl (by first | exact wanted_none rfl | (go_simp; done) | fail) (fun w_ => by first | (go_simp; exact ⟨rfl, rfl⟩) | (go_simp; rfl) | (go_simp; exact ⟨⟨rfl, rfl, rfl⟩, rfl⟩)) (fun w2_ hg_ hL_ => ?_) (fun K hK => ?_)
              · skip
                exact HH2.out _ (HXT.out.grow hg_)
              go_simp
              refine hK _ ?_
              clear hK K
              repeat (first | (refine fl_calm rfl (by decide) (by first | exact wanted_none rfl | (go_simp; done) | fail) (fun w_ _ _ => by first | (go_simp; rfl) | (go_simp; done) | rfl) (fun K hK => ?_); go_simp; refine hK _ ?_; clear hK K) | (refine fl_skip rfl (by first | (go_simp; done) | fail) (fun K hK => ?_); go_simp; refine hK _ ?_; clear hK K))
              refine fl_done ?_
              intro w2_ hg_ hL_
              replace HB := Lib.hid (HB.out.grow' hg_)
              replace HQ := Lib.hid (HQ.out.grow hg_)
              replace HXT := Lib.hid (HXT.out.grow hg_)
              clear hg_ hL_
              try clear w_
              rename World => w_
              have z1 : (bh != bh) = false := by simp
              go_wp2_with fail
              go_meet
              case rel => exact ⟨g, M, Ax, nx, cx, Lx, ps, rfl, rfl, Lib.hid ⟨HQ.out, HXT.out, HPS.out, HNC.out, HB.out⟩⟩
            · by_cases d3 : d = 3
              · subst d3
                have HBT5 := Lib.hid bt_m5
                have hsz := HB.out.size
                go_wp2_with fail
                refine (lcopy_any HQ.out hsz).mono ?_
                rintro e w2_ ⟨g', M', rfl, hq', hM', hb_⟩
                clear hsz
                have HN := Lib.hid hq'
                have HXN := Lib.hid (show XAt w2_ (M ++ M') Ax nx Lx from HXT.out.step ⟨.of_below hb_, fun b hb => (List.mem_append.1 hb).imp id (fun h => hM' b h)⟩)
                have HQ_ := Lib.hid (HQ.out.grow hb_); have HB_ := Lib.hid (HB.out.grow' hb_)
                clear hq' hM' hb_ HQ HB HXT HE c0 HW6 HBVM
                have HQ := HQ_; have HB := HB_
                clear HQ_ HB_
                try clear w_
                rename World => w_
                go_wp2_with fail
                refine (lpop_any HQ.out).mono ?_
                rintro e w2_ ⟨vo, rfl, hbv, hq, hs⟩
                have HN_ := Lib.hid (HN.out.other hs); have HXN_ := Lib.hid (HXN.out.step (hs.wide M')); have HB_ := Lib.hid (HQ.out.below HB.out hs); have HQ_ := Lib.hid hq
                clear hbv hq hs HN HXN HB HQ
                have HQ := HQ_; have HB := HB_; have HN := HN_; have HXN := HXN_
                clear HQ_ HB_ HN_ HXN_
                try clear w_
                rename World => w_
                go_wp2_with fail
                refine ((minf_pos _)).mono ?_
                rintro e w_ ⟨rfl, rfl⟩
                go_wp2_with (first | (with_reducible refine wpl_stop (o := ⟨some 114, _, _, _, _, _⟩) ?_))
                refine stop_go ?_
                refine wpl_build rfl rfl HBT5.out ?_
                have HPU := Lib.hid (show Calls Try.prog 9 #[.pointer (some ⟨g, 0, none⟩), .agg (wtV nilS ⟨-5, 0, 9218868437227405312, []⟩).toArray] w_ fun e w' => ∃ M4, (∃ v, e = .returned v) ∧ Step w_ M w' M4 from (lpush_any (v := nilS) (p := ⟨-5, 0, 9218868437227405312, []⟩) HQ.out (BV.nil _ _) ⟨by decide, by simp⟩).mono fun e w' ⟨vo, M4, h1, _, _, h4⟩ => ⟨M4, ⟨_, h1⟩, h4⟩)
                go_wp2_with fail
                refine HPU.out.mono ?_
                rintro e w2_ ⟨M4, ⟨v4, rfl⟩, hs⟩
                have HN_ := Lib.hid (HN.out.other hs).bare; have HXN_ := Lib.hid ((HXN.out.step (hs.wide M')).sub (fun b hb => List.mem_append_right _ hb)); have HB_ := Lib.hid (HQ.out.below HB.out hs)
                clear hs HN HXN HB HQ HPU
                go_wp2_with fail
                go_meet
                case rel => exact ⟨g', M', Ax, nx, cx, Lx, ps, rfl, rfl, Lib.hid ⟨HN_.out, HXN_.out, HPS.out, HNC.out, HB_.out⟩⟩
              · have e1 : (d == 1) = false := beq_eq_false_iff_ne.2 d1
                have e2 : (d == 2) = false := beq_eq_false_iff_ne.2 d2
                have e3 : (d == 3) = false := beq_eq_false_iff_ne.2 d3
                have hnx : nx ≤ 32 := by
                  have := HQ.out.big
                  rw [← HPS.out, List.length_map, HXT.out.1] at this
                  exact this
                have HRO := Lib.hid (show (pushP ps p).2.1.ok from pushP_ok HQ.out.ok)
                have HPU := Lib.hid (lpush_any HQ.out HBVM.out HOK.out)
                have HRP := Lib.hid (fun w M (h : XAt w M Ax nx Lx) hM (hb : BV w M av p.bs) => rpush_any h hM HNC.out hnx hb HOK.out)
                rw [HPS.out] at HRP
                obtain ⟨rs, hrs⟩ : ∃ x, x = pushP ps p := ⟨_, rfl⟩
                rw [← hrs] at HPU HRP HRO
                have HWL := Lib.hid (show (wtV av p).length = 4 from rfl)
                have HEM := Lib.hid (show ∀ w, At w g6 50 5 es → ∀ j u, (wtV av p)[j]? = some u → w.cell? ⟨g6, 1 + j, none⟩ = some u from fun w h j u hu => h.blk.at_ (HE1.out j u hu))
                unfold wtA at HPU HRP
                obtain ⟨xs, hxs⟩ : ∃ x, x = wtV av p := ⟨_, rfl⟩
                rw [← hxs] at HPU HRP HWL HEM HW6
                obtain ⟨ro, hro⟩ : ∃ x, x = rs.2.1 := ⟨_, rfl⟩
                obtain ⟨eo, heo⟩ : ∃ x, x = rs.2.2 := ⟨_, rfl⟩
                obtain ⟨qs, hqs⟩ : ∃ x, x = rs.1 := ⟨_, rfl⟩
                rw [← hro, ← heo, ← hqs] at HPU HRP
                rw [← hro] at HRO
                clear hrs hxs hro heo hqs
                have HM1 := Lib.hid (HEM.out _ HE.out)
                go_wp2_with (first | (with_reducible refine wpl_loadm (o := ⟨some 36, _, _, _, _, _⟩) rfl rfl row_wait HM1.out rfl HWL.out ?_))
                refine HPU.out.mono ?_
                rintro e w2_ ⟨vo, M2, rfl, hbv, hq, hs⟩
                have HVO := Lib.hid hbv
                have HQ_ := Lib.hid hq; have HXT_ := Lib.hid (HXT.out.step hs); have HB_ := Lib.hid (HQ.out.below HB.out hs); have HE_ := Lib.hid (HE.out.step HN6.out hs).1; have HBVM_ := Lib.hid (HBVM.out.step hs)
                clear hbv hq hs HQ HXT HB HE HBVM HPU HM1 HW6 c0
                have HQ := HQ_; have HXT := HXT_; have HB := HB_; have HE := HE_; have HBVM := HBVM_
                clear HQ_ HXT_ HB_ HE_ HBVM_
                try clear w_
                rename World => w_
                have HD := Lib.hid (wtV_cl ro HVO.out.one)
                obtain ⟨y1, hy1⟩ : ∃ x, x = wtV vo ro := ⟨_, rfl⟩
                have HY1 := Lib.hid hy1
                rw [← hy1] at HD ⊢
                clear hy1
                go_wp2_with (first | (with_reducible refine wpl_alloc (o := ⟨some 10, _, _, _, _, _⟩) rfl rfl zero_wait ?_))
                intro w1_ hb1_ hbw1_ hsz1_
                have HB1_ := Lib.hid (at_mk hb1_ len_wait)
                have HBW1_ := Lib.hid hbw1_
                have HZ1_ := Lib.hid hsz1_
                clear hb1_ hbw1_ hsz1_
                go_wp2_with (first | (with_reducible refine wpl_storeb (o := ⟨none, .store _ _ _, _, _, _, _⟩) rfl rfl row_wait HB1_.out.blk rfl rfl HB1_.out.len HD.out.len HD.out.one ?_))
                intro w2_ hb2_ hg2_ hsz2_
                have HG_ := Lib.hid HB.out.size
                have hb_ := var_grow HBW1_.out HZ1_.out hg2_
                have HX_ := Lib.hid (at_mk hb2_ HD.out.len)
                clear hb2_ hg2_ hsz2_ HB1_ HBW1_ HZ1_
                have HB_ := Lib.hid (HB.out.grow' hb_)
                clear HB
                have HB := HB_
                clear HB_
                have HQ_ := Lib.hid (HQ.out.grow hb_)
                clear HQ
                have HQ := HQ_
                clear HQ_
                have HXT_ := Lib.hid (HXT.out.grow hb_)
                clear HXT
                have HXT := HXT_
                clear HXT_
                have HE_ := Lib.hid (HE.out.grow hb_)
                clear HE
                have HE := HE_
                clear HE_
                have HBVM_ := Lib.hid (HBVM.out.grow hb_)
                clear HBVM
                have HBVM := HBVM_
                clear HBVM_
                have HVO_ := Lib.hid (HVO.out.grow hb_)
                clear HVO
                have HVO := HVO_
                clear HVO_
                generalize hg_ : w_.heap.size = g10 at HX_ HG_ ⊢
                clear hg_
                have HV10 := HX_
                clear hb_ HX_
                clear w1_
                try clear w_
                rename World => w_
                have HV10_g := HG_
                clear HG_
                have HM1 := Lib.hid (HEM.out _ HE.out)
                go_wp2_with (first | (with_reducible refine wpl_loadm (o := ⟨some 43, _, _, _, _, _⟩) rfl rfl row_wait HM1.out rfl HWL.out ?_))
                refine (HRP.out _ M2 HXT.out (fun b hb => (HQ.out.lts b hb).2) HBVM.out).mono ?_
                rintro e w2_ ⟨A', n', c', L', vo2, rfl, hx', hnc', hm', hbv2, hb_⟩
                have HX2 := Lib.hid hx'; have HNC2 := Lib.hid hnc'; have HMP2 := Lib.hid hm'; have HVO2 := Lib.hid hbv2
                clear hx' hnc' hm' hbv2 HRP HXT HM1
                replace HQ := Lib.hid (HQ.out.grow hb_)
                replace HE := Lib.hid (HE.out.grow hb_)
                replace HVO := Lib.hid (HVO.out.grow hb_)
                replace HV10 := Lib.hid (HV10.out.grow hb_)
                replace HB := Lib.hid (HB.out.grow' hb_)
                clear hb_ HBVM
                try clear w_
                rename World => w_
                have HD2 := Lib.hid (wtV_cl ro HVO2.out.one)
                obtain ⟨y2, hy2⟩ : ∃ x, x = wtV vo2 ro := ⟨_, rfl⟩
                have HY2 := Lib.hid hy2
                rw [← hy2] at HD2 ⊢
                clear hy2
                go_wp2_with (first | (with_reducible refine wpl_alloc (o := ⟨some 13, _, _, _, _, _⟩) rfl rfl zero_wait ?_))
                intro w1_ hb1_ hbw1_ hsz1_
                have HB1_ := Lib.hid (at_mk hb1_ len_wait)
                have HBW1_ := Lib.hid hbw1_
                have HZ1_ := Lib.hid hsz1_
                clear hb1_ hbw1_ hsz1_
                go_wp2_with (first | (with_reducible refine wpl_storeb (o := ⟨none, .store _ _ _, _, _, _, _⟩) rfl rfl row_wait HB1_.out.blk rfl rfl HB1_.out.len HD2.out.len HD2.out.one ?_))
                intro w2_ hb2_ hg2_ hsz2_
                have HG_ := Lib.hid HB.out.size
                have hb_ := var_grow HBW1_.out HZ1_.out hg2_
                have HX_ := Lib.hid (at_mk hb2_ HD2.out.len)
                clear hb2_ hg2_ hsz2_ HB1_ HBW1_ HZ1_
                have HB_ := Lib.hid (HB.out.grow' hb_)
                clear HB
                have HB := HB_
                clear HB_
                have HQ_ := Lib.hid (HQ.out.grow hb_)
                clear HQ
                have HQ := HQ_
                clear HQ_
                have HX2_ := Lib.hid (HX2.out.grow hb_)
                clear HX2
                have HX2 := HX2_
                clear HX2_
                have HVO_ := Lib.hid (HVO.out.grow hb_)
                clear HVO
                have HVO := HVO_
                clear HVO_
                have HVO2_ := Lib.hid (HVO2.out.grow hb_)
                clear HVO2
                have HVO2 := HVO2_
                clear HVO2_
                have HV10_ := Lib.hid (HV10.out.grow hb_)
                clear HV10
                have HV10 := HV10_
                clear HV10_
                generalize hg_ : w_.heap.size = g13 at HX_ HG_ ⊢
                clear hg_
                have HV13 := HX_
                clear hb_ HX_
                clear w1_
                try clear w_
                rename World => w_
                have HV13_g := HG_
                clear HG_
                have z1 : (eo != eo) = false := by simp
                go_wp2_with (first | (with_reducible refine wpl_loadb (o := ⟨some 53, _, _, _, _, _⟩) rfl rfl row_wait HV10.out.blk rfl HV10.out.len ?_) | (with_reducible refine wpl_loadw (o := ⟨some 53, _, _, _, _, _⟩) (by first | rfl | (go_simp; done) | fail) rfl row_wait HV10.out.blk rfl HV10.out.len ?_) | (with_reducible refine wpl_row1w (o := ⟨some 54, _, _, _, _, _⟩) (by first | rfl | (go_simp; done) | fail) rfl el_wait rfl HD.out.len (by decide) ?_))
                intro w2_ hr_ hb_ hs3_
                replace HQ := Lib.hid (HQ.out.grow hb_)
                replace HX2 := Lib.hid (HX2.out.grow hb_)
                replace HVO := Lib.hid (HVO.out.grow hb_)
                replace HVO2 := Lib.hid (HVO2.out.grow hb_)
                replace HV13 := Lib.hid (HV13.out.grow hb_)
                replace HB := Lib.hid (HB.out.grow' hb_)
                generalize w_.heap.size = q1 at hr_ ⊢
                have HR1 := Lib.hid (show At w2_ q1 29 4 y1 from at_mk hr_ HD.out.len)
                clear hr_ hb_ hs3_
                try clear w_
                rename World => w_
                go_wp2_with (first | (with_reducible refine wpl_loadw (o := ⟨some 55, _, _, _, _, _⟩) (by first | rfl | (go_simp; done) | fail) rfl row_wait HV13.out.blk rfl HV13.out.len ?_) | (with_reducible refine wpl_row1w (o := ⟨some 56, _, _, _, _, _⟩) (by first | rfl | (go_simp; done) | fail) rfl el_wait rfl HD2.out.len (by decide) ?_))
                intro w2_ hr_ hb_ hs3_
                replace HQ := Lib.hid (HQ.out.grow hb_)
                replace HX2 := Lib.hid (HX2.out.grow hb_)
                replace HVO := Lib.hid (HVO.out.grow hb_)
                replace HVO2 := Lib.hid (HVO2.out.grow hb_)
                replace HR1 := Lib.hid (HR1.out.grow hb_)
                replace HB := Lib.hid (HB.out.grow' hb_)
                generalize w_.heap.size = q2 at hr_ ⊢
                have HR2 := Lib.hid (show At w2_ q2 29 4 y2 from at_mk hr_ HD2.out.len)
                clear hr_ hb_ hs3_
                try clear w_
                rename World => w_
                have HSA := Lib.hid (show Calls Try.prog 23 #[.slice (some ⟨q1, 0, none⟩) 1 1, .slice (some ⟨q2, 0, none⟩) 1 1] w_ fun e w' => e = .returned (.bool true) ∧ Grow w_ w' from rsameL_any (M := []) (M2 := []) (L := [(vo, ro)]) (L2 := [(vo2, ro)]) (XAt.one (by rw [← HY1.out]; exact HR1.out.blk) (by simp) (HVO.out.sub (fun b hb => by cases hb)) HRO.out) (XAt.one (by rw [← HY2.out]; exact HR2.out.blk) (by simp) (HVO2.out.sub (fun b hb => by cases hb)) HRO.out) rfl (by omega))
                go_wp2_with fail
                refine HSA.out.mono ?_
                rintro e w2_ ⟨rfl, hb_⟩
                replace HQ := Lib.hid (HQ.out.grow hb_)
                replace HX2 := Lib.hid (HX2.out.grow hb_)
                replace HB := Lib.hid (HB.out.grow' hb_)
                clear hb_ z1
                go_wp2_with fail
                go_meet
                case rel => exact ⟨g, M2, A', n', c', L', qs, rfl, rfl, Lib.hid ⟨HQ.out, HX2.out, HMP2.out, HNC2.out, HB.out⟩⟩
        case rest =>
          obtain ⟨g, M, Ax, nx, cx, Lx, ps, rfl, rfl, hI⟩ := hcut
          clear HQ HXT HPS HNC HB HE c0 HW6 HBVM HN6
          have HQ := Lib.hid hI.out.1; have HXT := Lib.hid hI.out.2.1; have HPS := Lib.hid hI.out.2.2.1; have HNC := Lib.hid hI.out.2.2.2.1; have HB := Lib.hid hI.out.2.2.2.2
          clear hI
          try clear w_
          rename World => w_
          have HLEN := Lib.hid (show Calls Try.prog 14 #[.pointer (some ⟨g, 0, none⟩)] w_ fun e w' => e = .returned (.int .i64 (nx : Int)) ∧ w_ = w' by
            have h := llen_any HQ.out
            rw [← HPS.out, List.length_map, HXT.out.1] at h
            exact h)
          have HALQ := Lib.hid (show Calls Try.prog 20 #[.pointer (some ⟨g, 0, none⟩)] w_ fun e w' => ∃ A' c' L', e = .returned (.slice A' nx c') ∧ XAt w' M A' nx L' ∧ L'.map Prod.snd = Lx.map Prod.snd ∧ Grow w_ w' by
            have h := lall_any HQ.out
            rw [← HPS.out, List.length_map, HXT.out.1] at h
            exact h.mono fun e w' ⟨A', c', L', h1, h2, h3, h4, _⟩ => ⟨A', c', L', h1, h2, h3, h4⟩)
          have hnx : nx ≤ 32 := by
            have := HQ.out.big
            rw [← HPS.out, List.length_map, HXT.out.1] at this
            exact this
          have z1 : ((nx : Int) != (nx : Int)) = false := by simp
          go_wp2_with fail
          refine HLEN.out.mono ?_
          rintro e w2 ⟨rfl, rfl⟩
          go_wp2_with fail
          refine HALQ.out.mono ?_
          rintro e w2_ ⟨A', c', L', rfl, hxa, hmp, hb_⟩
          have HXA := Lib.hid hxa; have HMP := Lib.hid hmp
          have HQ_ := Lib.hid (HQ.out.grow hb_); have HXT_ := Lib.hid (HXT.out.grow hb_); have HB_ := Lib.hid (HB.out.grow' hb_)
          clear hxa hmp hb_ HQ HXT HB HLEN HALQ
          have HQ := HQ_; have HXT := HXT_; have HB := HB_
          clear HQ_ HXT_ HB_
          try clear w_
          rename World => w_
          go_wp2_with fail
          refine (rsameL_any HXA.out HXT.out HMP.out (by omega)).mono ?_
          rintro e w2_ ⟨rfl, hb_⟩
          have HQ_ := Lib.hid (HQ.out.grow hb_); have HXT_ := Lib.hid (HXT.out.grow hb_); have HB_ := Lib.hid (HB.out.grow' hb_)
          clear hb_ HQ HXT HB HXA HMP z1
          have v1 : IntKind.i64.wrap ((k : Int) + 1) = (k : Int) + 1 := IntWalk.i64_in _ (by omega)
          go_wp2_with fail
          go_roundw
          all_goals clear v1
          case rel => exact ⟨k + 1, g, M, Ax, nx, cx, Lx, ps, by omega, by go_num, rfl, rfl, Lib.hid ⟨HQ_.out, HXT_.out, HPS.out, HNC.out, HB_.out⟩⟩
          case measure => simp [intOf]; omega
      · obtain rfl : k = n := by omega
        go_wp2_with fail
        refine (HAW.out _).mono ?_
        rintro e w2 ⟨rfl, hb⟩
        have HB2 := Lib.hid (HB.out.grow' hb)
        clear hb
        go_wp2_with fail
        go_ret
        exact ⟨rfl, HB2.out⟩
end Go.Proofs.Ytmchpopllhnahaa

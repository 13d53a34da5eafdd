/- The document's Push of requests. Printed by mkqt.py. -/
import Derived.Test.YtmchpopllhnahaaQR
namespace Go.Proofs.Ytmchpopllhnahaa
open Go.RowKit
set_option linter.unusedVariables false
theorem ret_t_c_t {P : Program} {fn : Func} {a : Act} {w : World} {p q r : Tmp} {ty : TypeId} (h : fn.results = #[.tmp q, .cell p ty, .tmp r]) {n : Nat} (hT : RowT P ty n) {g : Nat} {t : TypeId} {cs : List Value} (hb : Blk w g t cs) (hp : a.tmps.getD p undef = .pointer (some ⟨g, 0, none⟩)) (hn : cs.length = n)
    {v u : Value} (hq : a.tmps.getD q undef = v) (hr : a.tmps.getD r undef = u) (hd : a.defers = [])
    {R : Ending → World → Prop} (hR : R (.returned (.tuple #[v, .agg cs.toArray, u])) w) : bodyPost P fn R .ret a w := by
  obtain ⟨d, hu, hdd, hi⟩ := hT
  refine bodyPost_ret (v := .tuple #[v, .agg cs.toArray, u]) ?_ hd hR
  have hp' : a.tmps[p]?.getD undef = .pointer (some ⟨g, 0, none⟩) := by simpa using hp
  have hq' : a.tmps[q]?.getD undef = v := by simpa using hq
  have hr' : a.tmps[r]?.getD undef = u := by simpa using hr
  have hload := run_loadVar_row (P := P) w g t ty cs.toArray (0, 0) d hb hu (by revert hdd; cases d <;> simp) (by rw [hi]; simp [hn])
  simp [results, h, hp', hq', hr', asAddr, hload]
theorem exec_loadb {P : Program} {w : World} {ev : Operand → Value} {o : Oper} {T : TypeId} {x : Operand} (ho : o.op = .load T x) {n : Nat} (hT : RowT P T n) {g : Nat} {t : TypeId} {cs : List Value} (hb : Blk w g t cs) (hx : ev x = .pointer (some ⟨g, 0, none⟩)) (hn : cs.length = n) :
    (execOp ev o).run P w = .ok (.value (.agg cs.toArray)) w := by
  obtain ⟨d, hu, hd, hi⟩ := hT
  have hrun := run_loadVar_row (P := P) w g t T cs.toArray (0, 0) d hb hu (by revert hd; cases d <;> simp) (by rw [hi]; simp [hn])
  unfold execOp
  simp only [ho, hx, Instr.loadAt, Instr.sureAddr, Sem.run_bind, Sem.run_pure, Result.andThen_ok, hrun]
/-- 'append' onto an empty slice that is not nil: a new row, or none. -/
theorem run_app_empty {P : Program} {w : World} {e dT ty : TypeId} {sz bytes z0 : Nat} (HE : ElemT P dT e sz bytes) (h0 : Blk w z0 e []) {Bd m c2 : Nat} {A2 : Option Addr} {news : List Value} (hr : Sl w Bd sz A2 m news) (h1 : ∀ u ∈ news, u.oneCell' = true) (hb : m * bytes ≤ 140737488355328) (hmx : m ≤ 140737488355328) :
    ∃ A' c' w', (Builtin.append_ #[dT, dT] ty #[.slice (some ⟨z0, 0, none⟩) 0 0, .slice A2 m c2]).run P w = .ok (.slice A' m c') w' ∧ w'.ownsRow z0 e sz (.slice A' m c') m news ∧ Grow w w' := by
  obtain ⟨i, z, hi, hz, hsz, hby, hzs, hp⟩ := HE.hi
  subst hsz hby
  have hown : w.ownsRow z0 e i.size (.slice (some ⟨z0, 0, none⟩) 0 0) 0 [] := ⟨by simp, .inr ⟨z0, 0, #[], rfl, Nat.le_refl _, h0, Nat.le_refl _, Nat.zero_le _, by simp, by simp⟩⟩
  rcases Nat.eq_zero_or_pos m with hm | hm
  · subst hm
    have hn : news = [] := List.eq_nil_of_length_eq_zero (by simpa using hr.1)
    subst hn
    refine ⟨some ⟨z0, 0, none⟩, 0, w, ?_, hown, Grow.refl _⟩
    cases A2 with
    | none => exact run_app_none (P := P) w z0 dT ty e i i.size HE.ht hi _ 0 [] hown c2
    | some ad =>
      have hl : (loadCells ad 0).run P w = .ok #[] w := by simpa using run_loadCells_list (P := P) w ad [] (by simp)
      simp [Builtin.append_, run_underlying HE.ht, sizeOf, typeInfo, hi, Builtin.lenOf, Builtin.firstCells, hl, storeCells]
  · obtain ⟨b, off, rfl, _, hc⟩ := hr.2 hm
    have hrun := run_append_grow (P := P) w dT ty e i z HE.ht hi hz ⟨z0, 0, none⟩ 0 0 [] (by simp) (fun j u hj => by simp at hj) ⟨b, off, none⟩ m c2 news hr.1 (fun j u hu => by rw [Addr.add_lit]; exact hc j u hu) (by omega) (by omega) (growslice_fits (by omega) (by simpa using hb))
    have hge := grownCap_ge w (0 + m) 0 e
    have hcm : grownCap w (0 + m) 0 e ≤ maxLen := grownCap_le_maxLen w (0 + m) 0 e (by unfold maxLen; omega)
    simp only [Nat.zero_add] at hrun hge hcm
    refine ⟨_, _, _, hrun, ⟨hr.1, .inr ⟨w.heap.size, _, _, rfl, Nat.le_of_lt h0.lt, heap_alloc_new w.drew _, hge, hcm, ?_, ?_⟩⟩, (Drawn.all (Drawn.one w)).alloc (Nat.le_refl _) _⟩
    · simp only [Array.size_append, List.size_toArray, size_zeroCells, hzs, hr.1, List.length_nil, Nat.zero_add, ← Nat.add_mul]
      congr 1
      omega
    · rw [← hr.1]
      simp
theorem wpl_appe {P : Program} {w : World} {ops : Array Oper} {rest : List Oper} {o : Oper} {a : Act} {Q : Exit → Act → World → Prop} (hgd : o.guard = none) {s x : Operand} {t : TypeId}
    (ho : o.op = .call { callee := .builtin .append, args := #[s, x], argTypes := #[t, t] }) {e : TypeId} {sz bytes z0 : Nat} (HE : ElemT P t e sz bytes) (h0 : Blk w z0 e []) (hs : a.eval s = .slice (some ⟨z0, 0, none⟩) 0 0)
    {Bd m c2 : Nat} {A2 : Option Addr} {news : List Value} (hr : Sl w Bd sz A2 m news) (hx : a.eval x = .slice A2 m c2) (h1 : ∀ u ∈ news, u.oneCell' = true) (hb : m * bytes ≤ 140737488355328) (hmx : m ≤ 140737488355328)
    (h : ∀ A' c' w', w'.ownsRow z0 e sz (.slice A' m c') m news → Grow w w' → wpList P ops Q rest (a.put o.dst (.slice A' m c')) w') : wpList P ops Q (o :: rest) a w := by
  refine wpList_plain hgd fun K hK => ?_
  obtain ⟨A', c', w', hrun, h2, h3⟩ := run_app_empty (P := P) (ty := o.type) (c2 := c2) HE h0 hr h1 hb hmx
  unfold Oper.wp execOp
  simp only [ho, resolve, invoke, builtin, Sem.run_bind, Sem.run_pure, Result.andThen_ok, List.map_toArray, List.map_cons, List.map_nil, hs, hx, hrun]
  exact hK _ _ (h A' c' w' h2 h3)
def GBy (A : Option Addr) (w w' : World) : Prop := w.grownBy w' (A.map Addr.block)
theorem GBy.refl (A : Option Addr) (w : World) : GBy A w w := World.grownBy.refl w _
theorem GBy.trans (A : Option Addr) (w1 w2 w3 : World) (h : GBy A w1 w2) (k : GBy A w2 w3) : GBy A w1 w3 := grown_trans h k
theorem own_xat {w : World} {base n c : Nat} {A : Option Addr} {L : List (Value × Wt)} {M : List Nat} (h : OwnW w base A n c L) (hM : ∀ b ∈ M, b < base) (he : ∀ p ∈ L, BV w M p.1 p.2.bs ∧ p.2.ok) : XAt w M A n L :=
  ⟨h.len, Sl.of_own h, fun _ b hb hm => by have h1 := own_from h b hb; have h2 := hM b hm; omega, he⟩
theorem posP_cons {pr : Wt → Bool} {x : Wt} {r : List Wt} : posP pr (x :: r) = if pr x then 0 else posP pr r + 1 := rfl
set_option maxRecDepth 100000 in
set_option maxHeartbeats 8000000 in
theorem rpush_any {w : World} {M : List Nat} {A : Option Addr} {n c : Nat} {L : List (Value × Wt)} {v : Value} {p : Wt} (h : XAt w M A n L) (hM : ∀ b ∈ M, b < w.heap.size) (hnc : n ≤ c) (hn : n ≤ 32) (hv : BV w M v p.bs) (hk : p.ok) :
    Calls Try.prog 26 #[.slice A n c, wtA v p] w fun e w' => ∃ A' n' c' L' vo, e = .returned (.tuple #[.slice A' n' c', wtA vo (pushP (L.map Prod.snd) p).2.1, .int .i64 (pushP (L.map Prod.snd) p).2.2]) ∧ XAt w' M A' n' L' ∧ n' ≤ c' ∧ L'.map Prod.snd = (pushP (L.map Prod.snd) p).1 ∧ BV w' M vo (pushP (L.map Prod.snd) p).2.1.bs ∧ Grow w w' := by
  have HX := Lib.hid h
  have HV0 := Lib.hid hv
  have HOK := Lib.hid hk
  have HML := Lib.hid hM
  have HL := Lib.hid h.1
  have HWC := Lib.hid (wtV_cl p hv.one)
  have HD0 := Lib.hid wt0_cl
  have HBT := Lib.hid bt_wt0
  have H0 := Lib.hid (show (wtV v p)[0]? = some (.int .i64 p.cl) from rfl)
  have H1 := Lib.hid (show (wtV v p)[1]? = some (.int .i64 p.num) from rfl)
  have H2 := Lib.hid (show (wtV v p)[2]? = some (.float .f64 p.rate) from rfl)
  obtain ⟨ps, hps⟩ : ∃ q, q = L.map Prod.snd := ⟨_, rfl⟩
  have HPS := Lib.hid hps
  rw [← hps]
  obtain ⟨rs, hrs⟩ : ∃ q, q = pushP ps p := ⟨_, rfl⟩
  rw [← hrs]
  have HRE := Lib.hid (show rs = _ from hrs.trans (by unfold pushP; rfl))
  unfold wtA
  obtain ⟨xs, hxs⟩ : ∃ q, q = wtV v p := ⟨_, rfl⟩
  have HXS := Lib.hid hxs
  rw [← hxs] at HWC H0 H1 H2 ⊢
  clear hxs hv hk hps hrs hM
  obtain ⟨th, hth⟩ : ∃ q, q = hasP ps p.cl p.num := ⟨_, rfl⟩
  have HTH := Lib.hid hth
  have HHAS := Lib.hid (fun w (h : XAt w M A n L) => rhas_any (c := c) h (by omega) p.cl p.num)
  rw [← HPS.out, ← hth] at HHAS
  obtain ⟨w_, hw⟩ : ∃ x, x = w := ⟨_, rfl⟩
  have HB := Lib.hid (show Below w.heap.size w w_ by rw [hw]; exact Below.refl _ _)
  suffices H : Calls Try.prog 26 #[.slice A n c, .agg xs.toArray] w_ (fun e w' => ∃ A' n' c' L' vo, e = .returned (.tuple #[.slice A' n' c', .agg (wtV vo rs.2.1).toArray, .int .i64 rs.2.2]) ∧ XAt w' M A' n' L' ∧ n' ≤ c' ∧ L'.map Prod.snd = rs.1 ∧ BV w' M vo rs.2.1.bs ∧ Grow w w') by rw [hw] at H; exact H
  clear hw h hth
  go_enter Try.func26, Try.ntmps26
  go_wp2_with (first | (with_reducible refine wpl_box (o := ⟨some 3, _, _, _, _, _⟩) rfl rfl rfl ?_))
  intro w2_ hb2_ hb_ hsz2_
  have HX_ := Lib.hid (at_mk hb2_ HWC.out.len)
  clear hb2_ hsz2_
  have HG_ := Lib.hid HB.out.size
  have HB_ := Lib.hid (HB.out.grow' hb_)
  clear HB
  have HB := HB_
  clear HB_
  generalize hg_ : w_.heap.size = g3 at HX_ HG_ ⊢
  clear hg_
  have HP_g := HG_
  clear HG_
  have HP := HX_
  clear hb_ HX_
  try clear w_
  rename World => w_
  go_wp2_with (first | (with_reducible refine wpl_alloc (o := ⟨some 5, _, _, _, _, _⟩) rfl rfl zero_wait ?_))
  intro w2_ hb2_ hb_ hsz2_
  have HX_ := Lib.hid (at_mk hb2_ len_wait)
  clear hb2_ hsz2_
  have HG_ := Lib.hid HB.out.size
  have HR_HP := Lib.hid (Nat.ne_of_lt HP.out.lt)
  have HB_ := Lib.hid (HB.out.grow' hb_)
  clear HB
  have HB := HB_
  clear HB_
  have HP_ := Lib.hid (HP.out.grow hb_)
  clear HP
  have HP := HP_
  clear HP_
  generalize hg_ : w_.heap.size = g5 at HX_ HG_ HR_HP ⊢
  clear hg_
  have HR_g := HG_
  clear HG_
  have HR := HX_
  clear hb_ HX_
  try clear w_
  rename World => w_
  have c0 := HP.out.blk.at_ H0.out
  have c1 := HP.out.blk.at_ H1.out
  go_wp2_with fail
  refine (HHAS.out _ (HX.out.grow HB.out)).mono ?_
  rintro e w2_ ⟨rfl, rfl⟩
  clear c0 c1 HHAS
  cases th with
  | true =>
    have HRT := Lib.hid (show rs = (ps, noWt, 24) by rw [HRE.out, if_pos HTH.out.symm])
    go_wp2_with (first | (with_reducible refine wpl_stop (o := ⟨some 17, _, _, _, _, _⟩) ?_))
    refine stop_go ?_
    refine wpl_build rfl rfl HBT.out ?_
    go_wp2_with (first | (with_reducible refine wpl_storeb (o := ⟨none, .store _ _ _, _, _, _, _⟩) rfl rfl row_wait HR.out.blk rfl rfl HR.out.len HD0.out.len HD0.out.one ?_))
    intro w2_ hb2_ hg2_ hsz2_
    have HB_ := Lib.hid (put_below HB.out HR_g.out hg2_)
    have HX_ := Lib.hid (at_mk hb2_ HD0.out.len)
    clear hb2_ hg2_ hsz2_ HB HR
    have HB := HB_
    have HR := HX_
    clear HB_ HX_
    try clear w_
    rename World => w_
    go_wp2_with fail
    refine ret_t_c_t rfl row_wait HR.out.blk rfl HR.out.len rfl rfl rfl ?_
    rw [HRT.out]
    exact ⟨A, n, c, L, nilS, rfl, HX.out.grow HB.out, hnc, HPS.out.symm, BV.nil _ _, HB.out⟩
  | false =>
    go_wp2_with (first | (with_reducible refine wpl_alloc (o := ⟨some 7, _, _, _, _, _⟩) rfl rfl zero_wait ?_))
    intro w2_ hb2_ hb_ hsz2_
    have HX_ := Lib.hid (at_mk hb2_ len_wait)
    clear hb2_ hsz2_
    have HG_ := Lib.hid HB.out.size
    have HT_HP := Lib.hid (Nat.ne_of_lt HP.out.lt)
    have HT_HR := Lib.hid (Nat.ne_of_lt HR.out.lt)
    have HB_ := Lib.hid (HB.out.grow' hb_)
    clear HB
    have HB := HB_
    clear HB_
    have HP_ := Lib.hid (HP.out.grow hb_)
    clear HP
    have HP := HP_
    clear HP_
    have HR_ := Lib.hid (HR.out.grow hb_)
    clear HR
    have HR := HR_
    clear HR_
    generalize hg_ : w_.heap.size = g7 at HX_ HG_ HT_HP HT_HR ⊢
    clear hg_
    have HT_g := HG_
    clear HG_
    have HT := HX_
    clear hb_ HX_
    try clear w_
    rename World => w_
    have hN := hn
    go_upto_if 20 with fail
    go_cut [0] from 21 (fun s0 wr => ∃ A1 n1 c1 L1 vo po, s0 = .slice A1 n1 c1 ∧ Hid (n1 ≤ 31 ∧ n1 ≤ c1 ∧ rs = (insP p (L1.map Prod.snd), po, 0) ∧ XAt w M A1 n1 L1) ∧ Hid (At wr g3 29 4 xs ∧ At wr g5 29 4 (wtV nilS noWt) ∧ At wr g7 29 4 (wtV vo po) ∧ BV w M vo po.bs ∧ Below w.heap.size w wr))
    case first =>
      by_cases hn32 : n = 32
      · subst hn32
        obtain ⟨b_, off_, q, rfl, hq, hc, hbq, hokq⟩ := HX.out.at_ (k := 31) (by omega)
        have HC := Lib.hid (show MidAt w_ b_ (off_ + 124) (wtV q.1 q.2) from fun j u hu => bcell HB.out (hc j u hu))
        have HBQ := Lib.hid hbq; have HOQ := Lib.hid hokq
        have HPQ := Lib.hid (wtV_cl q.2 hbq.one)
        have HG31 := Lib.hid (show ps.getD 31 noWt = q.2 by rw [HPS.out, List.getD_eq_getElem?_getD, List.getElem?_map, hq]; rfl)
        have HCMP := Lib.hid (show ∀ w, Calls Try.prog 13 #[.float .f64 p.rate, .float .f64 q.2.rate] w fun e w' => e = .returned (.int .i64 (cmpK p.rate q.2.rate)) ∧ Below w.heap.size w w' from fun w => by
          refine (refcmp_any p.rate q.2.rate w HOK.out.1 hokq.1).mono ?_
          rintro e w' ⟨h1, rfl⟩
          exact ⟨h1, Below.refl _ _⟩)
        obtain ⟨z, hz⟩ : ∃ z, z = cmpK p.rate q.2.rate := ⟨_, rfl⟩
        have HZ := Lib.hid hz
        rw [← hz] at HCMP
        obtain ⟨rp, hrp⟩ : ∃ z, z = p.rate := ⟨_, rfl⟩
        obtain ⟨rq, hrq⟩ : ∃ z, z = q.2.rate := ⟨_, rfl⟩
        have H2P := Lib.hid (show xs[2]? = some (.float .f64 rp) by rw [hrp]; exact H2.out)
        rw [← hrp, ← hrq] at HCMP
        have H2Q := Lib.hid (show (wtV q.1 q.2)[2]? = some (.float .f64 rq) by rw [hrq]; rfl)
        clear hc hq hbq hokq hz hrp hrq
        obtain ⟨qv, hqv⟩ : ∃ x, x = wtV q.1 q.2 := ⟨_, rfl⟩
        have HQV := Lib.hid hqv
        rw [← hqv] at HC HPQ H2Q
        clear hqv
        try go_wp2_with fail
        repeat' (first | (with_reducible refine wp_plan (id := 5) Grow [0,2,0,0,0,2,3,0] (.get 0 (.get 1 (.get 2 (.get 3 (.get 4 (.get 5 (.act 6 (.get 7 .done)))))))) (by kernel_rfl) (by kernel_rfl) Grow.refl Grow.trans ?_) | go_values | go_skip | go_guarded | go_step | go_upon | go_back)
        intro w_ hd_
        have hb_ := hd_.grow
        have HB_ := Lib.hid (HB.out.grow' hb_)
        clear HB
        have HB := HB_
        clear HB_
        have HP_ := Lib.hid (HP.out.grow hb_)
        clear HP
        have HP := HP_
        clear HP_
        have HR_ := Lib.hid (HR.out.grow hb_)
        clear HR
        have HR := HR_
        clear HR_
        have HT_ := Lib.hid (HT.out.grow hb_)
        clear HT
        have HT := HT_
        clear HT_
        have HC_ := Lib.hid (HC.out.grow hb_)
        clear HC
        have HC := HC_
        clear HC_
        clear hb_ hd_
        have c2 := HP.out.blk.at_ H2P.out
        have cq := HC.out 2 _ H2Q.out
        repeat (first | (refine pl_calm rfl rfl (by first | exact wanted_none rfl | (go_simp; done) | rfl) (fun w_ => by first | (go_simp; rfl) | (go_simp; done) | rfl) (fun K hK => ?_); go_simp; refine hK _ _ ?_; clear hK K) | (refine pl_skip rfl (by first | (go_simp; done) | rfl) (fun K hK => ?_); go_simp; refine hK _ _ ?_; clear hK K) | (refine pl_skipa rfl (by first | (go_simp; done) | rfl) (fun K hK => ?_); go_simp; refine hK _ _ ?_; clear hK K) | (refine pl_load rfl rfl (by first | exact wanted_none rfl | (go_simp; done) | rfl) rfl (by first | rfl | (go_simp; rfl)) (by kernel_rfl) (by first | exact c2 | exact cq) (fun K hK => ?_); go_simp; refine hK _ _ ?_; clear hK K) | (refine pl_loadnow rfl rfl (by first | exact wanted_none rfl | (go_simp; done) | rfl) rfl (by first | rfl | (go_simp; rfl)) (by kernel_rfl) (by first | exact c2 | exact cq) (fun K hK => ?_); go_simp; refine hK _ _ ?_; clear hK K))
        refine pl_act rfl (by first | exact wanted_none rfl | (go_simp; done) | rfl) (fun K hK => ?_)
        go_wp2_with fail
        refine (HCMP.out _).mono ?_
        rintro e w_ ⟨rfl, hb_⟩
        go_wp2_with fail
        refine hK _ _ (fun _ => hb_) ?_
        clear hK K
        have HB_ := Lib.hid (HB.out.grow' hb_)
        clear HB
        have HB := HB_
        clear HB_
        have HP_ := Lib.hid (HP.out.grow hb_)
        clear HP
        have HP := HP_
        clear HP_
        have HR_ := Lib.hid (HR.out.grow hb_)
        clear HR
        have HR := HR_
        clear HR_
        have HT_ := Lib.hid (HT.out.grow hb_)
        clear HT
        have HT := HT_
        clear HT_
        have HC_ := Lib.hid (HC.out.grow hb_)
        clear HC
        have HC := HC_
        clear HC_
        clear hb_
        repeat (first | (refine pl_calm rfl rfl (by first | exact wanted_none rfl | (go_simp; done) | rfl) (fun w_ => by first | (go_simp; rfl) | (go_simp; done) | rfl) (fun K hK => ?_); go_simp; refine hK _ _ ?_; clear hK K) | (refine pl_skip rfl (by first | (go_simp; done) | rfl) (fun K hK => ?_); go_simp; refine hK _ _ ?_; clear hK K) | (refine pl_skipa rfl (by first | (go_simp; done) | rfl) (fun K hK => ?_); go_simp; refine hK _ _ ?_; clear hK K))
        refine pl_done ?_
        clear c2 cq HCMP
        by_cases hz0 : z ≤ 0
        · have HRT := Lib.hid (show rs = (ps, noWt, 18) by rw [HRE.out, if_neg (by rw [← HTH.out]; simp), if_pos (by rw [HPS.out, List.length_map, HL.out]; omega), HG31.out, if_pos (by rw [← HZ.out]; exact hz0)])
          go_wp2_with (first | (with_reducible refine wpl_stop (o := ⟨some 30, _, _, _, _, _⟩) ?_))
          refine stop_go ?_
          refine wpl_build rfl rfl HBT.out ?_
          go_wp2_with (first | (with_reducible refine wpl_storeb (o := ⟨none, .store _ _ _, _, _, _, _⟩) rfl rfl row_wait HR.out.blk rfl rfl HR.out.len HD0.out.len HD0.out.one ?_))
          intro w2_ hb2_ hg2_ hsz2_
          have HB_ := Lib.hid (put_below HB.out HR_g.out hg2_)
          have HX_ := Lib.hid (at_mk hb2_ HD0.out.len)
          clear hb2_ hg2_ hsz2_ HB HR
          have HB := HB_
          have HR := HX_
          clear HB_ HX_
          try clear w_
          rename World => w_
          go_wp2_with fail
          refine ret_t_c_t rfl row_wait HR.out.blk rfl HR.out.len rfl rfl rfl ?_
          rw [HRT.out]
          exact ⟨_, 32, c, L, nilS, rfl, HX.out.grow HB.out, hnc, HPS.out.symm, BV.nil _ _, HB.out⟩
        · have HZ0 := Lib.hid hz0
          have HC3 := Lib.hid (show ∀ j u, qv[j]? = some u → w_.cell? ⟨b_, off_ + 124 + j, none⟩ = some u from HC.out)
          have b31 : (31 : Int) ≤ (c : Int) := by omega
          have b32 : 31 ≤ c := by omega
          clear hz0
          go_wp2_with (first | (with_reducible refine wpl_loadm (o := ⟨some 33, _, _, _, _, _⟩) rfl rfl row_wait HC3.out rfl HPQ.out.len ?_) | (with_reducible refine wpl_storeb (o := ⟨none, .store _ _ _, _, _, _, _⟩) rfl rfl row_wait HT.out.blk rfl rfl HT.out.len HPQ.out.len HPQ.out.one ?_))
          intro w3 hb3 hg3 hz3
          have HG := Lib.hid hg3
          have HT3 := Lib.hid (show At w3 g7 29 4 qv from at_mk hb3 HPQ.out.len)
          have HP3 := Lib.hid (HP.out.off HG.out HT_HP.out)
          have HR3 := Lib.hid (HR.out.off HG.out HT_HR.out)
          have HB3 := Lib.hid (put_below HB.out HT_g.out HG.out)
          have HRT := Lib.hid (show rs = (insP p ((L.take 31).map Prod.snd), q.2, 0) by
            rw [HRE.out, if_neg (by rw [← HTH.out]; simp), if_pos (by rw [HPS.out, List.length_map, HL.out]; omega), HG31.out, if_neg (by rw [← HZ.out]; have := HZ0.out; omega), List.map_take, ← HPS.out])
          clear hb3 hg3 hz3 HG HT HP HR HB HC HC3
          go_wp2_with fail
          go_meet
          case rel => exact ⟨_, 31, c, L.take 31, q.1, q.2, rfl, Lib.hid ⟨by omega, by omega, HRT.out, HX.out.take (by omega)⟩, Lib.hid ⟨HP3.out, HR3.out, by rw [← HQV.out]; exact HT3.out, HBQ.out, HB3.out⟩⟩
      · have hlt : n < 32 := by omega
        have hlt2 : n + 1 < 33 := by omega
        go_wp2_with fail
        go_meet
        case rel => exact ⟨A, n, c, L, nilS, noWt, rfl, Lib.hid ⟨by omega, hnc, by rw [HRE.out, if_neg (by rw [← HTH.out]; simp), if_neg (by rw [HPS.out, List.length_map, HL.out]; omega), HPS.out], HX.out⟩, Lib.hid ⟨HP.out, HR.out, HT.out, BV.nil _ _, HB.out⟩⟩
    case rest =>
      obtain ⟨A1, n1, c1, L1, vo, po, rfl, hI, hJ⟩ := hcut
      have HRS1 := Lib.hid hI.out.2.2.1; have HX1 := Lib.hid hI.out.2.2.2
      have hn1 : n1 ≤ 31 := hI.out.1
      have hnc1 : n1 ≤ c1 := hI.out.2.1
      clear HP HR HT HB
      have HP := Lib.hid hJ.out.1; have HR := Lib.hid hJ.out.2.1; have HT := Lib.hid hJ.out.2.2.1; have HVO := Lib.hid hJ.out.2.2.2.1; have HB := Lib.hid hJ.out.2.2.2.2
      clear hI hJ HRE HTH hN hn hnc HX HL HPS
      try clear w_
      rename World => w_
      obtain ⟨pz, hpz⟩ : ∃ q, q = posP (isLess p.rate) (L1.map Prod.snd) := ⟨_, rfl⟩
      have HPZ := Lib.hid hpz
      clear hpz
      go_upto_block 0 with fail
      go_cut [8] from 36 (fun s8 wr => ∃ k : Nat, s8 = .int .i64 (k : Int) ∧ k ≤ n1 ∧ Hid (k = pz) ∧ Hid (At wr g3 29 4 xs ∧ At wr g5 29 4 (wtV nilS noWt) ∧ At wr g7 29 4 (wtV vo po) ∧ Below w.heap.size w wr))
      case first =>
        go_wp2_with fail
        go_loopw [8] (fun s8 wr => ∃ k : Nat, s8 = .int .i64 (k : Int) ∧ k ≤ n1 ∧ Hid (k + posP (isLess p.rate) ((L1.drop k).map Prod.snd) = pz) ∧ Hid (At wr g3 29 4 xs ∧ At wr g5 29 4 (wtV nilS noWt) ∧ At wr g7 29 4 (wtV vo po) ∧ Below w.heap.size w wr)) (fun s8 _ => n1 - (intOf s8).toNat)
        case atStart => exact ⟨0, rfl, by omega, Lib.hid (by rw [HPZ.out, List.drop_zero, Nat.zero_add]), Lib.hid ⟨HP.out, HR.out, HT.out, HB.out⟩⟩
        case round =>
          obtain ⟨k, rfl, hk, hpos, hJ⟩ := hrel
          clear HP HR HT HB
          have HP := Lib.hid hJ.out.1; have HR := Lib.hid hJ.out.2.1; have HT := Lib.hid hJ.out.2.2.1; have HB := Lib.hid hJ.out.2.2.2
          clear hJ
          rename World => w_
          by_cases hlt : k < n1
          · obtain ⟨b_, off_, q, rfl, hq, hc, _, hokq⟩ := HX1.out.at_ hlt
            have HC := Lib.hid (show MidAt w_ b_ (off_ + k * 4) (wtV q.1 q.2) from fun j u hu => bcell HB.out (hc j u hu))
            have HCMP := Lib.hid (show ∀ w, Calls Try.prog 13 #[.float .f64 q.2.rate, .float .f64 p.rate] w fun e w' => e = .returned (.int .i64 (cmpK q.2.rate p.rate)) ∧ Below w.heap.size w w' from fun w => by
              refine (refcmp_any q.2.rate p.rate w hokq.1 HOK.out.1).mono ?_
              rintro e w' ⟨h1, rfl⟩
              exact ⟨h1, Below.refl _ _⟩)
            obtain ⟨z, hz⟩ : ∃ z, z = cmpK q.2.rate p.rate := ⟨_, rfl⟩
            have HPO := Lib.hid (show posP (isLess p.rate) ((L1.drop k).map Prod.snd) = if z < 0 then 0 else posP (isLess p.rate) ((L1.drop (k + 1)).map Prod.snd) + 1 by
              obtain ⟨hkk, e⟩ := List.getElem?_eq_some_iff.1 hq
              rw [List.drop_eq_getElem_cons hkk, List.map_cons, posP_cons, e]
              have e2 : isLess p.rate q.2 = decide (z < 0) := by rw [hz]; rfl
              rw [e2]
              by_cases hz0 : z < 0
              · rw [if_pos hz0, if_pos (by simpa using hz0)]
              · rw [if_neg hz0, if_neg (by simpa using hz0)])
            rw [← hz] at HCMP
            obtain ⟨rp, hrp⟩ : ∃ z, z = p.rate := ⟨_, rfl⟩
            obtain ⟨rq, hrq⟩ : ∃ z, z = q.2.rate := ⟨_, rfl⟩
            have H2P := Lib.hid (show xs[2]? = some (.float .f64 rp) by rw [hrp]; exact H2.out)
            rw [← hrp, ← hrq] at HCMP
            have H2Q := Lib.hid (show (wtV q.1 q.2)[2]? = some (.float .f64 rq) by rw [hrq]; rfl)
            clear hc hq hokq hz hrp hrq
            obtain ⟨qv, hqv⟩ : ∃ x, x = wtV q.1 q.2 := ⟨_, rfl⟩
            rw [← hqv] at HC H2Q
            clear hqv
            try go_wp2_with fail
            repeat' (first | (with_reducible refine wp_plan (id := 10) Grow [0,0,0,0,0,0,0,0,0,2,0,2,3,0,0] (.get 0 (.get 1 (.get 2 (.get 3 (.get 4 (.get 5 (.get 6 (.get 7 (.get 8 (.get 9 (.get 10 (.get 11 (.act 12 (.get 13 (.get 14 .done))))))))))))))) (by kernel_rfl) (by kernel_rfl) Grow.refl Grow.trans ?_) | go_values | go_skip | go_guarded | go_step | go_upon | go_back)
            intro w_ hd_
            have hb_ := hd_.grow
            have HB_ := Lib.hid (HB.out.grow' hb_)
            clear HB
            have HB := HB_
            clear HB_
            have HP_ := Lib.hid (HP.out.grow hb_)
            clear HP
            have HP := HP_
            clear HP_
            have HR_ := Lib.hid (HR.out.grow hb_)
            clear HR
            have HR := HR_
            clear HR_
            have HT_ := Lib.hid (HT.out.grow hb_)
            clear HT
            have HT := HT_
            clear HT_
            have HC_ := Lib.hid (HC.out.grow hb_)
            clear HC
            have HC := HC_
            clear HC_
            clear hb_ hd_
            have c2 := HP.out.blk.at_ H2P.out
            have cq := HC.out 2 _ H2Q.out
            repeat (first | (refine pl_calm rfl rfl (by first | exact wanted_none rfl | (go_simp; done) | rfl) (fun w_ => by first | (go_simp; rfl) | (go_simp; done) | rfl) (fun K hK => ?_); go_simp; refine hK _ _ ?_; clear hK K) | (refine pl_skip rfl (by first | (go_simp; done) | rfl) (fun K hK => ?_); go_simp; refine hK _ _ ?_; clear hK K) | (refine pl_skipa rfl (by first | (go_simp; done) | rfl) (fun K hK => ?_); go_simp; refine hK _ _ ?_; clear hK K) | (refine pl_load rfl rfl (by first | exact wanted_none rfl | (go_simp; done) | rfl) rfl (by first | rfl | (go_simp; rfl)) (by kernel_rfl) (by first | exact c2 | exact cq) (fun K hK => ?_); go_simp; refine hK _ _ ?_; clear hK K) | (refine pl_loadnow rfl rfl (by first | exact wanted_none rfl | (go_simp; done) | rfl) rfl (by first | rfl | (go_simp; rfl)) (by kernel_rfl) (by first | exact c2 | exact cq) (fun K hK => ?_); go_simp; refine hK _ _ ?_; clear hK K))
            refine pl_act rfl (by first | exact wanted_none rfl | (go_simp; done) | rfl) (fun K hK => ?_)
            go_wp2_with fail
            refine (HCMP.out _).mono ?_
            rintro e w_ ⟨rfl, hb_⟩
            go_wp2_with fail
            refine hK _ _ (fun _ => hb_) ?_
            clear hK K
            have HB_ := Lib.hid (HB.out.grow' hb_)
            clear HB
            have HB := HB_
            clear HB_
            have HP_ := Lib.hid (HP.out.grow hb_)
            clear HP
            have HP := HP_
            clear HP_
            have HR_ := Lib.hid (HR.out.grow hb_)
            clear HR
            have HR := HR_
            clear HR_
            have HT_ := Lib.hid (HT.out.grow hb_)
            clear HT
            have HT := HT_
            clear HT_
            have HC_ := Lib.hid (HC.out.grow hb_)
            clear HC
            have HC := HC_
            clear HC_
            clear hb_
            repeat (first | (refine pl_calm rfl rfl (by first | exact wanted_none rfl | (go_simp; done) | rfl) (fun w_ => by first | (go_simp; rfl) | (go_simp; done) | rfl) (fun K hK => ?_); go_simp; refine hK _ _ ?_; clear hK K) | (refine pl_skip rfl (by first | (go_simp; done) | rfl) (fun K hK => ?_); go_simp; refine hK _ _ ?_; clear hK K) | (refine pl_skipa rfl (by first | (go_simp; done) | rfl) (fun K hK => ?_); go_simp; refine hK _ _ ?_; clear hK K))
            refine pl_done ?_
            clear c2 cq HCMP HC
            have v1 : IntKind.i64.wrap ((k : Int) + 1) = (k : Int) + 1 := IntWalk.i64_in _ (by omega)
            by_cases hz0 : z < 0
            · have HE := Lib.hid (show k = pz by have h := hpos.out; rw [HPO.out, if_pos hz0] at h; omega)
              have hz1 : ¬ (0 ≤ z) := by omega
              clear v1 hz0
              go_wp2_with fail
              go_meet
              case rel => exact ⟨k, rfl, by omega, HE, Lib.hid ⟨HP.out, HR.out, HT.out, HB.out⟩⟩
            · have HE := Lib.hid (show k + 1 + posP (isLess p.rate) ((L1.drop (k + 1)).map Prod.snd) = pz by have h := hpos.out; rw [HPO.out, if_neg hz0] at h; omega)
              have hz1 : 0 ≤ z := by omega
              clear hz0
              go_wp2_with fail
              go_roundw
              all_goals clear v1
              case rel => exact ⟨k + 1, by go_num, by omega, HE, Lib.hid ⟨HP.out, HR.out, HT.out, HB.out⟩⟩
              case measure => simp [intOf]; omega
          · obtain rfl : k = n1 := by omega
            have HE := Lib.hid (show k = pz by have h := hpos.out; rw [List.drop_of_length_le (by rw [HX1.out.1]; exact Nat.le_refl _)] at h; exact h)
            try go_wp2_with fail
            repeat' (first | (with_reducible refine wp_plan (id := 10) Grow [0,0,0,0,0,0,0,0,0,2,0,2,3,0,0] (.get 0 (.get 1 (.get 2 (.get 3 (.get 4 (.get 5 (.get 6 (.get 7 (.get 8 (.get 9 (.get 10 (.get 11 (.act 12 (.get 13 (.get 14 .done))))))))))))))) (by kernel_rfl) (by kernel_rfl) Grow.refl Grow.trans ?_) | go_values | go_skip | go_guarded | go_step | go_upon | go_back)
            intro w_ hd_
            have hb_ := hd_.grow
            have HB_ := Lib.hid (HB.out.grow' hb_)
            clear HB
            have HB := HB_
            clear HB_
            have HP_ := Lib.hid (HP.out.grow hb_)
            clear HP
            have HP := HP_
            clear HP_
            have HR_ := Lib.hid (HR.out.grow hb_)
            clear HR
            have HR := HR_
            clear HR_
            have HT_ := Lib.hid (HT.out.grow hb_)
            clear HT
            have HT := HT_
            clear HT_
            clear hb_ hd_
            repeat (first | (refine pl_calm rfl rfl (by first | exact wanted_none rfl | (go_simp; done) | rfl) (fun w_ => by first | (go_simp; rfl) | (go_simp; done) | rfl) (fun K hK => ?_); go_simp; refine hK _ _ ?_; clear hK K) | (refine pl_skip rfl (by first | (go_simp; done) | rfl) (fun K hK => ?_); go_simp; refine hK _ _ ?_; clear hK K) | (refine pl_skipa rfl (by first | (go_simp; done) | rfl) (fun K hK => ?_); go_simp; refine hK _ _ ?_; clear hK K))
            refine pl_done ?_
            go_wp2_with fail
            go_meet
            case rel => exact ⟨k, rfl, by omega, HE, Lib.hid ⟨HP.out, HR.out, HT.out, HB.out⟩⟩
      case rest =>
        obtain ⟨k, rfl, hkn, hkp, hJ⟩ := hcut
        clear HP HR HT HB
        have HP := Lib.hid hJ.out.1; have HR := Lib.hid hJ.out.2.1; have HT := Lib.hid hJ.out.2.2.1; have HB := Lib.hid hJ.out.2.2.2
        clear hJ
        try clear w_
        rename World => w_
        have HONK := Lib.hid (OwnW.one (M := M) (w := w) (L := L1.take k) (fun q hq => HX1.out.2.2.2 q (List.mem_of_mem_take hq)))
        have HOND := Lib.hid (OwnW.one (M := M) (w := w) (L := L1.drop k) (fun q hq => HX1.out.2.2.2 q (List.mem_of_mem_drop hq)))
        have hkc : k ≤ c1 := by omega
        have hkc2 : (k : Int) ≤ (c1 : Int) := by omega
        have hkn2 : (k : Int) ≤ (n1 : Int) := by omega
        go_upto_region 12 with fail
        go_cut [9] from 53 (fun s9 wr => ∃ A9 c9 z9, s9 = .slice A9 (k + 1) c9 ∧ Hid (OwnW wr z9 A9 (k + 1) c9 (L1.take k ++ [(v, p)]) ∧ (w.heap.size ≤ z9 ∧ g3 < z9 ∧ g5 < z9 ∧ g7 < z9) ∧ At wr g3 29 4 xs ∧ At wr g5 29 4 (wtV nilS noWt) ∧ At wr g7 29 4 (wtV vo po) ∧ Below w.heap.size w wr))
        case first =>
          try go_wp2_with fail
          repeat' (first | (with_reducible refine wp_plan (id := 12) Grow [4,0,0,0,4,1,3,3,0] (.get 1 (.get 2 (.get 3 (.get 5 (.fork 0 (.fork 4 (.act 6 (.act 7 (.get 8 .done))) (.act 6 (.act 4 (.act 7 (.get 8 .done))))) (.act 6 (.act 0 (.act 4 (.act 7 (.get 8 .done)))))))))) (by kernel_rfl) (by kernel_rfl) Grow.refl Grow.trans ?_) | go_values | go_skip | go_guarded | go_step | go_upon | go_back)
          intro w_ hd_
          have hb_ := hd_.grow
          have HB_ := Lib.hid (HB.out.grow' hb_)
          clear HB
          have HB := HB_
          clear HB_
          have HP_ := Lib.hid (HP.out.grow hb_)
          clear HP
          have HP := HP_
          clear HP_
          have HR_ := Lib.hid (HR.out.grow hb_)
          clear HR
          have HR := HR_
          clear HR_
          have HT_ := Lib.hid (HT.out.grow hb_)
          clear HT
          have HT := HT_
          clear HT_
          clear hb_ hd_
          repeat (first | (refine pl_loadb rfl rfl (by first | exact wanted_none rfl | (go_simp; done) | rfl) rfl row_wait HP.out.blk (by first | rfl | (go_simp; done) | rfl) HP.out.len (fun K hK => ?_); go_simp; refine hK _ _ ?_; clear hK K) | (refine pl_loadbnow rfl rfl (by first | exact wanted_none rfl | (go_simp; done) | rfl) rfl row_wait HP.out.blk (by first | rfl | (go_simp; done) | rfl) HP.out.len (fun K hK => ?_); go_simp; refine hK _ _ ?_; clear hK K) | (refine pl_calm rfl rfl (by first | exact wanted_none rfl | (go_simp; done) | rfl) (fun w_ => by first | (go_simp; rfl) | (go_simp; done) | rfl) (fun K hK => ?_); go_simp; refine hK _ _ ?_; clear hK K) | (refine pl_skip rfl (by first | (go_simp; done) | rfl) (fun K hK => ?_); go_simp; refine hK _ _ ?_; clear hK K) | (refine pl_skipa rfl (by first | (go_simp; done) | rfl) (fun K hK => ?_); go_simp; refine hK _ _ ?_; clear hK K))
          refine pl_fork rfl (by first | exact wanted_none rfl | (go_simp; done) | rfl) (fun K hK => ?_) ?_
          · go_wp2_with fail
            generalize hw_ : World.alloc w_ _ = w2_
            obtain ⟨hX_, hb_, hs_⟩ := alloc_eq hw_
            have HZ0 := Lib.hid (show w.heap.size ≤ w_.heap.size ∧ g3 < w_.heap.size ∧ g5 < w_.heap.size ∧ g7 < w_.heap.size from ⟨HB.out.size, HP.out.lt, HR.out.lt, HT.out.lt⟩)
            generalize hg_ : w_.heap.size = z0 at hX_ hs_ HZ0 ⊢
            refine hK _ _ (fun _ => hb_) ?_
            have H0 := Lib.hid (show Blk w2_ z0 29 [] from hX_)
            clear hK K hw_ hX_
            replace HP := Lib.hid (HP.out.grow hb_)
            replace HR := Lib.hid (HR.out.grow hb_)
            replace HT := Lib.hid (HT.out.grow hb_)
            replace HB := Lib.hid (HB.out.grow' hb_)
            clear hb_ hg_ hs_
            try clear w_
            rename World => w_
            have HZL := Lib.hid (show z0 ≤ w_.heap.size from Nat.le_of_lt H0.out.lt)
            refine pl_fork rfl (by first | exact wanted_none rfl | (go_simp; done) | rfl) (fun K hK => ?_) ?_
            · have HSK := Lib.hid ((HX1.out.grow HB.out).take hkn).2.1
              show wpList _ _ _ [⟨some _, .call _, _, _, _, _⟩] _ _
              go_wp2_with (first | (at_builtin; refine wpl_appe rfl rfl el_wait H0.out rfl HSK.out rfl HONK.out (by omega) (by omega) ?_))
              intro A4 c4 w2_ ho_ hb_
              have HO4 := Lib.hid (show OwnW w2_ z0 A4 k c4 (L1.take k) from ho_)
              go_wp2_with fail
              refine hK _ _ (fun _ => hb_) ?_
              clear hK K ho_ HSK H0
              replace HP := Lib.hid (HP.out.grow hb_)
              replace HR := Lib.hid (HR.out.grow hb_)
              replace HT := Lib.hid (HT.out.grow hb_)
              replace HB := Lib.hid (HB.out.grow' hb_)
              replace HZL := Lib.hid (Nat.le_trans HZL.out hb_.size)
              clear hb_
              try clear w_
              rename World => w_
              refine pl_act rfl (by first | exact wanted_none rfl | (go_simp; done) | rfl) (fun K hK => ?_)
              show wpList _ _ _ [⟨some 59, .buildSlice _ _ _, _, _, _, _⟩] _ _
              go_wp2_with (first | (with_reducible refine wpl_row1 (o := ⟨some 59, _, _, _, _, _⟩) rfl rfl el_wait rfl HWC.out.len (by decide) ?_))
              intro w2_ hr_ hb_ hs3_
              go_wp2_with fail
              refine hK _ _ (fun h => by first | cases h | exact hb_) ?_
              clear hK K
              replace HP := Lib.hid (HP.out.grow hb_)
              replace HR := Lib.hid (HR.out.grow hb_)
              replace HT := Lib.hid (HT.out.grow hb_)
              replace HO4 := Lib.hid (HO4.out.grow hb_)
              replace HB := Lib.hid (HB.out.grow' hb_)
              replace HZL := Lib.hid (Nat.le_trans HZL.out hb_.size)
              generalize w_.heap.size = q6 at hr_ ⊢
              have H6 := Lib.hid (show At w2_ q6 29 4 xs from at_mk hr_ HWC.out.len)
              clear hr_ hb_ hs3_
              try clear w_
              rename World => w_
              refine pl_act rfl (by first | exact wanted_none rfl | (go_simp; done) | rfl) (fun K hK => ?_)
              have HROW := Lib.hid (H6.out.blk.sl (sz := 4) (n := 1) (by rw [HWC.out.len]))
              have HSZ := Lib.hid (show z0 ≤ w_.heap.size from HZL.out)
              show wpList _ _ _ [⟨some _, .call _, _, _, _, _⟩] _ _
              go_wp2_with (first | (at_builtin; refine wpl_apps rfl rfl el_wait HO4.out rfl HROW.out rfl HWC.out.one (by omega) (by omega) HSZ.out ?_))
              intro A7 c7 w2_ ho_ hg_ hA_
              have HG := Lib.hid hg_
              have HO7 := Lib.hid (show OwnW w2_ z0 A7 (k + 1) c7 (L1.take k ++ [(v, p)]) by unfold OwnW; rw [flat_append, wflat_one, ← HXS.out]; exact ho_)
              have HNE := Lib.hid (show ∀ b, b < z0 → some b ≠ A4.map Addr.block from fun b hb e => by have := own_from HO4.out b e.symm; omega)
              have HP7 := Lib.hid (at_mk (HP.out.blk.grown HG.out (HNE.out _ HZ0.out.2.1)) HP.out.len)
              have HR7 := Lib.hid (at_mk (HR.out.blk.grown HG.out (HNE.out _ HZ0.out.2.2.1)) HR.out.len)
              have HT7 := Lib.hid (at_mk (HT.out.blk.grown HG.out (HNE.out _ HZ0.out.2.2.2)) HT.out.len)
              have HB7 := Lib.hid (show Below w.heap.size w w2_ from HB.out.grown HG.out HB.out.size (fun q hq => Nat.le_trans HZ0.out.1 (own_from HO4.out q hq)))
              clear ho_ hg_ hA_ HG HNE HP HR HT HB HO4 H6 HROW HSZ
              go_wp2_with fail
              refine hK _ _ (fun h => by cases h) ?_
              clear hK K
              repeat (first | (refine pl_calm rfl rfl (by first | exact wanted_none rfl | (go_simp; done) | rfl) (fun w_ => by first | (go_simp; rfl) | (go_simp; done) | rfl) (fun K hK => ?_); go_simp; refine hK _ _ ?_; clear hK K) | (refine pl_skip rfl (by first | (go_simp; done) | rfl) (fun K hK => ?_); go_simp; refine hK _ _ ?_; clear hK K) | (refine pl_skipa rfl (by first | (go_simp; done) | rfl) (fun K hK => ?_); go_simp; refine hK _ _ ?_; clear hK K))
              refine pl_done ?_
              go_wp2_with fail
              go_meet
              case rel => exact ⟨A7, c7, z0, rfl, Lib.hid ⟨HO7.out, HZ0.out, HP7.out, HR7.out, HT7.out, HB7.out⟩⟩
            · refine pl_act rfl (by first | exact wanted_none rfl | (go_simp; done) | rfl) (fun K hK => ?_)
              show wpList _ _ _ [⟨some 59, .buildSlice _ _ _, _, _, _, _⟩] _ _
              go_wp2_with (first | (with_reducible refine wpl_row1 (o := ⟨some 59, _, _, _, _, _⟩) rfl rfl el_wait rfl HWC.out.len (by decide) ?_))
              intro w2_ hr_ hb_ hs3_
              go_wp2_with fail
              refine hK _ _ (fun h => by first | cases h | exact hb_) ?_
              clear hK K
              replace HP := Lib.hid (HP.out.grow hb_)
              replace HR := Lib.hid (HR.out.grow hb_)
              replace HT := Lib.hid (HT.out.grow hb_)
              replace H0 := Lib.hid (H0.out.grow hb_)
              replace HB := Lib.hid (HB.out.grow' hb_)
              replace HZL := Lib.hid (Nat.le_trans HZL.out hb_.size)
              generalize w_.heap.size = q6 at hr_ ⊢
              have H6 := Lib.hid (show At w2_ q6 29 4 xs from at_mk hr_ HWC.out.len)
              clear hr_ hb_ hs3_
              try clear w_
              rename World => w_
              refine pl_act rfl (by first | exact wanted_none rfl | (go_simp; done) | rfl) (fun K hK => ?_)
              have HSK := Lib.hid ((HX1.out.grow HB.out).take hkn).2.1
              show wpList _ _ _ [⟨some _, .call _, _, _, _, _⟩] _ _
              go_wp2_with (first | (at_builtin; refine wpl_appe rfl rfl el_wait H0.out rfl HSK.out rfl HONK.out (by omega) (by omega) ?_))
              intro A4 c4 w2_ ho_ hb_
              have HO4 := Lib.hid (show OwnW w2_ z0 A4 k c4 (L1.take k) from ho_)
              go_wp2_with fail
              refine hK _ _ (fun _ => hb_) ?_
              clear hK K ho_ HSK H0
              replace HP := Lib.hid (HP.out.grow hb_)
              replace HR := Lib.hid (HR.out.grow hb_)
              replace HT := Lib.hid (HT.out.grow hb_)
              replace H6 := Lib.hid (H6.out.grow hb_)
              replace HB := Lib.hid (HB.out.grow' hb_)
              replace HZL := Lib.hid (Nat.le_trans HZL.out hb_.size)
              clear hb_
              try clear w_
              rename World => w_
              refine pl_act rfl (by first | exact wanted_none rfl | (go_simp; done) | rfl) (fun K hK => ?_)
              have HROW := Lib.hid (H6.out.blk.sl (sz := 4) (n := 1) (by rw [HWC.out.len]))
              have HSZ := Lib.hid (show z0 ≤ w_.heap.size from HZL.out)
              show wpList _ _ _ [⟨some _, .call _, _, _, _, _⟩] _ _
              go_wp2_with (first | (at_builtin; refine wpl_apps rfl rfl el_wait HO4.out rfl HROW.out rfl HWC.out.one (by omega) (by omega) HSZ.out ?_))
              intro A7 c7 w2_ ho_ hg_ hA_
              have HG := Lib.hid hg_
              have HO7 := Lib.hid (show OwnW w2_ z0 A7 (k + 1) c7 (L1.take k ++ [(v, p)]) by unfold OwnW; rw [flat_append, wflat_one, ← HXS.out]; exact ho_)
              have HNE := Lib.hid (show ∀ b, b < z0 → some b ≠ A4.map Addr.block from fun b hb e => by have := own_from HO4.out b e.symm; omega)
              have HP7 := Lib.hid (at_mk (HP.out.blk.grown HG.out (HNE.out _ HZ0.out.2.1)) HP.out.len)
              have HR7 := Lib.hid (at_mk (HR.out.blk.grown HG.out (HNE.out _ HZ0.out.2.2.1)) HR.out.len)
              have HT7 := Lib.hid (at_mk (HT.out.blk.grown HG.out (HNE.out _ HZ0.out.2.2.2)) HT.out.len)
              have HB7 := Lib.hid (show Below w.heap.size w w2_ from HB.out.grown HG.out HB.out.size (fun q hq => Nat.le_trans HZ0.out.1 (own_from HO4.out q hq)))
              clear ho_ hg_ hA_ HG HNE HP HR HT HB HO4 H6 HROW HSZ
              go_wp2_with fail
              refine hK _ _ (fun h => by cases h) ?_
              clear hK K
              repeat (first | (refine pl_calm rfl rfl (by first | exact wanted_none rfl | (go_simp; done) | rfl) (fun w_ => by first | (go_simp; rfl) | (go_simp; done) | rfl) (fun K hK => ?_); go_simp; refine hK _ _ ?_; clear hK K) | (refine pl_skip rfl (by first | (go_simp; done) | rfl) (fun K hK => ?_); go_simp; refine hK _ _ ?_; clear hK K) | (refine pl_skipa rfl (by first | (go_simp; done) | rfl) (fun K hK => ?_); go_simp; refine hK _ _ ?_; clear hK K))
              refine pl_done ?_
              go_wp2_with fail
              go_meet
              case rel => exact ⟨A7, c7, z0, rfl, Lib.hid ⟨HO7.out, HZ0.out, HP7.out, HR7.out, HT7.out, HB7.out⟩⟩
          · refine pl_act rfl (by first | exact wanted_none rfl | (go_simp; done) | rfl) (fun K hK => ?_)
            show wpList _ _ _ [⟨some 59, .buildSlice _ _ _, _, _, _, _⟩] _ _
            go_wp2_with (first | (with_reducible refine wpl_row1 (o := ⟨some 59, _, _, _, _, _⟩) rfl rfl el_wait rfl HWC.out.len (by decide) ?_))
            intro w2_ hr_ hb_ hs3_
            go_wp2_with fail
            refine hK _ _ (fun h => by first | cases h | exact hb_) ?_
            clear hK K
            replace HP := Lib.hid (HP.out.grow hb_)
            replace HR := Lib.hid (HR.out.grow hb_)
            replace HT := Lib.hid (HT.out.grow hb_)
            replace HB := Lib.hid (HB.out.grow' hb_)
            generalize w_.heap.size = q6 at hr_ ⊢
            have H6 := Lib.hid (show At w2_ q6 29 4 xs from at_mk hr_ HWC.out.len)
            clear hr_ hb_ hs3_
            try clear w_
            rename World => w_
            refine pl_act rfl (by first | exact wanted_none rfl | (go_simp; done) | rfl) (fun K hK => ?_)
            go_wp2_with fail
            generalize hw_ : World.alloc w_ _ = w2_
            obtain ⟨hX_, hb_, hs_⟩ := alloc_eq hw_
            have HZ0 := Lib.hid (show w.heap.size ≤ w_.heap.size ∧ g3 < w_.heap.size ∧ g5 < w_.heap.size ∧ g7 < w_.heap.size from ⟨HB.out.size, HP.out.lt, HR.out.lt, HT.out.lt⟩)
            generalize hg_ : w_.heap.size = z0 at hX_ hs_ HZ0 ⊢
            refine hK _ _ (fun _ => hb_) ?_
            have H0 := Lib.hid (show Blk w2_ z0 29 [] from hX_)
            clear hK K hw_ hX_
            replace HP := Lib.hid (HP.out.grow hb_)
            replace HR := Lib.hid (HR.out.grow hb_)
            replace HT := Lib.hid (HT.out.grow hb_)
            replace H6 := Lib.hid (H6.out.grow hb_)
            replace HB := Lib.hid (HB.out.grow' hb_)
            clear hb_ hg_ hs_
            try clear w_
            rename World => w_
            have HZL := Lib.hid (show z0 ≤ w_.heap.size from Nat.le_of_lt H0.out.lt)
            refine pl_act rfl (by first | exact wanted_none rfl | (go_simp; done) | rfl) (fun K hK => ?_)
            have HSK := Lib.hid ((HX1.out.grow HB.out).take hkn).2.1
            show wpList _ _ _ [⟨some _, .call _, _, _, _, _⟩] _ _
            go_wp2_with (first | (at_builtin; refine wpl_appe rfl rfl el_wait H0.out rfl HSK.out rfl HONK.out (by omega) (by omega) ?_))
            intro A4 c4 w2_ ho_ hb_
            have HO4 := Lib.hid (show OwnW w2_ z0 A4 k c4 (L1.take k) from ho_)
            go_wp2_with fail
            refine hK _ _ (fun _ => hb_) ?_
            clear hK K ho_ HSK H0
            replace HP := Lib.hid (HP.out.grow hb_)
            replace HR := Lib.hid (HR.out.grow hb_)
            replace HT := Lib.hid (HT.out.grow hb_)
            replace H6 := Lib.hid (H6.out.grow hb_)
            replace HB := Lib.hid (HB.out.grow' hb_)
            replace HZL := Lib.hid (Nat.le_trans HZL.out hb_.size)
            clear hb_
            try clear w_
            rename World => w_
            refine pl_act rfl (by first | exact wanted_none rfl | (go_simp; done) | rfl) (fun K hK => ?_)
            have HROW := Lib.hid (H6.out.blk.sl (sz := 4) (n := 1) (by rw [HWC.out.len]))
            have HSZ := Lib.hid (show z0 ≤ w_.heap.size from HZL.out)
            show wpList _ _ _ [⟨some _, .call _, _, _, _, _⟩] _ _
            go_wp2_with (first | (at_builtin; refine wpl_apps rfl rfl el_wait HO4.out rfl HROW.out rfl HWC.out.one (by omega) (by omega) HSZ.out ?_))
            intro A7 c7 w2_ ho_ hg_ hA_
            have HG := Lib.hid hg_
            have HO7 := Lib.hid (show OwnW w2_ z0 A7 (k + 1) c7 (L1.take k ++ [(v, p)]) by unfold OwnW; rw [flat_append, wflat_one, ← HXS.out]; exact ho_)
            have HNE := Lib.hid (show ∀ b, b < z0 → some b ≠ A4.map Addr.block from fun b hb e => by have := own_from HO4.out b e.symm; omega)
            have HP7 := Lib.hid (at_mk (HP.out.blk.grown HG.out (HNE.out _ HZ0.out.2.1)) HP.out.len)
            have HR7 := Lib.hid (at_mk (HR.out.blk.grown HG.out (HNE.out _ HZ0.out.2.2.1)) HR.out.len)
            have HT7 := Lib.hid (at_mk (HT.out.blk.grown HG.out (HNE.out _ HZ0.out.2.2.2)) HT.out.len)
            have HB7 := Lib.hid (show Below w.heap.size w w2_ from HB.out.grown HG.out HB.out.size (fun q hq => Nat.le_trans HZ0.out.1 (own_from HO4.out q hq)))
            clear ho_ hg_ hA_ HG HNE HP HR HT HB HO4 H6 HROW HSZ
            go_wp2_with fail
            refine hK _ _ (fun h => by cases h) ?_
            clear hK K
            repeat (first | (refine pl_calm rfl rfl (by first | exact wanted_none rfl | (go_simp; done) | rfl) (fun w_ => by first | (go_simp; rfl) | (go_simp; done) | rfl) (fun K hK => ?_); go_simp; refine hK _ _ ?_; clear hK K) | (refine pl_skip rfl (by first | (go_simp; done) | rfl) (fun K hK => ?_); go_simp; refine hK _ _ ?_; clear hK K) | (refine pl_skipa rfl (by first | (go_simp; done) | rfl) (fun K hK => ?_); go_simp; refine hK _ _ ?_; clear hK K))
            refine pl_done ?_
            go_wp2_with fail
            go_meet
            case rel => exact ⟨A7, c7, z0, rfl, Lib.hid ⟨HO7.out, HZ0.out, HP7.out, HR7.out, HT7.out, HB7.out⟩⟩
        case rest =>
          obtain ⟨A9, c9, z9, rfl, hJ⟩ := hcut
          clear HP HR HT HB
          have HO9 := Lib.hid hJ.out.1; have HZ9 := Lib.hid hJ.out.2.1; have HP := Lib.hid hJ.out.2.2.1; have HR := Lib.hid hJ.out.2.2.2.1; have HT := Lib.hid hJ.out.2.2.2.2.1; have HB := Lib.hid hJ.out.2.2.2.2.2
          clear hJ
          try clear w_
          rename World => w_
          have HTC := Lib.hid (wtV_cl po HVO.out.one)
          obtain ⟨zs, hzs⟩ : ∃ x, x = wtV vo po := ⟨_, rfl⟩
          have HZS := Lib.hid hzs
          rw [← hzs] at HTC HT
          clear hzs
          have HNE := Lib.hid (show ∀ b, b < z9 → some b ≠ A9.map Addr.block from fun b hb e => by have := own_from HO9.out b e.symm; omega)
          have HRS2 := Lib.hid (show rs.1 = (L1.take k ++ [(v, p)] ++ L1.drop k).map Prod.snd ∧ rs.2 = (po, 0) by
            rw [HRS1.out]
            refine ⟨?_, rfl⟩
            have e := ins_map (p := p) (v := v) (L := L1)
            rw [← HPZ.out, ← hkp.out] at e
            rw [← e]; simp)
          by_cases hck : c1 = k
          · subst hck
            obtain rfl : n1 = c1 := by omega
            try go_wp2_with fail
            repeat' (first | (with_reducible refine wp_plan (id := 13) (fun a b => (GBy A9 a b)) [0,0,0,0,4,1,0,3,0] (.get 0 (.get 1 (.get 2 (.get 3 (.get 5 (.act 4 (.get 6 (.act 7 (.get 8 .done))))))))) (by kernel_rfl) (by kernel_rfl) (GBy.refl A9) (GBy.trans A9) ?_) | go_values | go_skip | go_guarded | go_step | go_upon | go_back)
            intro w_ hd_
            have hb_ := hd_.grow
            have HB_ := Lib.hid (HB.out.grow' hb_)
            clear HB
            have HB := HB_
            clear HB_
            have HP_ := Lib.hid (HP.out.grow hb_)
            clear HP
            have HP := HP_
            clear HP_
            have HR_ := Lib.hid (HR.out.grow hb_)
            clear HR
            have HR := HR_
            clear HR_
            have HT_ := Lib.hid (HT.out.grow hb_)
            clear HT
            have HT := HT_
            clear HT_
            have HO9_ := Lib.hid (HO9.out.grow hb_)
            clear HO9
            have HO9 := HO9_
            clear HO9_
            clear hb_ hd_
            repeat (first | (refine pl_calm rfl rfl (by first | exact wanted_none rfl | (go_simp; done) | rfl) (fun w_ => by first | (go_simp; rfl) | (go_simp; done) | rfl) (fun K hK => ?_); go_simp; refine hK _ _ ?_; clear hK K) | (refine pl_skip rfl (by first | (go_simp; done) | rfl) (fun K hK => ?_); go_simp; refine hK _ _ ?_; clear hK K) | (refine pl_skipa rfl (by first | (go_simp; done) | rfl) (fun K hK => ?_); go_simp; refine hK _ _ ?_; clear hK K))
            refine pl_read rfl rfl (by first | exact wanted_none rfl | (go_simp; done) | rfl) (fun w' hf => exec_loadb rfl row_wait (HT.out.blk.grown hf (HNE.out _ HZ9.out.2.2.2)) (by first | rfl | (go_simp; done) | rfl) HT.out.len) (fun K hK => ?_)
            go_simp
            refine hK _ _ ?_
            clear hK K
            have HSD := Lib.hid (show Sl w_ w_.heap.size 4 A1 0 (flat (L1.drop n1)) from by have h := ((HX1.out.grow HB.out).drop hkn hnc1).2.1; rw [if_pos rfl, Nat.sub_self] at h; exact h)
            have HSZ := Lib.hid (show z9 ≤ w_.heap.size from by rcases HO9.out.form with ⟨_, h, _⟩ | ⟨q, _, h1, h2⟩ <;> omega)
            refine pl_act rfl (by first | exact wanted_none rfl | (go_simp; done) | rfl) (fun K hK => ?_)
            show wpList _ _ _ [⟨some _, .call _, _, _, _, _⟩] _ _
            go_wp2_with (first | (at_builtin; refine wpl_apps rfl rfl el_wait HO9.out rfl HSD.out rfl HOND.out (by omega) (by omega) HSZ.out ?_))
            intro A' c' w2_ ho_ hg_ hA_
            have HG := Lib.hid hg_
            have HO := Lib.hid (show w2_.ownsRow z9 29 4 (.slice A' (n1 + 1 + (0)) c') (n1 + 1 + (0)) (flat (L1.take n1 ++ [(v, p)] ++ L1.drop n1)) by rw [flat_append]; exact ho_)
            have HR7 := Lib.hid (at_mk (HR.out.blk.grown HG.out (HNE.out _ HZ9.out.2.2.1)) HR.out.len)
            have HB7 := Lib.hid (show Below w.heap.size w w2_ from HB.out.grown HG.out HB.out.size (fun q hq => Nat.le_trans HZ9.out.1 (own_from HO9.out q hq)))
            go_wp2_with fail
            refine hK _ _ (fun _ => HG.out) ?_
            clear hK K ho_ hg_ hA_ HG HR HT HP HB HO9 HSD HSZ
            try clear w_
            rename World => w_
            repeat (first | (refine pl_calm rfl rfl (by first | exact wanted_none rfl | (go_simp; done) | rfl) (fun w_ => by first | (go_simp; rfl) | (go_simp; done) | rfl) (fun K hK => ?_); go_simp; refine hK _ _ ?_; clear hK K) | (refine pl_skip rfl (by first | (go_simp; done) | rfl) (fun K hK => ?_); go_simp; refine hK _ _ ?_; clear hK K) | (refine pl_skipa rfl (by first | (go_simp; done) | rfl) (fun K hK => ?_); go_simp; refine hK _ _ ?_; clear hK K))
            refine pl_act rfl (by first | exact wanted_none rfl | (go_simp; done) | rfl) (fun K hK => ?_)
            show wpList _ _ _ [⟨none, .store _ _ _, _, _, _, _⟩] _ _
            go_wp2_with (first | (with_reducible refine wpl_storeb (o := ⟨none, .store _ _ _, _, _, _, _⟩) rfl rfl row_wait HR7.out.blk rfl rfl HR7.out.len HTC.out.len HTC.out.one ?_))
            intro w5 hb5 hg5 hz5
            have HX5 := Lib.hid hb5
            have HG5 := Lib.hid hg5
            have HB5 := Lib.hid (put_below HB7.out HR_g.out HG5.out)
            have HO5 := Lib.hid (show OwnW w5 z9 A' (n1 + 1 + (0)) c' (L1.take n1 ++ [(v, p)] ++ L1.drop n1) from own_kept HO.out HG5.out (fun q hq e => by have h1 := own_from HO.out q (by rw [hq]; rfl); cases e; have := HZ9.out.2.2.1; omega))
            clear hb5 hg5 hz5
            go_wp2_with fail
            refine hK _ _ (fun h => by cases h) ?_
            clear hK K
            repeat (first | (refine pl_calm rfl rfl (by first | exact wanted_none rfl | (go_simp; done) | rfl) (fun w_ => by first | (go_simp; rfl) | (go_simp; done) | rfl) (fun K hK => ?_); go_simp; refine hK _ _ ?_; clear hK K) | (refine pl_skip rfl (by first | (go_simp; done) | rfl) (fun K hK => ?_); go_simp; refine hK _ _ ?_; clear hK K) | (refine pl_skipa rfl (by first | (go_simp; done) | rfl) (fun K hK => ?_); go_simp; refine hK _ _ ?_; clear hK K))
            refine pl_done ?_
            go_wp2_with fail
            refine ret_t_c_t rfl row_wait HX5.out rfl HTC.out.len rfl rfl rfl ?_
            rw [HRS2.out.2]
            exact ⟨A', _, c', _, vo, by rw [HZS.out]; rfl, own_xat HO5.out (fun b hb => Nat.lt_of_lt_of_le (HML.out b hb) HZ9.out.1) (fun q hq => by
              simp only [List.mem_append, List.mem_singleton] at hq
              rcases hq with (hq | rfl) | hq
              · exact ⟨(HX1.out.2.2.2 q (List.mem_of_mem_take hq)).1.grow HB5.out, (HX1.out.2.2.2 q (List.mem_of_mem_take hq)).2⟩
              · exact ⟨HV0.out.grow HB5.out, HOK.out⟩
              · exact ⟨(HX1.out.2.2.2 q (List.mem_of_mem_drop hq)).1.grow HB5.out, (HX1.out.2.2.2 q (List.mem_of_mem_drop hq)).2⟩), HO5.out.cap.1, HRS2.out.1.symm, HVO.out.grow HB5.out, HB5.out⟩
          · skip
            try go_wp2_with fail
            repeat' (first | (with_reducible refine wp_plan (id := 13) (fun a b => (GBy A9 a b)) [0,0,0,0,4,1,0,3,0] (.get 0 (.get 1 (.get 2 (.get 3 (.get 5 (.act 4 (.get 6 (.act 7 (.get 8 .done))))))))) (by kernel_rfl) (by kernel_rfl) (GBy.refl A9) (GBy.trans A9) ?_) | go_values | go_skip | go_guarded | go_step | go_upon | go_back)
            intro w_ hd_
            have hb_ := hd_.grow
            have HB_ := Lib.hid (HB.out.grow' hb_)
            clear HB
            have HB := HB_
            clear HB_
            have HP_ := Lib.hid (HP.out.grow hb_)
            clear HP
            have HP := HP_
            clear HP_
            have HR_ := Lib.hid (HR.out.grow hb_)
            clear HR
            have HR := HR_
            clear HR_
            have HT_ := Lib.hid (HT.out.grow hb_)
            clear HT
            have HT := HT_
            clear HT_
            have HO9_ := Lib.hid (HO9.out.grow hb_)
            clear HO9
            have HO9 := HO9_
            clear HO9_
            clear hb_ hd_
            repeat (first | (refine pl_calm rfl rfl (by first | exact wanted_none rfl | (go_simp; done) | rfl) (fun w_ => by first | (go_simp; rfl) | (go_simp; done) | rfl) (fun K hK => ?_); go_simp; refine hK _ _ ?_; clear hK K) | (refine pl_skip rfl (by first | (go_simp; done) | rfl) (fun K hK => ?_); go_simp; refine hK _ _ ?_; clear hK K) | (refine pl_skipa rfl (by first | (go_simp; done) | rfl) (fun K hK => ?_); go_simp; refine hK _ _ ?_; clear hK K))
            refine pl_read rfl rfl (by first | exact wanted_none rfl | (go_simp; done) | rfl) (fun w' hf => exec_loadb rfl row_wait (HT.out.blk.grown hf (HNE.out _ HZ9.out.2.2.2)) (by first | rfl | (go_simp; done) | rfl) HT.out.len) (fun K hK => ?_)
            go_simp
            refine hK _ _ ?_
            clear hK K
            have HSD := Lib.hid (show Sl w_ w_.heap.size 4 (A1.map (·.add (k * 4))) (n1 - k) (flat (L1.drop k)) from by have h := ((HX1.out.grow HB.out).drop hkn hnc1).2.1; rw [if_neg hck] at h; exact h)
            have HSZ := Lib.hid (show z9 ≤ w_.heap.size from by rcases HO9.out.form with ⟨_, h, _⟩ | ⟨q, _, h1, h2⟩ <;> omega)
            refine pl_act rfl (by first | exact wanted_none rfl | (go_simp; done) | rfl) (fun K hK => ?_)
            show wpList _ _ _ [⟨some _, .call _, _, _, _, _⟩] _ _
            go_wp2_with (first | (at_builtin; refine wpl_apps rfl rfl el_wait HO9.out rfl HSD.out rfl HOND.out (by omega) (by omega) HSZ.out ?_))
            intro A' c' w2_ ho_ hg_ hA_
            have HG := Lib.hid hg_
            have HO := Lib.hid (show w2_.ownsRow z9 29 4 (.slice A' (k + 1 + (n1 - k)) c') (k + 1 + (n1 - k)) (flat (L1.take k ++ [(v, p)] ++ L1.drop k)) by rw [flat_append]; exact ho_)
            have HR7 := Lib.hid (at_mk (HR.out.blk.grown HG.out (HNE.out _ HZ9.out.2.2.1)) HR.out.len)
            have HB7 := Lib.hid (show Below w.heap.size w w2_ from HB.out.grown HG.out HB.out.size (fun q hq => Nat.le_trans HZ9.out.1 (own_from HO9.out q hq)))
            go_wp2_with fail
            refine hK _ _ (fun _ => HG.out) ?_
            clear hK K ho_ hg_ hA_ HG HR HT HP HB HO9 HSD HSZ
            try clear w_
            rename World => w_
            repeat (first | (refine pl_calm rfl rfl (by first | exact wanted_none rfl | (go_simp; done) | rfl) (fun w_ => by first | (go_simp; rfl) | (go_simp; done) | rfl) (fun K hK => ?_); go_simp; refine hK _ _ ?_; clear hK K) | (refine pl_skip rfl (by first | (go_simp; done) | rfl) (fun K hK => ?_); go_simp; refine hK _ _ ?_; clear hK K) | (refine pl_skipa rfl (by first | (go_simp; done) | rfl) (fun K hK => ?_); go_simp; refine hK _ _ ?_; clear hK K))
            refine pl_act rfl (by first | exact wanted_none rfl | (go_simp; done) | rfl) (fun K hK => ?_)
            show wpList _ _ _ [⟨none, .store _ _ _, _, _, _, _⟩] _ _
            go_wp2_with (first | (with_reducible refine wpl_storeb (o := ⟨none, .store _ _ _, _, _, _, _⟩) rfl rfl row_wait HR7.out.blk rfl rfl HR7.out.len HTC.out.len HTC.out.one ?_))
            intro w5 hb5 hg5 hz5
            have HX5 := Lib.hid hb5
            have HG5 := Lib.hid hg5
            have HB5 := Lib.hid (put_below HB7.out HR_g.out HG5.out)
            have HO5 := Lib.hid (show OwnW w5 z9 A' (k + 1 + (n1 - k)) c' (L1.take k ++ [(v, p)] ++ L1.drop k) from own_kept HO.out HG5.out (fun q hq e => by have h1 := own_from HO.out q (by rw [hq]; rfl); cases e; have := HZ9.out.2.2.1; omega))
            clear hb5 hg5 hz5
            go_wp2_with fail
            refine hK _ _ (fun h => by cases h) ?_
            clear hK K
            repeat (first | (refine pl_calm rfl rfl (by first | exact wanted_none rfl | (go_simp; done) | rfl) (fun w_ => by first | (go_simp; rfl) | (go_simp; done) | rfl) (fun K hK => ?_); go_simp; refine hK _ _ ?_; clear hK K) | (refine pl_skip rfl (by first | (go_simp; done) | rfl) (fun K hK => ?_); go_simp; refine hK _ _ ?_; clear hK K) | (refine pl_skipa rfl (by first | (go_simp; done) | rfl) (fun K hK => ?_); go_simp; refine hK _ _ ?_; clear hK K))
            refine pl_done ?_
            go_wp2_with fail
            refine ret_t_c_t rfl row_wait HX5.out rfl HTC.out.len rfl rfl rfl ?_
            rw [HRS2.out.2]
            exact ⟨A', _, c', _, vo, by rw [HZS.out]; rfl, own_xat HO5.out (fun b hb => Nat.lt_of_lt_of_le (HML.out b hb) HZ9.out.1) (fun q hq => by
              simp only [List.mem_append, List.mem_singleton] at hq
              rcases hq with (hq | rfl) | hq
              · exact ⟨(HX1.out.2.2.2 q (List.mem_of_mem_take hq)).1.grow HB5.out, (HX1.out.2.2.2 q (List.mem_of_mem_take hq)).2⟩
              · exact ⟨HV0.out.grow HB5.out, HOK.out⟩
              · exact ⟨(HX1.out.2.2.2 q (List.mem_of_mem_drop hq)).1.grow HB5.out, (HX1.out.2.2.2 q (List.mem_of_mem_drop hq)).2⟩), HO5.out.cap.1, HRS2.out.1.symm, HVO.out.grow HB5.out, HB5.out⟩
end Go.Proofs.Ytmchpopllhnahaa

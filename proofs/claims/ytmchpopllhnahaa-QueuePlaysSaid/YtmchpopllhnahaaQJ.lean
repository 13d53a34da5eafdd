/- The contract of (*Queue).Push. -/
import Derived.Test.YtmchpopllhnahaaQI
namespace Go.Proofs.Ytmchpopllhnahaa
open Go.RowKit
set_option linter.unusedVariables false
/-- How many stand ahead of the first that pr takes. -/
def posP (pr : Wt → Bool) : List Wt → Nat
  | [] => 0
  | x :: r => if pr x then 0 else posP pr r + 1
def insP (p : Wt) (ps : List Wt) : List Wt := ps.take (posP (isLess p.rate) ps) ++ p :: ps.drop (posP (isLess p.rate) ps)
def hasP (ps : List Wt) (c n : Int) : Bool := ps.any (isHas c n)
def pushP (ps : List Wt) (p : Wt) : List Wt × Wt × Int :=
  if hasP ps p.cl p.num then (ps, noWt, 24)
  else if 32 ≤ ps.length then
    (if cmpK p.rate (ps.getD 31 noWt).rate ≤ 0 then (ps, noWt, 18) else (insP p (ps.take 31), ps.getD 31 noWt, 0))
  else (insP p ps, noWt, 0)
theorem posP_le (pr : Wt → Bool) : ∀ ps, posP pr ps ≤ ps.length
  | [] => Nat.le_refl _
  | x :: r => by
    have := posP_le pr r
    unfold posP
    rw [List.length_cons]
    split <;> omega
theorem idx_pos (pr : Wt → Bool) : ∀ (L : List (Value × Wt)) (k : Nat), (idxW pr L k = -1 ∧ posP pr (L.map Prod.snd) = L.length) ∨ (idxW pr L k = ((k + posP pr (L.map Prod.snd) : Nat) : Int) ∧ posP pr (L.map Prod.snd) < L.length)
  | [], k => .inl ⟨rfl, rfl⟩
  | x :: r, k => by
    have := idx_pos pr r (k + 1)
    unfold idxW
    rw [List.map_cons]
    unfold posP
    rw [List.length_cons]
    split
    · exact .inr ⟨by simp, by omega⟩
    · rcases this with ⟨h1, h2⟩ | ⟨h1, h2⟩
      · exact .inl ⟨h1, by omega⟩
      · exact .inr ⟨by rw [h1]; congr 1; omega, by omega⟩
theorem posP_map {pr : Wt → Bool} {L : List (Value × Wt)} : posP pr (L.map Prod.snd) ≤ L.length := by have := posP_le pr (L.map Prod.snd); rwa [List.length_map] at this
theorem ins_map {p : Wt} {v : Value} {L : List (Value × Wt)} : (L.take (posP (isLess p.rate) (L.map Prod.snd)) ++ (v, p) :: L.drop (posP (isLess p.rate) (L.map Prod.snd))).map Prod.snd = insP p (L.map Prod.snd) := by
  unfold insP
  rw [List.map_append, List.map_cons, List.map_take, List.map_drop]
def MidAt (w : World) (b off : Nat) (cs : List Value) : Prop := ∀ j u, cs[j]? = some u → w.cell? ⟨b, off + j, none⟩ = some u
theorem MidAt.grow {w w' : World} {b off : Nat} {cs : List Value} (h : MidAt w b off cs) (k : Grow w w') : MidAt w' b off cs := fun j u hu => bcell k (h j u hu)
theorem Step.wide {w w' : World} {M M' : List Nat} (h : Step w M w' M') (X : List Nat) : Step w (M ++ X) w' (M' ++ X) :=
  ⟨⟨h.1.os, h.1.tape, h.1.output, h.1.size, fun i hi hn => h.1.block i hi (fun hm => hn (List.mem_append_left _ hm))⟩, fun b hb => (List.mem_append.1 hb).elim (fun hm => (h.2 b hm).imp (List.mem_append_left _) id) (fun hm => .inl (List.mem_append_right _ hm))⟩
theorem ins_step {w w' : World} {g : Nat} {A A' : Option Addr} (hg : w.grownBy w' (A.map Addr.block)) (hA : A'.map Addr.block = A.map Addr.block ∨ ∃ b, A'.map Addr.block = some b ∧ w.heap.size ≤ b) : Step w (qM g A) w' (qM g A') := by
  refine ⟨⟨hg.os, hg.tape, hg.output, hg.size, fun i hi hn => hg.block i hi (fun e => hn (qM_mem.2 (.inr e.symm)))⟩, fun b hb => ?_⟩
  rcases qM_mem.1 hb with rfl | hb
  · exact .inl (qM_mem.2 (.inl rfl))
  · rcases hA with h | ⟨b', h, hb'⟩
    · exact .inl (qM_mem.2 (.inr (h.symm.trans hb)))
    · rw [h] at hb; cases hb; exact .inr hb'
def pushR (w : World) (base g : Nat) (A : Option Addr) (n : Nat) (L : List (Value × Wt)) (p : Wt) (e : Ending) (w' : World) : Prop :=
  ∃ vo A' n' c' L', e = .returned (.tuple #[wtA vo (pushP (L.map Prod.snd) p).2.1, .int .i64 (pushP (L.map Prod.snd) p).2.2]) ∧ BV w' (qM g A') vo (pushP (L.map Prod.snd) p).2.1.bs ∧ QAt w' base g [] A' n' c' L' ∧ L'.map Prod.snd = (pushP (L.map Prod.snd) p).1 ∧ Step w (qM g A) w' (qM g A')
set_option maxRecDepth 100000 in
set_option maxHeartbeats 8000000 in
theorem qpush_any {w : World} {base g n c : Nat} {A : Option Addr} {L : List (Value × Wt)} {v : Value} {p : Wt} (h : QAt w base g [] A n c L) (hv : BV w (qM g A) v p.bs) (hk : p.ok) :
    Calls Try.prog 9 #[.pointer (some ⟨g, 0, none⟩), wtA v p] w (pushR w base g A n L p) := by
  have HQ0 := Lib.hid h; have HQ := Lib.hid h
  have HV0 := Lib.hid hv
  have HOK := Lib.hid hk
  have HML := Lib.hid (fun b hb => (h.lts b hb).2)
  have HL := Lib.hid h.len
  have HN := Lib.hid h.big
  have HWC := Lib.hid (wtV_cl p hv.one)
  have HD0 := Lib.hid wt0_cl
  have HBT := Lib.hid bt_wt0
  have H0 := Lib.hid (show (wtV v p)[0]? = some (.int .i64 p.cl) from rfl)
  have H1 := Lib.hid (show (wtV v p)[1]? = some (.int .i64 p.num) from rfl)
  have H2 := Lib.hid (show (wtV v p)[2]? = some (.float .f64 p.rate) from rfl)
  obtain ⟨ps, hps⟩ : ∃ q, q = L.map Prod.snd := ⟨_, rfl⟩
  have HPS := Lib.hid hps
  unfold pushR
  rw [← hps]
  obtain ⟨rs, hrs⟩ : ∃ q, q = pushP ps p := ⟨_, rfl⟩
  have HRS := Lib.hid hrs
  rw [← hrs]
  have HRE := Lib.hid (show rs = _ from hrs.trans (by unfold pushP; rfl))
  unfold wtA
  obtain ⟨xs, hxs⟩ : ∃ q, q = wtV v p := ⟨_, rfl⟩
  have HXS := Lib.hid hxs
  rw [← hxs] at HWC H0 H1 H2 ⊢
  clear hxs hv hk hps hrs
  obtain ⟨th, hth⟩ : ∃ q, q = hasP ps p.cl p.num := ⟨_, rfl⟩
  have HTH := Lib.hid hth
  obtain ⟨w_, hw⟩ : ∃ x, x = w := ⟨_, rfl⟩
  have HB := Lib.hid (show Below w.heap.size w w_ by rw [hw]; exact Below.refl _ _)
  rw [← hw] at HQ
  suffices H : Calls Try.prog 9 #[.pointer (some ⟨g, 0, none⟩), .agg xs.toArray] w_ (fun e w' => ∃ vo A' n' c' L', e = .returned (.tuple #[.agg (wtV vo rs.2.1).toArray, .int .i64 rs.2.2]) ∧ BV w' (qM g A') vo rs.2.1.bs ∧ QAt w' base g [] A' n' c' L' ∧ L'.map Prod.snd = rs.1 ∧ Step w (qM g A) w' (qM g A')) by rw [hw] at H; exact H
  clear hw h hth
  go_enter Try.func9, Try.ntmps9
  go_wp2_with (first | (with_reducible refine wpl_box (o := ⟨some 3, _, _, _, _, _⟩) rfl rfl rfl ?_))
  intro w2_ hb2_ hb_ hsz2_
  have HX_ := Lib.hid (at_mk hb2_ HWC.out.len)
  clear hb2_ hsz2_
  have HG_ := Lib.hid HB.out.size
  have HB_ := Lib.hid (HB.out.grow' hb_)
  clear HB
  have HB := HB_
  clear HB_
  have HQ_ := Lib.hid (HQ.out.grow hb_)
  clear HQ
  have HQ := HQ_
  clear HQ_
  generalize hg_ : w_.heap.size = g3 at HX_ HG_ ⊢
  clear hg_
  have HP_g := HG_
  clear HG_
  have HP := HX_
  clear hb_ HX_
  try clear w_
  rename World => w_
  go_wp2_with (first | (with_reducible refine wpl_alloc (o := ⟨some 4, _, _, _, _, _⟩) rfl rfl zero_wait ?_))
  intro w2_ hb2_ hb_ hsz2_
  have HX_ := Lib.hid (at_mk hb2_ len_wait)
  clear hb2_ hsz2_
  have HG_ := Lib.hid HB.out.size
  have HR_HP := Lib.hid (Nat.ne_of_lt HP.out.lt)
  have HB_ := Lib.hid (HB.out.grow' hb_)
  clear HB
  have HB := HB_
  clear HB_
  have HQ_ := Lib.hid (HQ.out.grow hb_)
  clear HQ
  have HQ := HQ_
  clear HQ_
  have HP_ := Lib.hid (HP.out.grow hb_)
  clear HP
  have HP := HP_
  clear HP_
  generalize hg_ : w_.heap.size = g4 at HX_ HG_ HR_HP ⊢
  clear hg_
  have HR_g := HG_
  clear HG_
  have HR := HX_
  clear hb_ HX_
  try clear w_
  rename World => w_
  have c0 := HP.out.blk.at_ H0.out
  have c1 := HP.out.blk.at_ H1.out
  have HHAS := Lib.hid (fun w h => qhas_any (w := w) (base := base) (g := g) (n := n) (c := c) (X := []) (A := A) (L := L) (cc := p.cl) (nn := p.num) h)
  rw [← HPS.out] at HHAS
  have HTH2 := Lib.hid (show ps.any (isHas p.cl p.num) = th from HTH.out.symm)
  rw [HTH2.out] at HHAS
  go_wp2_with fail
  refine (HHAS.out _ HQ.out).mono ?_
  rintro e w2_ ⟨rfl, hb_⟩
  have HQ_ := Lib.hid (HQ.out.grow hb_); have HP_ := Lib.hid (HP.out.grow hb_); have HR_ := Lib.hid (HR.out.grow hb_); have HB_ := Lib.hid (HB.out.grow' hb_)
  clear hb_ HQ HP HR HB c0 c1 HHAS HTH2
  have HQ := HQ_; have HP := HP_; have HR := HR_; have HB := HB_
  clear HQ_ HP_ HR_ HB_
  try clear w_
  rename World => w_
  cases th with
  | true =>
    have HRT := Lib.hid (show rs = (ps, noWt, 24) by rw [HRE.out, if_pos HTH.out.symm])
    go_wp2_with (first | (with_reducible refine wpl_stop (o := ⟨some 15, _, _, _, _, _⟩) ?_))
    refine stop_go ?_
    refine wpl_build rfl rfl HBT.out ?_
    go_wp2_with (first | (with_reducible refine wpl_storeb (o := ⟨none, .store _ _ _, _, _, _, _⟩) rfl rfl row_wait HR.out.blk rfl rfl HR.out.len HD0.out.len HD0.out.one ?_))
    intro w2_ hb2_ hg2_ hsz2_
    have HB_ := Lib.hid (put_below HB.out HR_g.out hg2_)
    have HX_ := Lib.hid (at_mk hb2_ HD0.out.len)
    clear hb2_ hg2_ hsz2_ HB HR
    have HB := HB_
    have HR := HX_
    clear HB_ HX_
    try clear w_
    rename World => w_
    go_wp2_with fail
    refine ret_cell_tmp rfl row_wait HR.out.blk rfl HR.out.len rfl rfl ?_
    rw [HRT.out]
    exact ⟨nilS, A, n, c, L, rfl, BV.nil _ _, HQ0.out.grow HB.out, HPS.out.symm, .of_grow _ HB.out⟩
  | false =>
    go_wp2_with (first | (with_reducible refine wpl_alloc (o := ⟨some 6, _, _, _, _, _⟩) rfl rfl zero_wait ?_))
    intro w2_ hb2_ hb_ hsz2_
    have HX_ := Lib.hid (at_mk hb2_ len_wait)
    clear hb2_ hsz2_
    have HG_ := Lib.hid HB.out.size
    have HT_HP := Lib.hid (Nat.ne_of_lt HP.out.lt)
    have HT_HR := Lib.hid (Nat.ne_of_lt HR.out.lt)
    have HB_ := Lib.hid (HB.out.grow' hb_)
    clear HB
    have HB := HB_
    clear HB_
    have HQ_ := Lib.hid (HQ.out.grow hb_)
    clear HQ
    have HQ := HQ_
    clear HQ_
    have HP_ := Lib.hid (HP.out.grow hb_)
    clear HP
    have HP := HP_
    clear HP_
    have HR_ := Lib.hid (HR.out.grow hb_)
    clear HR
    have HR := HR_
    clear HR_
    generalize hg_ : w_.heap.size = g6 at HX_ HG_ HT_HP HT_HR ⊢
    clear hg_
    have HT_g := HG_
    clear HG_
    have HT := HX_
    clear hb_ HX_
    try clear w_
    rename World => w_
    have HQX := Lib.hid (HQ0.out.widen (X' := [g3, g4, g6]) HB.out (fun b hb => by
      simp only [List.mem_cons, List.not_mem_nil, or_false] at hb
      rcases hb with rfl | rfl | rfl
      · exact .inr HP_g.out
      · exact .inr HR_g.out
      · exact .inr HT_g.out))
    have HVX := Lib.hid (show BV w_ (g3 :: g4 :: g6 :: qM g A) v p.bs from HV0.out.step ⟨.of_below HB.out, fun b hb => by
      simp only [List.mem_cons] at hb
      rcases hb with rfl | rfl | rfl | hb
      · exact .inr HP_g.out
      · exact .inr HR_g.out
      · exact .inr HT_g.out
      · exact .inl hb⟩)
    have HS := Lib.hid (show Step w (qM g A) w_ (qM g A) from .of_grow _ HB.out)
    have HDJ := Lib.hid (show ∀ b ∈ [g3, g4, g6], b ∉ qM g A from fun b hb hm => by
      have h1 := HML.out b hm
      have h2 := HP_g.out; have h3 := HR_g.out; have h4 := HT_g.out
      simp only [List.mem_cons, List.not_mem_nil, or_false] at hb
      omega)
    clear HQ HV0
    have c0 := HQX.out.blk.at_ (i := 0) rfl
    have hN := HN.out
    go_upto_if 24 with fail
    go_cut [] from 25 (fun wr => ∃ A1 n1 c1 L1 vo po, Hid (n1 ≤ 31 ∧ rs = (insP p (L1.map Prod.snd), po, 0) ∧ ∀ b ∈ [g3, g4, g6], b ∉ qM g A1) ∧ Hid (QAt wr base g [g3, g4, g6] A1 n1 c1 L1 ∧ At wr g3 29 4 xs ∧ At wr g4 29 4 (wtV nilS noWt) ∧ At wr g6 29 4 (wtV vo po) ∧ BV wr (g3 :: g4 :: g6 :: qM g A1) vo po.bs ∧ BV wr (g3 :: g4 :: g6 :: qM g A1) v p.bs ∧ Step w (qM g A) wr (qM g A1)))
    case first =>
      by_cases hn32 : n = 32
      · subst hn32
        obtain ⟨r, rfl⟩ : ∃ r, A = some ⟨r, 0, none⟩ := by
          rcases HQX.out.own.form with ⟨_, h0, _⟩ | ⟨r, e, _⟩
          · omega
          · exact ⟨r, e⟩
        obtain ⟨b_, off_, q, e_, hq, hc, _⟩ := HQX.out.xat.at_ (k := 31) (by omega)
        cases e_
        have HC := Lib.hid (show MidAt w_ r 124 (wtV q.1 q.2) from fun j u hu => by have := hc j u hu; rwa [Nat.zero_add] at this)
        have HQQ := Lib.hid hq
        obtain ⟨hbq, hokq⟩ := HQX.out.els q (List.mem_of_getElem? hq)
        have HBQ := Lib.hid hbq; have HOQ := Lib.hid hokq
        have HPQ := Lib.hid (wtV_cl q.2 hbq.one)
        have HG31 := Lib.hid (show ps.getD 31 noWt = q.2 by rw [HPS.out, List.getD_eq_getElem?_getD, List.getElem?_map, hq]; rfl)
        have HCMP := Lib.hid (fun w => rcmp_any p.rate q.2.rate w HOK.out.1 hokq.1)
        have HNM := Lib.hid (show ∀ b, w.heap.size ≤ b → b ∉ qM g (some ⟨r, 0, none⟩) from fun b hb hm => by have := HML.out b hm; omega)
        obtain ⟨z, hz⟩ : ∃ z, z = cmpK p.rate q.2.rate := ⟨_, rfl⟩
        have HZ := Lib.hid hz
        rw [← hz] at HCMP
        obtain ⟨rp, hrp⟩ : ∃ z, z = p.rate := ⟨_, rfl⟩
        obtain ⟨rq, hrq⟩ : ∃ z, z = q.2.rate := ⟨_, rfl⟩
        have HRQ := Lib.hid hrq
        rw [← hrp] at HCMP H2
        rw [← hrq] at HCMP
        have H2Q := Lib.hid (show (wtV q.1 q.2)[2]? = some (.float .f64 rq) by rw [hrq]; rfl)
        clear hc hq hbq hokq hz hrp hrq
        try go_wp2_with fail
        repeat' (first | (with_reducible refine wp_plan (id := 6) Grow [0,2,0,0,0,2,0,0,0,2,3,0] (.get 0 (.get 1 (.get 2 (.get 3 (.get 4 (.get 5 (.get 6 (.get 7 (.get 8 (.get 9 (.act 10 (.get 11 .done)))))))))))) (by kernel_rfl) (by kernel_rfl) Grow.refl Grow.trans ?_) | go_values | go_skip | go_guarded | go_step | go_upon | go_back)
        intro w_ hd_
        have hb_ := hd_.grow
        have HB_ := Lib.hid (HB.out.grow' hb_)
        clear HB
        have HB := HB_
        clear HB_
        have HQX_ := Lib.hid (HQX.out.grow hb_)
        clear HQX
        have HQX := HQX_
        clear HQX_
        have HP_ := Lib.hid (HP.out.grow hb_)
        clear HP
        have HP := HP_
        clear HP_
        have HR_ := Lib.hid (HR.out.grow hb_)
        clear HR
        have HR := HR_
        clear HR_
        have HT_ := Lib.hid (HT.out.grow hb_)
        clear HT
        have HT := HT_
        clear HT_
        have HVX_ := Lib.hid (HVX.out.grow hb_)
        clear HVX
        have HVX := HVX_
        clear HVX_
        have HS_ := Lib.hid (HS.out.grow hb_)
        clear HS
        have HS := HS_
        clear HS_
        have HC_ := Lib.hid (HC.out.grow hb_)
        clear HC
        have HC := HC_
        clear HC_
        clear hb_ hd_
        have c0 := HQX.out.blk.at_ (i := 0) rfl
        have c2 := HP.out.blk.at_ H2.out
        have cq := HC.out 2 _ H2Q.out
        repeat (first | (refine pl_calm rfl rfl (by first | exact wanted_none rfl | (go_simp; done) | rfl) (fun w_ => by first | (go_simp; rfl) | (go_simp; done) | rfl) (fun K hK => ?_); go_simp; refine hK _ _ ?_; clear hK K) | (refine pl_skip rfl (by first | (go_simp; done) | rfl) (fun K hK => ?_); go_simp; refine hK _ _ ?_; clear hK K) | (refine pl_skipa rfl (by first | (go_simp; done) | rfl) (fun K hK => ?_); go_simp; refine hK _ _ ?_; clear hK K) | (refine pl_load rfl rfl (by first | exact wanted_none rfl | (go_simp; done) | rfl) rfl (by first | rfl | (go_simp; rfl)) (by kernel_rfl) (by first | exact c0 | exact c2 | exact cq) (fun K hK => ?_); go_simp; refine hK _ _ ?_; clear hK K) | (refine pl_loadnow rfl rfl (by first | exact wanted_none rfl | (go_simp; done) | rfl) rfl (by first | rfl | (go_simp; rfl)) (by kernel_rfl) (by first | exact c0 | exact c2 | exact cq) (fun K hK => ?_); go_simp; refine hK _ _ ?_; clear hK K))
        refine pl_act rfl (by first | exact wanted_none rfl | (go_simp; done) | rfl) (fun K hK => ?_)
        go_wp2_with fail
        refine (HCMP.out _).mono ?_
        rintro e w_ ⟨rfl, hb_⟩
        go_wp2_with fail
        refine hK _ _ (fun _ => hb_) ?_
        clear hK K
        have HB_ := Lib.hid (HB.out.grow' hb_)
        clear HB
        have HB := HB_
        clear HB_
        have HQX_ := Lib.hid (HQX.out.grow hb_)
        clear HQX
        have HQX := HQX_
        clear HQX_
        have HP_ := Lib.hid (HP.out.grow hb_)
        clear HP
        have HP := HP_
        clear HP_
        have HR_ := Lib.hid (HR.out.grow hb_)
        clear HR
        have HR := HR_
        clear HR_
        have HT_ := Lib.hid (HT.out.grow hb_)
        clear HT
        have HT := HT_
        clear HT_
        have HVX_ := Lib.hid (HVX.out.grow hb_)
        clear HVX
        have HVX := HVX_
        clear HVX_
        have HS_ := Lib.hid (HS.out.grow hb_)
        clear HS
        have HS := HS_
        clear HS_
        have HC_ := Lib.hid (HC.out.grow hb_)
        clear HC
        have HC := HC_
        clear HC_
        clear hb_
        repeat (first | (refine pl_calm rfl rfl (by first | exact wanted_none rfl | (go_simp; done) | rfl) (fun w_ => by first | (go_simp; rfl) | (go_simp; done) | rfl) (fun K hK => ?_); go_simp; refine hK _ _ ?_; clear hK K) | (refine pl_skip rfl (by first | (go_simp; done) | rfl) (fun K hK => ?_); go_simp; refine hK _ _ ?_; clear hK K) | (refine pl_skipa rfl (by first | (go_simp; done) | rfl) (fun K hK => ?_); go_simp; refine hK _ _ ?_; clear hK K))
        refine pl_done ?_
        clear c0 c2 cq HCMP
        by_cases hz0 : z ≤ 0
        · have HRT := Lib.hid (show rs = (ps, noWt, 18) by rw [HRE.out, if_neg (by rw [← HTH.out]; simp), if_pos (by rw [HPS.out, List.length_map, HL.out]; omega), HG31.out, if_pos (by rw [← HZ.out]; exact hz0)])
          go_wp2_with (first | (with_reducible refine wpl_stop (o := ⟨some 37, _, _, _, _, _⟩) ?_))
          refine stop_go ?_
          refine wpl_build rfl rfl HBT.out ?_
          go_wp2_with (first | (with_reducible refine wpl_storeb (o := ⟨none, .store _ _ _, _, _, _, _⟩) rfl rfl row_wait HR.out.blk rfl rfl HR.out.len HD0.out.len HD0.out.one ?_))
          intro w2_ hb2_ hg2_ hsz2_
          have HB_ := Lib.hid (put_below HB.out HR_g.out hg2_)
          have HX_ := Lib.hid (at_mk hb2_ HD0.out.len)
          clear hb2_ hg2_ hsz2_ HB HR
          have HB := HB_
          have HR := HX_
          clear HB_ HX_
          try clear w_
          rename World => w_
          go_wp2_with fail
          refine ret_cell_tmp rfl row_wait HR.out.blk rfl HR.out.len rfl rfl ?_
          rw [HRT.out]
          exact ⟨nilS, some ⟨r, 0, none⟩, 32, c, L, rfl, BV.nil _ _, HQ0.out.grow HB.out, HPS.out.symm, .of_grow _ HB.out⟩
        · have HZ0 := Lib.hid hz0
          have c0 := HQX.out.blk.at_ (i := 0) rfl
          have HCL := Lib.hid (fun w2 (hg : Grow w_ w2) => qclone_any ((HQX.out.els q (List.mem_of_getElem? HQQ.out)).1.grow hg) HOQ.out)
          unfold wtA at HCL
          obtain ⟨qv, hqv⟩ : ∃ x, x = wtV q.1 q.2 := ⟨_, rfl⟩
          rw [← hqv] at HC HPQ HCL H2Q
          have HC3 := Lib.hid (show ∀ j u, qv[j]? = some u → w_.cell? ⟨r, 124 + j, none⟩ = some u from HC.out)
          clear hqv hz0
          go_wp2_with (first | (with_reducible refine wpl_loadm (o := ⟨some 44, _, _, _, _, _⟩) rfl rfl row_wait HC3.out rfl HPQ.out.len ?_))
          refine (HCL.out _ (Grow.refl _)).mono ?_
          rintro e w2_ ⟨vo, rfl, hv_, hb_⟩
          have HVO := Lib.hid (hv_ (g3 :: g4 :: g6 :: qM g (some ⟨r, 0, none⟩)) (by
            intro b hb
            simp only [List.mem_cons] at hb
            rcases hb with rfl | rfl | rfl | hb
            · exact HP.out.lt
            · exact HR.out.lt
            · exact HT.out.lt
            · exact (HQX.out.lts b hb).2))
          have HQX_ := Lib.hid (HQX.out.grow hb_); have HP_ := Lib.hid (HP.out.grow hb_); have HR_ := Lib.hid (HR.out.grow hb_); have HT_ := Lib.hid (HT.out.grow hb_); have HVX_ := Lib.hid (HVX.out.grow hb_); have HS_ := Lib.hid (HS.out.grow hb_)
          clear hv_ hb_ HQX HP HR HT HVX HS HB c0 HC HC3 HCL HQ0
          have HQX := HQX_; have HP := HP_; have HR := HR_; have HT := HT_; have HVX := HVX_; have HS := HS_
          clear HQX_ HP_ HR_ HT_ HVX_ HS_
          try clear w_
          rename World => w_
          have HD := Lib.hid (wtV_cl q.2 HVO.out.one)
          obtain ⟨ys, hys⟩ : ∃ x, x = wtV vo q.2 := ⟨_, rfl⟩
          have HYS := Lib.hid hys
          rw [← hys] at HD ⊢
          clear hys
          go_wp2_with (first | (with_reducible refine wpl_storeb (o := ⟨none, .store _ _ _, _, _, _, _⟩) rfl rfl row_wait HT.out.blk rfl rfl HT.out.len HD.out.len HD.out.one ?_))
          intro w3 hb3 hg3 hz3
          have HG := Lib.hid hg3
          have HT3 := Lib.hid (show At w3 g6 29 4 ys from at_mk hb3 HD.out.len)
          have HP3 := Lib.hid (HP.out.off HG.out HT_HP.out)
          have HR3 := Lib.hid (HR.out.off HG.out HT_HR.out)
          have HQ3 := Lib.hid (HQX.out.off HG.out (HNM.out _ HT_g.out) (by simp))
          have HVX3 := Lib.hid (HVX.out.off HG.out (by simp))
          have HVO3 := Lib.hid (HVO.out.off HG.out (by simp))
          have HS3 := Lib.hid (show Touched (qM g (some ⟨r, 0, none⟩)) w w3 from HS.out.1.grown HG.out (.inr HT_g.out))
          clear hb3 hg3 hz3 HG HT HP HR HQX HVX HVO HS
          have c0 := HQ3.out.blk.at_ (i := 0) rfl
          have HDEL := Lib.hid (show Calls Try.prog 30 #[.slice (some ⟨r, 0, none⟩) 32 c, .int .i64 31, .int .i64 32] w3 fun e w' => e = .returned (.slice (some ⟨r, 0, none⟩) 31 c) ∧ OwnW w' base (some ⟨r, 0, none⟩) 31 c (L.take 31 ++ L.drop 32) ∧ w3.grownBy w' (some r) from qdel_any (i := 31) HQ3.out.own (by omega) HQ3.out.els)
          go_wp2_with fail
          refine HDEL.out.mono ?_
          rintro e w4 ⟨rfl, ho4, hg4⟩
          have HG := Lib.hid hg4
          have HO4 := Lib.hid ho4
          have HRG := Lib.hid (show r ≠ g from fun e => HQ3.out.ne (by rw [e]; rfl))
          have HMR := Lib.hid (show r ∈ qM g (some ⟨r, 0, none⟩) from qM_mem.2 (.inr rfl))
          have HMG := Lib.hid (show g ∈ qM g (some ⟨r, 0, none⟩) from qM_mem.2 (.inl rfl))
          have HNE := Lib.hid (show ∀ b, w.heap.size ≤ b → b ≠ r ∧ b ≠ g from fun b hb => ⟨fun e => HNM.out b hb (by rw [e]; exact HMR.out), fun e => HNM.out b hb (by rw [e]; exact HMG.out)⟩)
          have HB4 := Lib.hid (HQ3.out.blk.grown HG.out (fun e => HRG.out (Option.some.inj e).symm))
          have HT4 := Lib.hid (HT3.out.off HG.out (HNE.out _ HT_g.out).1)
          have HP4 := Lib.hid (HP3.out.off HG.out (HNE.out _ HP_g.out).1)
          have HR4 := Lib.hid (HR3.out.off HG.out (HNE.out _ HR_g.out).1)
          have HE4 := Lib.hid (show Els w4 (qM g (some ⟨r, 0, none⟩) ++ [g3, g4, g6]) (L.take 31 ++ L.drop 32) from fun x hx => by
            have hm : x ∈ L := (List.mem_append.1 hx).elim List.mem_of_mem_take List.mem_of_mem_drop
            exact ⟨(HQ3.out.els x hm).1.off HG.out (List.mem_append_left _ HMR.out), (HQ3.out.els x hm).2⟩)
          have HVX4 := Lib.hid (HVX3.out.off HG.out (by simp only [List.mem_cons]; exact .inr (.inr (.inr HMR.out))))
          have HVO4 := Lib.hid (HVO3.out.off HG.out (by simp only [List.mem_cons]; exact .inr (.inr (.inr HMR.out))))
          have HS4 := Lib.hid (HS3.out.grown HG.out (.inl HMR.out))
          have HLOW := Lib.hid HQ3.out.low
          clear ho4 hg4 HG HT3 HP3 HR3 HQ3 HVX3 HVO3 HS3 c0 HDEL
          go_wp2_with (first | (refine wpl_store1 (o := ⟨none, .store _ _ _, _, _, _, _⟩) rfl rfl HB4.out rfl rfl (by kernel_rfl) rfl rfl (by simp) ?_))
          intro w5 hb5 hg5 hz5
          have HG := Lib.hid hg5
          have HQ5 := Lib.hid (show QAt w5 base g [g3, g4, g6] (some ⟨r, 0, none⟩) 31 c (L.take 31 ++ L.drop 32) from ⟨hb5, own_kept HO4.out HG.out (fun b hb => by cases hb; intro e; exact HRG.out (Option.some.inj e)), by omega, fun x hx => ⟨(HE4.out x hx).1.off HG.out (List.mem_append_left _ HMG.out), (HE4.out x hx).2⟩, HLOW.out⟩)
          have HT5 := Lib.hid (HT4.out.off HG.out (HNE.out _ HT_g.out).2)
          have HP5 := Lib.hid (HP4.out.off HG.out (HNE.out _ HP_g.out).2)
          have HR5 := Lib.hid (HR4.out.off HG.out (HNE.out _ HR_g.out).2)
          have HVX5 := Lib.hid (HVX4.out.off HG.out (by simp only [List.mem_cons]; exact .inr (.inr (.inr HMG.out))))
          have HVO5 := Lib.hid (HVO4.out.off HG.out (by simp only [List.mem_cons]; exact .inr (.inr (.inr HMG.out))))
          have HS5 := Lib.hid (HS4.out.grown HG.out (.inl HMG.out))
          clear hb5 hg5 hz5 HG HT4 HP4 HR4 HB4 HVX4 HVO4 HS4 HO4 HE4
          have HRT := Lib.hid (show rs = (insP p ((L.take 31 ++ L.drop 32).map Prod.snd), q.2, 0) by
            rw [HRE.out, if_neg (by rw [← HTH.out]; simp), if_pos (by rw [HPS.out, List.length_map, HL.out]; omega), HG31.out, if_neg (by rw [← HZ.out]; have := HZ0.out; omega), List.drop_of_length_le (by rw [HL.out]; omega), List.append_nil, List.map_take, ← HPS.out])
          go_wp2_with fail
          go_meet
          case rel => exact ⟨some ⟨r, 0, none⟩, 31, c, L.take 31 ++ L.drop 32, vo, q.2, Lib.hid ⟨by omega, HRT.out, HDJ.out⟩, Lib.hid ⟨HQ5.out, HP5.out, HR5.out, by rw [← HYS.out]; exact HT5.out, HVO5.out, HVX5.out, HS5.out, fun b hb => .inl hb⟩⟩
      · have hlt : n < 32 := by omega
        have hlt2 : n + 1 < 33 := by omega
        go_wp2_with fail
        go_meet
        case rel => exact ⟨A, n, c, L, nilS, noWt, Lib.hid ⟨by omega, by rw [HRE.out, if_neg (by rw [← HTH.out]; simp), if_neg (by rw [HPS.out, List.length_map, HL.out]; omega), HPS.out], HDJ.out⟩, Lib.hid ⟨HQX.out, HP.out, HR.out, HT.out, BV.nil _ _, HVX.out, HS.out⟩⟩
    case rest =>
      obtain ⟨A1, n1, c1, L1, vo, po, hI, hJ⟩ := hcut
      have HRS1 := Lib.hid hI.out.2.1; have HDJ1 := Lib.hid hI.out.2.2
      have hn1 : n1 ≤ 31 := hI.out.1
      have HQ1 := Lib.hid hJ.out.1; have HP1 := Lib.hid hJ.out.2.1; have HR1 := Lib.hid hJ.out.2.2.1; have HT1 := Lib.hid hJ.out.2.2.2.1; have HVO1 := Lib.hid hJ.out.2.2.2.2.1; have HVX1 := Lib.hid hJ.out.2.2.2.2.2.1; have HS1 := Lib.hid hJ.out.2.2.2.2.2.2
      clear hI hJ HQX HP HR HT HVX HS HB HQ0 c0 HRE HTH HRS hN HN HDJ
      rename World => wx_
      have c0 := HQ1.out.blk.at_ (i := 0) rfl
      have HIX := Lib.hid (show Calls Try.prog 31 #[.slice A1 n1 c1, .func (.func 32) #[] #[.pointer (some ⟨g3, 0, none⟩)]] wx_ fun e w' => e = .returned (.int .i64 (idxW (isLess p.rate) L1 0)) ∧ Grow wx_ w' from indexLess_any HQ1.out.xat (by omega) (by rw [← HXS.out]; exact HP1.out.blk) HOK.out)
      obtain ⟨z, hz⟩ : ∃ z, z = idxW (isLess p.rate) L1 0 := ⟨_, rfl⟩
      obtain ⟨k, hk⟩ : ∃ k, k = posP (isLess p.rate) (L1.map Prod.snd) := ⟨_, rfl⟩
      have hzk : (z = -1 ∧ k = n1) ∨ (z = (k : Int) ∧ k < n1) := by
        have h1 := idx_pos (isLess p.rate) L1 0
        rw [← hz, ← hk, HQ1.out.len, Nat.zero_add] at h1
        exact h1
      have HK := Lib.hid hk
      rw [← hz] at HIX
      clear hz hk
      go_wp2_with fail
      refine HIX.out.mono ?_
      rintro e w2_ ⟨rfl, hb_⟩
      have HQ := Lib.hid (HQ1.out.grow hb_); have HP := Lib.hid (HP1.out.grow hb_); have HR := Lib.hid (HR1.out.grow hb_); have HT := Lib.hid (HT1.out.grow hb_); have HVO := Lib.hid (HVO1.out.grow hb_); have HVX := Lib.hid (HVX1.out.grow hb_); have HS := Lib.hid (HS1.out.grow hb_)
      clear hb_ HQ1 HP1 HR1 HT1 HVO1 HVX1 HS1 c0 HIX
      try clear wx_
      rename World => w_
      have HB := Lib.hid (Below.refl w_.heap.size w_)
      have HCL := Lib.hid (fun w2 (h : BV w2 (qM g A1 ++ [g3, g4, g6]) v p.bs) => qclone_any h HOK.out)
      unfold wtA at HCL
      rw [← HXS.out] at HCL
      have HPERM := Lib.hid (show ∀ b, b ∈ qM g A1 ++ [g3, g4, g6] → b ∈ g3 :: g4 :: g6 :: qM g A1 from fun b hb => by
        simp only [List.mem_append, List.mem_cons, List.not_mem_nil, or_false] at hb ⊢
        rcases hb with h | h | h | h <;> simp [h])
      replace HVO := Lib.hid (HVO.out.sub HPERM.out); replace HVX := Lib.hid (HVX.out.sub HPERM.out)
      rcases hzk with ⟨rfl, hkn⟩ | ⟨rfl, hkn⟩
      · subst hkn
        have c0 := HQ.out.blk.at_ (i := 0) rfl
        try go_wp2_with fail
        repeat' (first | (with_reducible refine wp_plan (id := 13) Grow [0,0,0,0,1,0,2,4,4,3,0,0,3] (.get 0 (.get 1 (.get 2 (.get 3 (.get 4 (.get 5 (.get 6 (.act 7 (.act 8 (.act 9 (.get 10 (.get 11 (.act 12 .done))))))))))))) (by kernel_rfl) (by kernel_rfl) Grow.refl Grow.trans ?_) | go_values | go_skip | go_guarded | go_step | go_upon | go_back)
        intro w_ hd_
        have hb_ := hd_.grow
        have HB_ := Lib.hid (HB.out.grow' hb_)
        clear HB
        have HB := HB_
        clear HB_
        have HQ_ := Lib.hid (HQ.out.grow hb_)
        clear HQ
        have HQ := HQ_
        clear HQ_
        have HP_ := Lib.hid (HP.out.grow hb_)
        clear HP
        have HP := HP_
        clear HP_
        have HR_ := Lib.hid (HR.out.grow hb_)
        clear HR
        have HR := HR_
        clear HR_
        have HT_ := Lib.hid (HT.out.grow hb_)
        clear HT
        have HT := HT_
        clear HT_
        have HVO_ := Lib.hid (HVO.out.grow hb_)
        clear HVO
        have HVO := HVO_
        clear HVO_
        have HVX_ := Lib.hid (HVX.out.grow hb_)
        clear HVX
        have HVX := HVX_
        clear HVX_
        have HS_ := Lib.hid (HS.out.grow hb_)
        clear HS
        have HS := HS_
        clear HS_
        clear hb_ hd_
        replace c0 := HQ.out.blk.at_ (i := 0) rfl
        repeat (first | (refine pl_loadb rfl rfl (by first | exact wanted_none rfl | (go_simp; done) | rfl) rfl row_wait HP.out.blk (by first | rfl | (go_simp; done) | rfl) HP.out.len (fun K hK => ?_); go_simp; refine hK _ _ ?_; clear hK K) | (refine pl_loadbnow rfl rfl (by first | exact wanted_none rfl | (go_simp; done) | rfl) rfl row_wait HP.out.blk (by first | rfl | (go_simp; done) | rfl) HP.out.len (fun K hK => ?_); go_simp; refine hK _ _ ?_; clear hK K) | (refine pl_calm rfl rfl (by first | exact wanted_none rfl | (go_simp; done) | rfl) (fun w_ => by first | (go_simp; rfl) | (go_simp; done) | rfl) (fun K hK => ?_); go_simp; refine hK _ _ ?_; clear hK K) | (refine pl_skip rfl (by first | (go_simp; done) | rfl) (fun K hK => ?_); go_simp; refine hK _ _ ?_; clear hK K) | (refine pl_skipa rfl (by first | (go_simp; done) | rfl) (fun K hK => ?_); go_simp; refine hK _ _ ?_; clear hK K) | (refine pl_load rfl rfl (by first | exact wanted_none rfl | (go_simp; done) | rfl) rfl (by first | rfl | (go_simp; rfl)) (by kernel_rfl) (by first | exact c0) (fun K hK => ?_); go_simp; refine hK _ _ ?_; clear hK K) | (refine pl_loadnow rfl rfl (by first | exact wanted_none rfl | (go_simp; done) | rfl) rfl (by first | rfl | (go_simp; rfl)) (by kernel_rfl) (by first | exact c0) (fun K hK => ?_); go_simp; refine hK _ _ ?_; clear hK K))
        clear c0
        refine pl_act rfl (by first | exact wanted_none rfl | (go_simp; done) | rfl) (fun K hK => ?_)
        go_wp2_with fail
        refine (HCL.out _ HVX.out).mono ?_
        rintro e w3_ ⟨v', rfl, hv_, hb_⟩
        go_wp2_with fail
        refine hK _ _ (fun _ => hb_) ?_
        clear hK K
        have HVN := Lib.hid (hv_ (qM g A1 ++ [g3, g4, g6]) (by
          intro b hb
          simp only [List.mem_append, List.mem_cons, List.not_mem_nil, or_false] at hb
          rcases hb with hb | rfl | rfl | rfl
          · exact (HQ.out.lts b hb).2
          · exact HP.out.lt
          · exact HR.out.lt
          · exact HT.out.lt))
        clear hv_
        replace HQ := Lib.hid (HQ.out.grow hb_); replace HP := Lib.hid (HP.out.grow hb_); replace HR := Lib.hid (HR.out.grow hb_); replace HT := Lib.hid (HT.out.grow hb_); replace HVO := Lib.hid (HVO.out.grow hb_); replace HS := Lib.hid (HS.out.grow hb_)
        clear hb_ HVX HB
        try clear w_
        rename World => w_
        have HD := Lib.hid (wtV_cl p HVN.out.one)
        obtain ⟨ys, hys⟩ : ∃ x, x = wtV v' p := ⟨_, rfl⟩
        have HYS := Lib.hid hys
        rw [← hys] at HD ⊢
        clear hys
        refine pl_act rfl (by first | exact wanted_none rfl | (go_simp; done) | rfl) (fun K hK => ?_)
        show wpList _ _ _ [⟨some 78, .buildSlice _ _ _, _, _, _, _⟩] _ _
        go_wp2_with (first | (with_reducible refine wpl_row1 (o := ⟨some 78, _, _, _, _, _⟩) rfl rfl el_wait rfl HD.out.len (by decide) ?_))
        intro w3_ hr_ hb_ hs3_
        go_wp2_with fail
        refine hK _ _ (fun _ => hb_) ?_
        clear hK K
        have HAB := Lib.hid (show A1.map Addr.block ≠ some w_.heap.size from fun e => by
          have h1 := (HQ.out.lts _ (qM_mem.2 (.inr e))).2
          omega)
        replace HQ := Lib.hid (HQ.out.grow hb_); replace HP := Lib.hid (HP.out.grow hb_); replace HR := Lib.hid (HR.out.grow hb_); replace HT := Lib.hid (HT.out.grow hb_); replace HVO := Lib.hid (HVO.out.grow hb_); replace HS := Lib.hid (HS.out.grow hb_); replace HVN := Lib.hid (HVN.out.grow hb_)
        generalize w_.heap.size = q at hr_ HAB ⊢
        have HROW := Lib.hid hr_
        clear hr_ hb_ hs3_
        try clear w_
        rename World => w_
        rw [HYS.out] at HROW
        have HINS := Lib.hid (qins_any (k := k) HQ.out.own (by omega) HQ.out.els (by omega) HROW.out HVN.out.one HAB.out (Nat.le_trans HQ.out.low (Nat.le_of_lt HQ.out.blk.lt)))
        refine pl_act rfl (by first | exact wanted_none rfl | (go_simp; done) | rfl) (fun K hK => ?_)
        go_wp2_with fail
        refine HINS.out.mono ?_
        rintro e w4 ⟨A4, c4, rfl, ho_, hg_, hA_⟩
        have HO4 := Lib.hid ho_; have HG := Lib.hid hg_; have HA := Lib.hid hA_
        clear ho_ hg_ hA_ HINS HROW
        go_wp2_with fail
        refine hK _ _ (fun h => by cases h) ?_
        clear hK K
        have HST := Lib.hid (show Step w_ (qM g A1) w4 (qM g A4) from ins_step HG.out HA.out)
        have HSX := Lib.hid (show Step w_ (qM g A1 ++ [g3, g4, g6]) w4 (qM g A4 ++ [g3, g4, g6]) from HST.out.wide _)
        have HNA := Lib.hid HQ.out.ne
        have HDJ4 := Lib.hid (show ∀ b ∈ [g3, g4, g6], b ∉ qM g A4 from fun b hb hm => by
          rcases HST.out.2 b hm with h | h
          · exact HDJ1.out b hb h
          · have h1 := HP.out.lt; have h2 := HR.out.lt; have h3 := HT.out.lt
            simp only [List.mem_cons, List.not_mem_nil, or_false] at hb
            omega)
        have HB4 := Lib.hid (HQ.out.blk.grown HG.out (fun e => HNA.out e.symm))
        have HAO := Lib.hid (show ∀ b ∈ [g3, g4, g6], A1.map Addr.block ≠ some b from fun b hb e => HDJ1.out b hb (qM_mem.2 (.inr e)))
        have HR4 := Lib.hid (at_mk (HR.out.blk.grown HG.out (fun e => HAO.out g4 (by simp) e.symm)) HR.out.len)
        have HT4 := Lib.hid (at_mk (HT.out.blk.grown HG.out (fun e => HAO.out g6 (by simp) e.symm)) HT.out.len)
        have HE4 := Lib.hid (show Els w4 (qM g A4 ++ [g3, g4, g6]) (L1.take k ++ (v', p) :: L1.drop k) from Els.step (fun x hx => by
          rcases List.mem_append.1 hx with hx | hx
          · exact HQ.out.els x (List.mem_of_mem_take hx)
          · rcases List.mem_cons.1 hx with rfl | hx
            · exact ⟨HVN.out, HOK.out⟩
            · exact HQ.out.els x (List.mem_of_mem_drop hx)) HSX.out)
        have HVO4 := Lib.hid (HVO.out.step HSX.out)
        have HS4 := Lib.hid (HS.out.trans HST.out)
        have HLOW := Lib.hid HQ.out.low
        have HGA := Lib.hid (show g ∉ (A4.map Addr.block).toList from fun hm => by
          have e : A4.map Addr.block = some g := by simpa using hm
          rcases HA.out with h | ⟨b', h, hb'⟩
          · exact HNA.out (h.symm.trans e)
          · have h1 := HQ.out.blk.lt
            have h2 : b' = g := Option.some.inj (h.symm.trans e)
            omega)
        clear HQ HP HR HT HVO HVN HS HST HSX HG HA HNA HAO HAB
        try clear w_
        repeat (first | (refine pl_calm rfl rfl (by first | exact wanted_none rfl | (go_simp; done) | rfl) (fun w_ => by first | (go_simp; rfl) | (go_simp; done) | rfl) (fun K hK => ?_); go_simp; refine hK _ _ ?_; clear hK K) | (refine pl_skip rfl (by first | (go_simp; done) | rfl) (fun K hK => ?_); go_simp; refine hK _ _ ?_; clear hK K) | (refine pl_skipa rfl (by first | (go_simp; done) | rfl) (fun K hK => ?_); go_simp; refine hK _ _ ?_; clear hK K))
        refine pl_act rfl (by first | exact wanted_none rfl | (go_simp; done) | rfl) (fun K hK => ?_)
        show wpList _ _ _ [⟨none, .store _ _ _, _, _, _, _⟩] _ _
        go_wp2_with (first | (refine wpl_store1 (o := ⟨none, .store _ _ _, _, _, _, _⟩) rfl rfl HB4.out rfl rfl (by kernel_rfl) rfl rfl (by simp) ?_))
        intro w5 hb5 hg5 hz5
        have HG := Lib.hid hg5
        have HB5 := Lib.hid (show Blk w5 g 58 [.slice A4 (k + 1) c4] from hb5)
        clear hb5 hg5 hz5
        go_wp2_with fail
        refine hK _ _ (fun h => by cases h) ?_
        clear hK K
        refine pl_done ?_
        have HMG := Lib.hid (show g ∈ qM g A4 from qM_mem.2 (.inl rfl))
        have HN4 := Lib.hid (show g4 ≠ g from fun e => HDJ4.out g4 (by simp) (by rw [e]; exact HMG.out))
        have HN6 := Lib.hid (show g6 ≠ g from fun e => HDJ4.out g6 (by simp) (by rw [e]; exact HMG.out))
        have HQ5 := Lib.hid (show QAt w5 base g [g3, g4, g6] A4 (k + 1) c4 (L1.take k ++ (v', p) :: L1.drop k) from ⟨HB5.out, own_kept HO4.out HG.out (fun b hb e => HGA.out (by rw [hb]; cases e; simp)), by omega, fun x hx => ⟨(HE4.out x hx).1.off HG.out (List.mem_append_left _ HMG.out), (HE4.out x hx).2⟩, HLOW.out⟩)
        have HR5 := Lib.hid (HR4.out.off HG.out HN4.out)
        have HT5 := Lib.hid (HT4.out.off HG.out HN6.out)
        have HVO5 := Lib.hid (HVO4.out.off HG.out (List.mem_append_left _ HMG.out))
        have HS5 := Lib.hid (show Step w (qM g A) w5 (qM g A4) from HS4.out.trans ⟨(Touched.refl _ _).grown HG.out (.inl HMG.out), fun b hb => .inl hb⟩)
        clear HB5 HO4 HG HE4 HR4 HT4 HVO4 HS4 HB4
        have HTC := Lib.hid (wtV_cl po HVO5.out.one)
        obtain ⟨zs, hzs⟩ : ∃ x, x = wtV vo po := ⟨_, rfl⟩
        have HZS := Lib.hid hzs
        rw [← hzs] at HTC HT5
        clear hzs
        go_wp2_with (first | (with_reducible refine wpl_loadb (o := ⟨some 82, _, _, _, _, _⟩) rfl rfl row_wait HT5.out.blk rfl HT5.out.len ?_) | (with_reducible refine wpl_storeb (o := ⟨none, .store _ _ _, _, _, _, _⟩) rfl rfl row_wait HR5.out.blk rfl rfl HR5.out.len HTC.out.len HTC.out.one ?_))
        intro w6 hb6 hg6 hz6
        have HX6 := Lib.hid hb6
        have HG6 := Lib.hid hg6
        clear hb6 hg6 hz6
        go_wp2_with fail
        refine ret_cell_tmp rfl row_wait HX6.out rfl HTC.out.len rfl rfl ?_
        rw [HRS1.out]
        exact ⟨vo, A4, _, c4, _, by rw [HZS.out]; rfl, (HVO5.out.off HG6.out (by simp)).sub (fun b hb => List.mem_append_left _ hb), (HQ5.out.off HG6.out (HDJ4.out g4 (by simp)) (by simp)).bare, by rw [HK.out]; exact ins_map, HS5.out.1.grown HG6.out (.inr HR_g.out), HS5.out.2⟩
      · have hz0 : ¬ ((k : Int) < 0) := by omega
        have c0 := HQ.out.blk.at_ (i := 0) rfl
        try go_wp2_with fail
        repeat' (first | (with_reducible refine wp_plan (id := 13) Grow [0,0,0,0,1,0,2,4,4,3,0,0,3] (.get 0 (.get 1 (.get 2 (.get 3 (.get 4 (.get 5 (.get 6 (.act 7 (.act 8 (.act 9 (.get 10 (.get 11 (.act 12 .done))))))))))))) (by kernel_rfl) (by kernel_rfl) Grow.refl Grow.trans ?_) | go_values | go_skip | go_guarded | go_step | go_upon | go_back)
        intro w_ hd_
        have hb_ := hd_.grow
        have HB_ := Lib.hid (HB.out.grow' hb_)
        clear HB
        have HB := HB_
        clear HB_
        have HQ_ := Lib.hid (HQ.out.grow hb_)
        clear HQ
        have HQ := HQ_
        clear HQ_
        have HP_ := Lib.hid (HP.out.grow hb_)
        clear HP
        have HP := HP_
        clear HP_
        have HR_ := Lib.hid (HR.out.grow hb_)
        clear HR
        have HR := HR_
        clear HR_
        have HT_ := Lib.hid (HT.out.grow hb_)
        clear HT
        have HT := HT_
        clear HT_
        have HVO_ := Lib.hid (HVO.out.grow hb_)
        clear HVO
        have HVO := HVO_
        clear HVO_
        have HVX_ := Lib.hid (HVX.out.grow hb_)
        clear HVX
        have HVX := HVX_
        clear HVX_
        have HS_ := Lib.hid (HS.out.grow hb_)
        clear HS
        have HS := HS_
        clear HS_
        clear hb_ hd_
        replace c0 := HQ.out.blk.at_ (i := 0) rfl
        repeat (first | (refine pl_loadb rfl rfl (by first | exact wanted_none rfl | (go_simp; done) | rfl) rfl row_wait HP.out.blk (by first | rfl | (go_simp; done) | rfl) HP.out.len (fun K hK => ?_); go_simp; refine hK _ _ ?_; clear hK K) | (refine pl_loadbnow rfl rfl (by first | exact wanted_none rfl | (go_simp; done) | rfl) rfl row_wait HP.out.blk (by first | rfl | (go_simp; done) | rfl) HP.out.len (fun K hK => ?_); go_simp; refine hK _ _ ?_; clear hK K) | (refine pl_calm rfl rfl (by first | exact wanted_none rfl | (go_simp; done) | rfl) (fun w_ => by first | (go_simp; rfl) | (go_simp; done) | rfl) (fun K hK => ?_); go_simp; refine hK _ _ ?_; clear hK K) | (refine pl_skip rfl (by first | (go_simp; done) | rfl) (fun K hK => ?_); go_simp; refine hK _ _ ?_; clear hK K) | (refine pl_skipa rfl (by first | (go_simp; done) | rfl) (fun K hK => ?_); go_simp; refine hK _ _ ?_; clear hK K) | (refine pl_load rfl rfl (by first | exact wanted_none rfl | (go_simp; done) | rfl) rfl (by first | rfl | (go_simp; rfl)) (by kernel_rfl) (by first | exact c0) (fun K hK => ?_); go_simp; refine hK _ _ ?_; clear hK K) | (refine pl_loadnow rfl rfl (by first | exact wanted_none rfl | (go_simp; done) | rfl) rfl (by first | rfl | (go_simp; rfl)) (by kernel_rfl) (by first | exact c0) (fun K hK => ?_); go_simp; refine hK _ _ ?_; clear hK K))
        clear c0
        refine pl_act rfl (by first | exact wanted_none rfl | (go_simp; done) | rfl) (fun K hK => ?_)
        go_wp2_with fail
        refine (HCL.out _ HVX.out).mono ?_
        rintro e w3_ ⟨v', rfl, hv_, hb_⟩
        go_wp2_with fail
        refine hK _ _ (fun _ => hb_) ?_
        clear hK K
        have HVN := Lib.hid (hv_ (qM g A1 ++ [g3, g4, g6]) (by
          intro b hb
          simp only [List.mem_append, List.mem_cons, List.not_mem_nil, or_false] at hb
          rcases hb with hb | rfl | rfl | rfl
          · exact (HQ.out.lts b hb).2
          · exact HP.out.lt
          · exact HR.out.lt
          · exact HT.out.lt))
        clear hv_
        replace HQ := Lib.hid (HQ.out.grow hb_); replace HP := Lib.hid (HP.out.grow hb_); replace HR := Lib.hid (HR.out.grow hb_); replace HT := Lib.hid (HT.out.grow hb_); replace HVO := Lib.hid (HVO.out.grow hb_); replace HS := Lib.hid (HS.out.grow hb_)
        clear hb_ HVX HB
        try clear w_
        rename World => w_
        have HD := Lib.hid (wtV_cl p HVN.out.one)
        obtain ⟨ys, hys⟩ : ∃ x, x = wtV v' p := ⟨_, rfl⟩
        have HYS := Lib.hid hys
        rw [← hys] at HD ⊢
        clear hys
        refine pl_act rfl (by first | exact wanted_none rfl | (go_simp; done) | rfl) (fun K hK => ?_)
        show wpList _ _ _ [⟨some 78, .buildSlice _ _ _, _, _, _, _⟩] _ _
        go_wp2_with (first | (with_reducible refine wpl_row1 (o := ⟨some 78, _, _, _, _, _⟩) rfl rfl el_wait rfl HD.out.len (by decide) ?_))
        intro w3_ hr_ hb_ hs3_
        go_wp2_with fail
        refine hK _ _ (fun _ => hb_) ?_
        clear hK K
        have HAB := Lib.hid (show A1.map Addr.block ≠ some w_.heap.size from fun e => by
          have h1 := (HQ.out.lts _ (qM_mem.2 (.inr e))).2
          omega)
        replace HQ := Lib.hid (HQ.out.grow hb_); replace HP := Lib.hid (HP.out.grow hb_); replace HR := Lib.hid (HR.out.grow hb_); replace HT := Lib.hid (HT.out.grow hb_); replace HVO := Lib.hid (HVO.out.grow hb_); replace HS := Lib.hid (HS.out.grow hb_); replace HVN := Lib.hid (HVN.out.grow hb_)
        generalize w_.heap.size = q at hr_ HAB ⊢
        have HROW := Lib.hid hr_
        clear hr_ hb_ hs3_
        try clear w_
        rename World => w_
        rw [HYS.out] at HROW
        have HINS := Lib.hid (qins_any (k := k) HQ.out.own (by omega) HQ.out.els (by omega) HROW.out HVN.out.one HAB.out (Nat.le_trans HQ.out.low (Nat.le_of_lt HQ.out.blk.lt)))
        refine pl_act rfl (by first | exact wanted_none rfl | (go_simp; done) | rfl) (fun K hK => ?_)
        go_wp2_with fail
        refine HINS.out.mono ?_
        rintro e w4 ⟨A4, c4, rfl, ho_, hg_, hA_⟩
        have HO4 := Lib.hid ho_; have HG := Lib.hid hg_; have HA := Lib.hid hA_
        clear ho_ hg_ hA_ HINS HROW
        go_wp2_with fail
        refine hK _ _ (fun h => by cases h) ?_
        clear hK K
        have HST := Lib.hid (show Step w_ (qM g A1) w4 (qM g A4) from ins_step HG.out HA.out)
        have HSX := Lib.hid (show Step w_ (qM g A1 ++ [g3, g4, g6]) w4 (qM g A4 ++ [g3, g4, g6]) from HST.out.wide _)
        have HNA := Lib.hid HQ.out.ne
        have HDJ4 := Lib.hid (show ∀ b ∈ [g3, g4, g6], b ∉ qM g A4 from fun b hb hm => by
          rcases HST.out.2 b hm with h | h
          · exact HDJ1.out b hb h
          · have h1 := HP.out.lt; have h2 := HR.out.lt; have h3 := HT.out.lt
            simp only [List.mem_cons, List.not_mem_nil, or_false] at hb
            omega)
        have HB4 := Lib.hid (HQ.out.blk.grown HG.out (fun e => HNA.out e.symm))
        have HAO := Lib.hid (show ∀ b ∈ [g3, g4, g6], A1.map Addr.block ≠ some b from fun b hb e => HDJ1.out b hb (qM_mem.2 (.inr e)))
        have HR4 := Lib.hid (at_mk (HR.out.blk.grown HG.out (fun e => HAO.out g4 (by simp) e.symm)) HR.out.len)
        have HT4 := Lib.hid (at_mk (HT.out.blk.grown HG.out (fun e => HAO.out g6 (by simp) e.symm)) HT.out.len)
        have HE4 := Lib.hid (show Els w4 (qM g A4 ++ [g3, g4, g6]) (L1.take k ++ (v', p) :: L1.drop k) from Els.step (fun x hx => by
          rcases List.mem_append.1 hx with hx | hx
          · exact HQ.out.els x (List.mem_of_mem_take hx)
          · rcases List.mem_cons.1 hx with rfl | hx
            · exact ⟨HVN.out, HOK.out⟩
            · exact HQ.out.els x (List.mem_of_mem_drop hx)) HSX.out)
        have HVO4 := Lib.hid (HVO.out.step HSX.out)
        have HS4 := Lib.hid (HS.out.trans HST.out)
        have HLOW := Lib.hid HQ.out.low
        have HGA := Lib.hid (show g ∉ (A4.map Addr.block).toList from fun hm => by
          have e : A4.map Addr.block = some g := by simpa using hm
          rcases HA.out with h | ⟨b', h, hb'⟩
          · exact HNA.out (h.symm.trans e)
          · have h1 := HQ.out.blk.lt
            have h2 : b' = g := Option.some.inj (h.symm.trans e)
            omega)
        clear HQ HP HR HT HVO HVN HS HST HSX HG HA HNA HAO HAB
        try clear w_
        repeat (first | (refine pl_calm rfl rfl (by first | exact wanted_none rfl | (go_simp; done) | rfl) (fun w_ => by first | (go_simp; rfl) | (go_simp; done) | rfl) (fun K hK => ?_); go_simp; refine hK _ _ ?_; clear hK K) | (refine pl_skip rfl (by first | (go_simp; done) | rfl) (fun K hK => ?_); go_simp; refine hK _ _ ?_; clear hK K) | (refine pl_skipa rfl (by first | (go_simp; done) | rfl) (fun K hK => ?_); go_simp; refine hK _ _ ?_; clear hK K))
        refine pl_act rfl (by first | exact wanted_none rfl | (go_simp; done) | rfl) (fun K hK => ?_)
        show wpList _ _ _ [⟨none, .store _ _ _, _, _, _, _⟩] _ _
        go_wp2_with (first | (refine wpl_store1 (o := ⟨none, .store _ _ _, _, _, _, _⟩) rfl rfl HB4.out rfl rfl (by kernel_rfl) rfl rfl (by simp) ?_))
        intro w5 hb5 hg5 hz5
        have HG := Lib.hid hg5
        have HB5 := Lib.hid (show Blk w5 g 58 [.slice A4 (n1 + 1) c4] from hb5)
        clear hb5 hg5 hz5
        go_wp2_with fail
        refine hK _ _ (fun h => by cases h) ?_
        clear hK K
        refine pl_done ?_
        have HMG := Lib.hid (show g ∈ qM g A4 from qM_mem.2 (.inl rfl))
        have HN4 := Lib.hid (show g4 ≠ g from fun e => HDJ4.out g4 (by simp) (by rw [e]; exact HMG.out))
        have HN6 := Lib.hid (show g6 ≠ g from fun e => HDJ4.out g6 (by simp) (by rw [e]; exact HMG.out))
        have HQ5 := Lib.hid (show QAt w5 base g [g3, g4, g6] A4 (n1 + 1) c4 (L1.take k ++ (v', p) :: L1.drop k) from ⟨HB5.out, own_kept HO4.out HG.out (fun b hb e => HGA.out (by rw [hb]; cases e; simp)), by omega, fun x hx => ⟨(HE4.out x hx).1.off HG.out (List.mem_append_left _ HMG.out), (HE4.out x hx).2⟩, HLOW.out⟩)
        have HR5 := Lib.hid (HR4.out.off HG.out HN4.out)
        have HT5 := Lib.hid (HT4.out.off HG.out HN6.out)
        have HVO5 := Lib.hid (HVO4.out.off HG.out (List.mem_append_left _ HMG.out))
        have HS5 := Lib.hid (show Step w (qM g A) w5 (qM g A4) from HS4.out.trans ⟨(Touched.refl _ _).grown HG.out (.inl HMG.out), fun b hb => .inl hb⟩)
        clear HB5 HO4 HG HE4 HR4 HT4 HVO4 HS4 HB4
        have HTC := Lib.hid (wtV_cl po HVO5.out.one)
        obtain ⟨zs, hzs⟩ : ∃ x, x = wtV vo po := ⟨_, rfl⟩
        have HZS := Lib.hid hzs
        rw [← hzs] at HTC HT5
        clear hzs
        go_wp2_with (first | (with_reducible refine wpl_loadb (o := ⟨some 82, _, _, _, _, _⟩) rfl rfl row_wait HT5.out.blk rfl HT5.out.len ?_) | (with_reducible refine wpl_storeb (o := ⟨none, .store _ _ _, _, _, _, _⟩) rfl rfl row_wait HR5.out.blk rfl rfl HR5.out.len HTC.out.len HTC.out.one ?_))
        intro w6 hb6 hg6 hz6
        have HX6 := Lib.hid hb6
        have HG6 := Lib.hid hg6
        clear hb6 hg6 hz6
        go_wp2_with fail
        refine ret_cell_tmp rfl row_wait HX6.out rfl HTC.out.len rfl rfl ?_
        rw [HRS1.out]
        exact ⟨vo, A4, _, c4, _, by rw [HZS.out]; rfl, (HVO5.out.off HG6.out (by simp)).sub (fun b hb => List.mem_append_left _ hb), (HQ5.out.off HG6.out (HDJ4.out g4 (by simp)) (by simp)).bare, by rw [HK.out]; exact ins_map, HS5.out.1.grown HG6.out (.inr HR_g.out), HS5.out.2⟩
end Go.Proofs.Ytmchpopllhnahaa

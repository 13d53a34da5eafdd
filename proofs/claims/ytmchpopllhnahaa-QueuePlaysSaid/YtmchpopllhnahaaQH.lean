/- The contract of (*Queue).Pop. -/
import Derived.Test.YtmchpopllhnahaaQG
namespace Go.Proofs.Ytmchpopllhnahaa
open Go.RowKit
set_option linter.unusedVariables false
theorem built_wt (parts : List (Nat × Value)) : Try.prog.built 29 parts = Instr.fill (fun i => (#[(0, 1), (1, 1), (2, 1), (3, 1)] : Array (Nat × Nat))[i]?) (wtV nilS noWt).toArray parts := by kernel_rfl
theorem bt_wt0 : Try.prog.built 29 [] = some (wtV nilS noWt).toArray := by rw [built_wt, fill_nil]
theorem wt0_cl : Cl 4 (wtV nilS noWt) := wtV_cl noWt rfl
theorem BV.off {w w' : World} {M : List Nat} {v : Value} {bs : List UInt8} {q : Nat} (h : BV w M v bs) (k : w.grownBy w' (some q)) (hq : q ∈ M) : BV w' M v bs :=
  h.step ⟨(Touched.refl M w).grown k (.inl hq), fun b hb => .inl hb⟩
theorem QAt.off {w w' : World} {base g n c q : Nat} {A : Option Addr} {X : List Nat} {L : List (Value × Wt)} (h : QAt w base g X A n c L) (k : w.grownBy w' (some q)) (hq : q ∉ qM g A) (hX : q ∈ X) : QAt w' base g X A n c L := by
  have hne : ∀ b ∈ qM g A, some b ≠ some q := fun b hb e => hq (by cases e; exact hb)
  exact ⟨h.blk.grown k (hne g (qM_mem.2 (.inl rfl))), own_kept h.own k (fun b hb => hne b (qM_mem.2 (.inr (by rw [hb]; rfl)))), h.big, fun p hp => ⟨(h.els p hp).1.off k (List.mem_append_right _ hX), (h.els p hp).2⟩, h.low⟩
theorem QAt.widen {w w' : World} {base g n c : Nat} {A : Option Addr} {X X' : List Nat} {L : List (Value × Wt)} (h : QAt w base g X A n c L) (k : Grow w w') (hX : ∀ b ∈ X', b ∈ X ∨ w.heap.size ≤ b) : QAt w' base g X' A n c L :=
  ⟨h.blk.grow k, h.own.grow k, h.big, fun p hp => ⟨(h.els p hp).1.step ⟨.of_below k, fun b hb => (List.mem_append.1 hb).elim (fun h => .inl (List.mem_append_left _ h)) (fun h => (hX b h).imp (List.mem_append_right _) id)⟩, (h.els p hp).2⟩, h.low⟩
theorem QAt.bare {w : World} {base g n c : Nat} {A : Option Addr} {X : List Nat} {L : List (Value × Wt)} (h : QAt w base g X A n c L) : QAt w base g [] A n c L := QAt.cut (X := []) (X' := X) h
set_option maxRecDepth 100000 in
set_option maxHeartbeats 2000000 in
theorem qpop_nil {w : World} {base g c : Nat} {A : Option Addr} {X : List Nat} (h : QAt w base g X A 0 c []) :
    Calls Try.prog 11 #[.pointer (some ⟨g, 0, none⟩)] w fun e w' => e = .returned (.tuple #[wtA nilS noWt, .bool false]) ∧ Grow w w' := by
  have HQ := Lib.hid h
  have HD := Lib.hid wt0_cl
  have HBT := Lib.hid bt_wt0
  obtain ⟨w_, hw⟩ : ∃ x, x = w := ⟨_, rfl⟩
  have HB := Lib.hid (show Below w.heap.size w w_ by rw [hw]; exact Below.refl _ _)
  rw [← hw] at HQ
  unfold wtA
  suffices H : Calls Try.prog 11 #[.pointer (some ⟨g, 0, none⟩)] w_ fun e w' => e = .returned (.tuple #[.agg (wtV nilS noWt).toArray, .bool false]) ∧ Grow w w' by rw [hw] at H; exact H
  clear hw h
  go_enter Try.func11, Try.ntmps11
  go_wp2_with (first | (with_reducible refine wpl_alloc (o := ⟨some 2, _, _, _, _, _⟩) rfl rfl zero_wait ?_))
  intro w2_ hb2_ hb_ hsz2_
  have HX_ := Lib.hid (at_mk hb2_ len_wait)
  clear hb2_ hsz2_
  have HG_ := Lib.hid HB.out.size
  have HB_ := Lib.hid (HB.out.grow' hb_)
  clear HB
  have HB := HB_
  clear HB_
  have HQ_ := Lib.hid (HQ.out.grow hb_)
  clear HQ
  have HQ := HQ_
  clear HQ_
  generalize hg_ : w_.heap.size = gR at HX_ HG_ ⊢
  clear hg_
  have HR_g := HG_
  clear HG_
  have HR := HX_
  clear hb_ HX_
  try clear w_
  rename World => w_
  have c0 := HQ.out.blk.at_ (i := 0) rfl
  go_wp2_with (first | (with_reducible refine wpl_stop (o := ⟨some 11, _, _, _, _, _⟩) ?_))
  refine stop_go ?_
  refine wpl_build rfl rfl HBT.out ?_
  go_wp2_with (first | (with_reducible refine wpl_storeb (o := ⟨none, .store _ _ _, _, _, _, _⟩) rfl rfl row_wait HR.out.blk rfl rfl HR.out.len HD.out.len HD.out.one ?_))
  intro w2_ hb2_ hg2_ hsz2_
  have HB_ := Lib.hid (put_below HB.out HR_g.out hg2_)
  have HX_ := Lib.hid (at_mk hb2_ HD.out.len)
  clear hb2_ hg2_ hsz2_ HB HR
  have HB := HB_
  have HR := HX_
  clear HB_ HX_
  try clear w_
  rename World => w_
  go_wp2_with fail
  refine ret_cell_tmp rfl row_wait HR.out.blk rfl HR.out.len rfl rfl ?_
  exact ⟨rfl, HB.out⟩
set_option maxRecDepth 100000 in
set_option maxHeartbeats 4000000 in
theorem qpop_cons {w : World} {base g n c : Nat} {A : Option Addr} {p : Value × Wt} {L : List (Value × Wt)} (h : QAt w base g [] A n c (p :: L)) :
    Calls Try.prog 11 #[.pointer (some ⟨g, 0, none⟩)] w fun e w' => ∃ v', e = .returned (.tuple #[wtA v' p.2, .bool true]) ∧ BV w' (qM g A) v' p.2.bs ∧ QAt w' base g [] A (n - 1) c L ∧ Step w (qM g A) w' (qM g A) := by
  have hn : n = L.length + 1 := by rw [← h.len]; rfl
  obtain ⟨r, rfl⟩ : ∃ r, A = some ⟨r, 0, none⟩ := by
    rcases h.own.form with ⟨_, h0, _⟩ | ⟨r, e, _⟩
    · omega
    · exact ⟨r, e⟩
  have HQ := Lib.hid h; have HQ0 := Lib.hid h
  have HRW := Lib.hid (show r < w.heap.size from (h.lts r (qM_mem.2 (.inr rfl))).2)
  have HGW := Lib.hid (show g < w.heap.size from (h.lts g (qM_mem.2 (.inl rfl))).2)
  have HRG := Lib.hid (show r ≠ g from fun e => h.ne (by rw [e]; rfl))
  obtain ⟨hbv, hok⟩ := h.els p (List.mem_cons_self ..)
  have HPC := Lib.hid (wtV_cl p.2 hbv.one)
  have HC := Lib.hid (show ∀ j u, (wtV p.1 p.2)[j]? = some u → w.cell? ⟨r, 0 + j, none⟩ = some u from fun j u hu => by
    obtain ⟨b, off, q, e, hq, hc, _⟩ := h.xat.at_ (k := 0) (by omega)
    cases e
    cases hq
    have := hc j u hu
    rwa [Nat.zero_mul, Nat.add_zero] at this)
  have HCL := Lib.hid (fun w2 (hg : Grow w w2) => qclone_any (hbv.grow hg) hok)
  unfold wtA at HCL
  obtain ⟨pv, hpv⟩ : ∃ q, q = wtV p.1 p.2 := ⟨_, rfl⟩
  rw [← hpv] at HPC HC HCL
  have HN := Lib.hid (show n ≤ 32 from h.big)
  have hn1 : 0 < n := by omega
  have hn0 : ¬ n = 0 := by omega
  have hn2 : ¬ (n : Int) = 0 := by omega
  clear hpv hbv hok hn
  obtain ⟨w_, hw⟩ : ∃ x, x = w := ⟨_, rfl⟩
  have HB := Lib.hid (show Below w.heap.size w w_ by rw [hw]; exact Below.refl _ _)
  rw [← hw] at HQ
  suffices H : Calls Try.prog 11 #[.pointer (some ⟨g, 0, none⟩)] w_ fun e w' => ∃ v', e = .returned (.tuple #[wtA v' p.2, .bool true]) ∧ BV w' (qM g (some ⟨r, 0, none⟩)) v' p.2.bs ∧ QAt w' base g [] (some ⟨r, 0, none⟩) (n - 1) c L ∧ Step w (qM g (some ⟨r, 0, none⟩)) w' (qM g (some ⟨r, 0, none⟩)) by rw [hw] at H; exact H
  clear hw h
  go_enter Try.func11, Try.ntmps11
  go_wp2_with (first | (with_reducible refine wpl_alloc (o := ⟨some 2, _, _, _, _, _⟩) rfl rfl zero_wait ?_))
  intro w2_ hb2_ hb_ hsz2_
  have HX_ := Lib.hid (at_mk hb2_ len_wait)
  clear hb2_ hsz2_
  have HG_ := Lib.hid HB.out.size
  have HB_ := Lib.hid (HB.out.grow' hb_)
  clear HB
  have HB := HB_
  clear HB_
  have HQ_ := Lib.hid (HQ.out.grow hb_)
  clear HQ
  have HQ := HQ_
  clear HQ_
  generalize hg_ : w_.heap.size = gR at HX_ HG_ ⊢
  clear hg_
  have HR_g := HG_
  clear HG_
  have HR := HX_
  clear hb_ HX_
  try clear w_
  rename World => w_
  replace HQ := Lib.hid (HQ0.out.widen (X' := [gR]) HB.out (fun b hb => by
    rw [List.mem_singleton] at hb; subst hb; exact .inr HR_g.out))
  clear HQ0
  have c0 := HQ.out.blk.at_ (i := 0) rfl
  have HC1 := Lib.hid (fun j u hu => bcell HB.out (HC.out j u hu))
  go_wp2_with (first | (with_reducible refine wpl_loadm (o := ⟨some 17, _, _, _, _, _⟩) rfl rfl row_wait HC1.out rfl HPC.out.len ?_))
  refine (HCL.out _ HB.out).mono ?_
  rintro e w2_ ⟨v', rfl, hv_, hb_⟩
  have HSZ := Lib.hid (show gR < w_.heap.size from HR.out.lt)
  have HV := Lib.hid (hv_ (gR :: qM g (some ⟨r, 0, none⟩)) (by
    intro b hb
    rcases List.mem_cons.1 hb with rfl | hb
    · exact HSZ.out
    · exact (HQ.out.lts b hb).2))
  have HQ_ := Lib.hid (HQ.out.grow hb_); have HR_ := Lib.hid (HR.out.grow hb_); have HB_ := Lib.hid (HB.out.grow' hb_)
  clear hv_ hb_ HQ HR HB HSZ c0 HC1
  have HQ := HQ_; have HR := HR_; have HB := HB_
  clear HQ_ HR_ HB_ HC HCL
  try clear w_
  rename World => w_
  have HD := Lib.hid (wtV_cl p.2 HV.out.one)
  obtain ⟨ys, hys⟩ : ∃ q, q = wtV v' p.2 := ⟨_, rfl⟩
  have HYS := Lib.hid hys
  rw [← hys] at HD ⊢
  clear hys
  go_wp2_with (first | (with_reducible refine wpl_alloc (o := ⟨some 4, _, _, _, _, _⟩) rfl rfl zero_wait ?_))
  intro w1_ hb1_ hbw1_ hsz1_
  have HB1_ := Lib.hid (at_mk hb1_ len_wait)
  have HBW1_ := Lib.hid hbw1_
  have HZ1_ := Lib.hid hsz1_
  clear hb1_ hbw1_ hsz1_
  go_wp2_with (first | (with_reducible refine wpl_storeb (o := ⟨none, .store _ _ _, _, _, _, _⟩) rfl rfl row_wait HB1_.out.blk rfl rfl HB1_.out.len HD.out.len HD.out.one ?_))
  intro w2_ hb2_ hg2_ hsz2_
  have HG_ := Lib.hid HB.out.size
  have hb_ := var_grow HBW1_.out HZ1_.out hg2_
  have HX_ := Lib.hid (at_mk hb2_ HD.out.len)
  clear hb2_ hg2_ hsz2_ HB1_ HBW1_ HZ1_
  have HB_ := Lib.hid (HB.out.grow' hb_)
  clear HB
  have HB := HB_
  clear HB_
  have HQ_ := Lib.hid (HQ.out.grow hb_)
  clear HQ
  have HQ := HQ_
  clear HQ_
  have HR_ := Lib.hid (HR.out.grow hb_)
  clear HR
  have HR := HR_
  clear HR_
  have HV_ := Lib.hid (HV.out.grow hb_)
  clear HV
  have HV := HV_
  clear HV_
  generalize hg_ : w_.heap.size = gT at HX_ HG_ ⊢
  clear hg_
  have HT := HX_
  clear hb_ HX_
  clear w1_
  try clear w_
  rename World => w_
  have HT_g := HG_
  clear HG_
  have c0 := HQ.out.blk.at_ (i := 0) rfl
  have HDEL := Lib.hid (show Calls Try.prog 30 #[.slice (some ⟨r, 0, none⟩) n c, .int .i64 0, .int .i64 1] w_ fun e w' => e = .returned (.slice (some ⟨r, 0, none⟩) (n - 1) c) ∧ OwnW w' base (some ⟨r, 0, none⟩) (n - 1) c L ∧ w_.grownBy w' (some r) from qdel_any (i := 0) HQ.out.own hn1 HQ.out.els)
  go_wp2_with fail
  refine HDEL.out.mono ?_
  rintro e w3 ⟨rfl, ho3, hg3⟩
  have HO3 := Lib.hid ho3
  have HG3 := Lib.hid hg3
  have HQ3 := Lib.hid (HQ.out.blk.grown HG3.out (fun e => HRG.out (Option.some.inj e).symm))
  have HE3 := Lib.hid (fun q (hq : q ∈ L) => show BV w3 (qM g (some ⟨r, 0, none⟩) ++ [gR]) q.1 q.2.bs ∧ q.2.ok from ⟨(HQ.out.els q (List.mem_cons_of_mem _ hq)).1.off HG3.out (List.mem_append_left _ (qM_mem.2 (.inr rfl))), (HQ.out.els q (List.mem_cons_of_mem _ hq)).2⟩)
  have HV3 := Lib.hid (HV.out.off HG3.out (List.mem_cons_of_mem _ (qM_mem.2 (.inr rfl))))
  have HR3 := Lib.hid (HR.out.off HG3.out (fun e => by have h1 := HR_g.out; have h2 := HRW.out; omega))
  have HT3 := Lib.hid (HT.out.off HG3.out (fun e => by have h1 := HT_g.out; have h2 := HRW.out; omega))
  have HS3 := Lib.hid ((Touched.of_below (l := qM g (some ⟨r, 0, none⟩)) HB.out).grown HG3.out (.inl (qM_mem.2 (.inr rfl))))
  have HLOW := Lib.hid HQ.out.low
  clear ho3 hg3 HQ HDEL HG3 HV HR HT HB c0
  go_wp2_with (first | (refine wpl_store1 (o := ⟨none, .store _ _ _, _, _, _, _⟩) rfl rfl HQ3.out rfl rfl (by kernel_rfl) rfl rfl (by simp) ?_))
  intro w4 hb4 hg4 hz4
  have HG4 := Lib.hid hg4
  have HQ4 := Lib.hid (show QAt w4 base g [gR] (some ⟨r, 0, none⟩) (n - 1) c L from ⟨hb4, own_kept HO3.out HG4.out (fun b hb => by cases hb; intro e; exact HRG.out (Option.some.inj e)), by have := HN.out; omega, fun q hq => ⟨(HE3.out q hq).1.off HG4.out (List.mem_append_left _ (qM_mem.2 (.inl rfl))), (HE3.out q hq).2⟩, HLOW.out⟩)
  have HV4 := Lib.hid (HV3.out.off HG4.out (List.mem_cons_of_mem _ (qM_mem.2 (.inl rfl))))
  have HR4 := Lib.hid (HR3.out.off HG4.out (fun e => by have h1 := HR_g.out; have h2 := HGW.out; omega))
  have HT4 := Lib.hid (HT3.out.off HG4.out (fun e => by have h1 := HT_g.out; have h2 := HGW.out; omega))
  have HS4 := Lib.hid (HS3.out.grown HG4.out (.inl (qM_mem.2 (.inl rfl))))
  clear hb4 hg4 hz4 HG4 HV3 HR3 HT3 HS3 HQ3 HO3 HE3
  go_wp2_with (first | (with_reducible refine wpl_loadb (o := ⟨some 27, _, _, _, _, _⟩) rfl rfl row_wait HT4.out.blk rfl HT4.out.len ?_) | (with_reducible refine wpl_storeb (o := ⟨none, .store _ _ _, _, _, _, _⟩) rfl rfl row_wait HR4.out.blk rfl rfl HR4.out.len HD.out.len HD.out.one ?_))
  intro w5 hb5 hg5 hz5
  have HX5 := Lib.hid hb5
  have HG5 := Lib.hid hg5
  clear hb5 hg5 hz5
  go_wp2_with fail
  refine ret_cell_tmp rfl row_wait HX5.out rfl HD.out.len rfl rfl ?_
  have hgr : gR ∉ qM g (some ⟨r, 0, none⟩) := by
    intro hm
    have h1 := HR_g.out; have h2 := HRW.out; have h3 := HGW.out
    rcases qM_mem.1 hm with e | e
    · omega
    · cases e; exact absurd (Nat.lt_of_lt_of_le h2 h1) (Nat.lt_irrefl _)
  exact ⟨v', by rw [HYS.out]; rfl, (HV4.out.off HG5.out (List.mem_cons_self ..)).sub (fun b hb => List.mem_cons_of_mem _ hb), (HQ4.out.off HG5.out hgr (List.mem_singleton.2 rfl)).bare, (HS4.out.grown HG5.out (.inr HR_g.out)), fun b hb => .inl hb⟩
end Go.Proofs.Ytmchpopllhnahaa

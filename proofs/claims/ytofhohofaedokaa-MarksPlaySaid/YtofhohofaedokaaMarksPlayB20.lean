/- The contract of seisinlaw20.is: marks that are the document's are told as such. Printed by mkmsi.py. -/
import Derived.Test.YtofhohofaedokaaMarksPlayB19
import Derived.Test.YtofhohofaedokaaMarksPlayB15
import Derived.Deep.CutRange
import Derived.Test.YtofhohofaedokaaMarksPlayB14
import Derived.Test.YtofhohofaedokaaMarksPlayB11
import Derived.Test.YtofhohofaedokaaChecked
import Derived.Test.YtofhohofaedokaaMarksPlayB4
set_option linter.unusedSimpArgs false
/- The contract of seisinlaw20.is: marks that are the document's are told as such. Printed by mkmsi.py. -/
namespace Go.Proofs.Ytofhohofaedokaa
open Go.RowKit
set_option linter.unusedVariables false
theorem RelM.row {w : World} {L l : MarksL} {XL X : XMk} (h : RelM w L l XL X) (hl : LMOK L) {k : Nat} {e : MKey × Mrk} (he : l[k]? = some e) : ∃ m d1 d2, lookM L e.1 = some m ∧ PathAt w m d1 ∧ PathAt w e.2 d2 ∧ absM m d1 = absM e.2 d2 ∧ m.ok := by
  have hk : k < X.length := by have := (List.getElem?_eq_some_iff.1 he).1; have := h.lens; omega
  obtain ⟨x, hx⟩ : ∃ x, X[k]? = some x := ⟨_, List.getElem?_eq_getElem hk⟩
  obtain ⟨h1, d2, h2, h3⟩ := h.px.2 k e x he hx
  obtain ⟨m, d1, a1, a2, a3, _, a5, _⟩ := h.at_ hl hx
  rw [h1]
  exact ⟨m, d1, d2, a1, a2, h2, by rw [← a3, h3], a5⟩
theorem len_mark0 : (markV noMrk).length = 138 := markV_length noMrk_ok
set_option maxRecDepth 100000 in
set_option maxHeartbeats 16000000 in
theorem isM_any (g b : Nat) (L l : MarksL) (XL X : XMk) {A : Option Addr} {n c : Nat} (w : World) (h : MarksAt w g b L) (hr : RelM w L l XL X) (hx : RowM w A n l) :
    Calls Try.prog 15 #[.pointer (some ⟨g, 0, none⟩), .slice A n c] w fun e w' => e = .returned (.bool true) ∧ Below w.heap.size w w' := by
  have HR := Lib.hid hr
  have hln : l.length = n := hx.2.2
  have hLn : L.length = n := by rw [hr.lens.1, hln]
  have hn128 : n ≤ 128 := by rw [← hln]; exact hr.lens.2.2
  have HLEN := Lib.hid (fun w' (h' : MarksAt w' g b L) => show Calls Try.prog 16 #[.pointer (some ⟨g, 0, none⟩)] w' fun e w'' => e = .returned (.int .i64 (n : Int)) ∧ w' = w'' from by have := mlen_any g b L w' h'; rwa [hLn] at this)
  have HC := Lib.hid h; have HX := Lib.hid hx
  have HLK := Lib.hid h.ok
  clear h hr hx hln hLn
  have z1 : ((n : Int) != (n : Int)) = false := by simp
  go_enter Try.func15, Try.ntmps15
  go_wp2_with fail
  refine (HLEN.out w HC.out).mono ?_
  rintro e w0 ⟨rfl, rfl⟩
  clear HLEN
  have HB := Lib.hid (Below.refl w.heap.size w)
  go_wp2_with fail
  go_loopw [5] (fun iv wr => ∃ k : Nat, k ≤ n ∧ iv = .int .i64 k ∧ Hid (MarksAt wr g b L ∧ RowM wr A n l ∧ Below w.heap.size w wr)) (fun iv _ => n - (intOf iv).toNat)
  case atStart => exact ⟨0, by omega, rfl, Lib.hid ⟨HC.out, HX.out, HB.out⟩⟩
  case round =>
    obtain ⟨k, hk, rfl, hI⟩ := hrel
    clear HC HX HB z1
    have HC := Lib.hid hI.out.1; have HX := Lib.hid hI.out.2.1; have HB := Lib.hid hI.out.2.2
    clear hI
    rename World => w_
    by_cases hlt : k < n
    · obtain ⟨bx, off, p, rfl, hbl, hp, hok, hcc⟩ := HX.out.at_ hlt
      obtain ⟨m, d1, d2, hlk, hd1, hd2, habs, hmok⟩ := HR.out.row HLK.out hp
      have HGET := Lib.hid (show ∀ w', Grow w w' → MarksAt w' g b L → Calls Try.prog 13 #[.pointer (some ⟨g, 0, none⟩), .int .i64 p.1.1, .agg (p.1.2.map B).toArray] w' fun e w2 => ∃ A2 c2, e = .returned (.tuple #[.agg (markV (m.at A2 c2)).toArray, .bool true]) ∧ PathAt w2 (m.at A2 c2) d1 ∧ (∀ k, A2.map Addr.block = some k → w'.heap.size ≤ k) ∧ Below w'.heap.size w' w2 from fun w' hb h' => by
        have := mgeto_any g b L p.1 w' d1 h' hok.1 (by rw [hlk]; exact hd1.grow hb)
        rw [hlk] at this; exact this)
      have HSM := Lib.hid (show ∀ A2 c2 w', Grow w w' → PathAt w' (m.at A2 c2) d1 → Calls Try.prog 14 #[.agg (markV (m.at A2 c2)).toArray, .agg (markV p.2).toArray] w' fun e w2 => e = .returned (.bool true) ∧ Below w'.heap.size w' w2 from fun A2 c2 w' hb h' => rsame20_any (m1 := m.at A2 c2) (m2 := p.2) (d1 := d1) (d2 := d2) (by rw [decide_eq_true_iff]; exact habs) w' (Mrk.at_ok hmok A2 c2) hok.2 h' (hd2.grow hb))
      have HMK := Lib.hid (fun A2 c2 => mark_cl (Mrk.at_ok hmok A2 c2))
      have HCE := Lib.hid (fun w' (hb : Grow w_ w') => show ∀ j u, (encAtM p)[j]? = some u → w'.cell? ⟨bx, off + k * 171 + j, none⟩ = some u from fun j u hu => (hb.cell (p := ⟨bx, off + k * 171 + j, none⟩) hbl).trans (hcc j u hu))
      have HE0 := Lib.hid (show (encAtM p)[0]? = some (.int .i64 p.1.1) from encAtM_part p)
      have HEI := Lib.hid (show ∀ j u, (p.1.2.map B)[j]? = some u → (encAtM p)[1 + j]? = some u from fun j u hu => encAtM_id hok hu)
      have HEM := Lib.hid (show ∀ j u, (markV p.2)[j]? = some u → (encAtM p)[33 + j]? = some u from fun j u hu => encAtM_mark hok hu)
      have HIL := Lib.hid (show (p.1.2.map B).length = 32 by rw [List.length_map, hok.1.2])
      have HML := Lib.hid (mark_cl hok.2)
      have HBLK := Lib.hid hbl
      obtain ⟨ev, hev⟩ : ∃ q, q = encAtM p := ⟨_, rfl⟩
      rw [← hev] at HCE HE0 HEI HEM
      obtain ⟨mv, hmv⟩ : ∃ q, q = markV p.2 := ⟨_, rfl⟩
      rw [← hmv] at HSM HEM HML
      obtain ⟨tb, htb⟩ : ∃ q, q = p.1.2.map B := ⟨_, rfl⟩
      rw [← htb] at HGET HEI HIL
      obtain ⟨pi, hpi⟩ : ∃ q, q = p.1.1 := ⟨_, rfl⟩
      rw [← hpi] at HGET HE0
      clear hp hlk hd1 hd2 habs hmok hok hcc hev hmv htb hpi hbl
      obtain ⟨w0, hw0⟩ : ∃ q, q = w_ := ⟨_, rfl⟩
      have HW := Lib.hid (show Gw w0 w_ by rw [hw0]; exact Gw.refl _)
      rw [← hw0] at HCE HBLK
      clear hw0
      have HBZ := Lib.hid HB.out.size
      try go_wp2_with fail
      repeat' (first | (with_reducible refine wp_plan (id := 6) Grow [0,0,0,0,0,1,0,0,0,0,1,3,0,0,0,4,3,0] (.get 0 (.get 1 (.get 2 (.get 3 (.get 4 (.get 5 (.get 6 (.get 7 (.get 8 (.get 9 (.get 10 (.fork 11 (.get 12 (.get 13 (.get 14 (.act 15 (.act 16 (.get 17 .done)))))) (.act 15 (.act 11 (.get 12 (.get 13 (.get 14 (.act 16 (.get 17 .done))))))))))))))))))) (by kernel_rfl) (by kernel_rfl) Grow.refl Grow.trans ?_) | go_values | go_skip | go_guarded | go_step | go_upon | go_back)
      intro w_ hd_
      have hb_ := hd_.grow
      have HB_ := Lib.hid (HB.out.grow' hb_)
      clear HB
      have HB := HB_
      clear HB_
      have HC_ := Lib.hid (HC.out.grow hb_)
      clear HC
      have HC := HC_
      clear HC_
      have HX_ := Lib.hid (HX.out.grow hb_)
      clear HX
      have HX := HX_
      clear HX_
      have HW_ := Lib.hid (HW.out.grow hb_)
      clear HW
      have HW := HW_
      clear HW_
      clear hb_ hd_
      have HC0 := Lib.hid (show w_.cell? ⟨bx, off + k * 171, none⟩ = some (.int .i64 pi) from HCE.out w_ HW.out 0 _ HE0.out)
      repeat (first | (refine pl_calm rfl rfl (by first | exact wanted_none rfl | (go_simp; done) | rfl) (fun w_ => by first | (go_simp; rfl) | (go_simp; done) | rfl) (fun K hK => ?_); go_simp; refine hK _ _ ?_; clear hK K) | (refine pl_skip rfl (by first | (go_simp; done) | rfl) (fun K hK => ?_); go_simp; refine hK _ _ ?_; clear hK K) | (refine pl_skipa rfl (by first | (go_simp; done) | rfl) (fun K hK => ?_); go_simp; refine hK _ _ ?_; clear hK K) | (refine pl_load rfl rfl (by first | exact wanted_none rfl | (go_simp; done) | rfl) rfl (by first | rfl | (go_simp; rfl)) (by kernel_rfl) (by first | exact HC0.out) (fun K hK => ?_); go_simp; refine hK _ _ ?_; clear hK K) | (refine pl_loadnow rfl rfl (by first | exact wanted_none rfl | (go_simp; done) | rfl) rfl (by first | rfl | (go_simp; rfl)) (by kernel_rfl) (by first | exact HC0.out) (fun K hK => ?_); go_simp; refine hK _ _ ?_; clear hK K))
      have MC := Lib.hid (show ∀ j u, tb[j]? = some u → w_.cell? ⟨bx, off + k * 171 + 1 + j, none⟩ = some u from fun j u hu => by have h1 := HCE.out w_ HW.out (1 + j) u (HEI.out j u hu); rw [← Nat.add_assoc] at h1; exact h1)
      refine pl_loadm rfl (by decide) (by first | exact wanted_none rfl | (go_simp; done) | fail) rfl row_id MC.out (Nat.lt_of_lt_of_le HBLK.out HW.out.size) (by first | rfl | (go_simp; done) | rfl) HIL.out (fun K hK => ?_)
      go_simp
      refine hK _ _ ?_
      clear hK K MC HC0
      refine pl_fork rfl (by exact wanted_none rfl) (fun K hK => ?_) ?_
      · skip
        go_wp2_with fail
        refine (HGET.out _ HB.out HC.out).mono ?_
        rintro e w2_ ⟨A2, c2, rfl, hp_, hn_, hb_⟩
        have HPA := Lib.hid hp_
        have HGC := Lib.hid (HMK.out A2 c2)
        have HSM2 := Lib.hid (HSM.out A2 c2)
        have HPQ := Lib.hid (show ∀ k, A2.map Addr.block = some k → w_.heap.size ≤ k from hn_)
        obtain ⟨gv, hgv⟩ : ∃ z, z = markV (m.at A2 c2) := ⟨_, rfl⟩
        rw [← hgv] at HGC HSM2 ⊢
        clear hgv
        go_wp2_with fail
        refine hK _ _ (fun _ => hb_) ?_
        clear hK K hp_ hn_ HPQ
        have hb_ := hb_
        clear hb_
        have HB_ := Lib.hid (HB.out.grow' hb_)
        clear HB
        have HB := HB_
        clear HB_
        have HC_ := Lib.hid (HC.out.grow hb_)
        clear HC
        have HC := HC_
        clear HC_
        have HX_ := Lib.hid (HX.out.grow hb_)
        clear HX
        have HX := HX_
        clear HX_
        have HW_ := Lib.hid (HW.out.grow hb_)
        clear HW
        have HW := HW_
        clear HW_
        clear hb_
        try clear w_
        rename World => w_
        repeat (first | (refine pl_calm rfl rfl (by first | exact wanted_none rfl | (go_simp; done) | rfl) (fun w_ => by first | (go_simp; rfl) | (go_simp; done) | rfl) (fun K hK => ?_); go_simp; refine hK _ _ ?_; clear hK K) | (refine pl_skip rfl (by first | (go_simp; done) | rfl) (fun K hK => ?_); go_simp; refine hK _ _ ?_; clear hK K) | (refine pl_skipa rfl (by first | (go_simp; done) | rfl) (fun K hK => ?_); go_simp; refine hK _ _ ?_; clear hK K))
        refine pl_act rfl (by exact wanted_none rfl) (fun K hK => ?_)
        show wpList _ _ _ [⟨some _, .alloc _, _, _, _, _⟩] _ _
        go_wp2_with (first | (with_reducible refine wpl_alloc (o := ⟨some 6, _, _, _, _, _⟩) rfl rfl zero_mark ?_))
        intro w2_ hb2_ hb_ hsz2_
        have HV := Lib.hid (at_mk hb2_ len_mark0)
        have HGA := Lib.hid hb_
        have HIG := Lib.hid HB.out.size
        have HXG := Lib.hid (Nat.le_refl w_.heap.size)
        generalize hg_ : w_.heap.size = gi at HV HIG ⊢
        replace HXG := Lib.hid (show w_.heap.size ≤ gi by rw [← hg_]; exact Nat.le_refl _)
        replace HB := Lib.hid (HB.out.grow' hb_)
        go_wp2_with fail
        refine hK _ _ (fun _ => HGA.out) ?_
        clear hK K hb2_ hsz2_ hg_ hb_
        refine pl_act rfl (by exact wanted_none rfl) (fun K hK => ?_)
        show wpList _ _ _ [⟨none, .store _ _ _, _, _, _, _⟩] _ _
        go_wp2_with (first | (with_reducible refine wpl_storeb (o := ⟨none, .store _ _ _, _, _, _, _⟩) rfl rfl row_mark HV.out.blk rfl rfl HV.out.len HGC.out.len HGC.out.one ?_))
        intro w3_ hb3_ hg3_ hsz3_
        have hgr_ := put_below HGA.out HXG.out hg3_
        have HV_ := Lib.hid (at_mk hb3_ HGC.out.len)
        have HC_ := Lib.hid (HC.out.grow hgr_); have HX_ := Lib.hid (HX.out.grow hgr_); have HW_ := Lib.hid (HW.out.grow hgr_); have HPA_ := Lib.hid (HPA.out.grow hgr_)
        have HB_ := Lib.hid (put_below HB.out HIG.out hg3_)
        clear hb3_ hg3_ hsz3_ hgr_ HV HC HX HW HPA HB HGA HXG HIG
        have HV := HV_; have HC := HC_; have HX := HX_; have HW := HW_; have HPA := HPA_; have HB := HB_
        clear HV_ HC_ HX_ HW_ HPA_ HB_
        try clear w2_
        try clear w_
        rename World => w_
        go_wp2_with fail
        refine hK _ _ (fun h => by cases h) ?_
        clear hK K
        repeat (first | (refine pl_calm rfl rfl (by first | exact wanted_none rfl | (go_simp; done) | rfl) (fun w_ => by first | (go_simp; rfl) | (go_simp; done) | rfl) (fun K hK => ?_); go_simp; refine hK _ _ ?_; clear hK K) | (refine pl_skip rfl (by first | (go_simp; done) | rfl) (fun K hK => ?_); go_simp; refine hK _ _ ?_; clear hK K) | (refine pl_skipa rfl (by first | (go_simp; done) | rfl) (fun K hK => ?_); go_simp; refine hK _ _ ?_; clear hK K))
        refine pl_done ?_
        have HBZ2 := Lib.hid HB.out.size
        try go_wp2_with fail
        repeat' (first | (with_reducible refine wp_plan (id := 7) Grow [0,0,0,2,0,0,0,0,2,3,0,0] (.get 0 (.get 1 (.get 2 (.get 3 (.get 4 (.get 5 (.get 6 (.get 7 (.get 8 (.act 9 (.get 10 (.get 11 .done)))))))))))) (by kernel_rfl) (by kernel_rfl) Grow.refl Grow.trans ?_) | go_values | go_skip | go_guarded | go_step | go_upon | go_back)
        intro w_ hd_
        have hb_ := hd_.grow
        have HB_ := Lib.hid (HB.out.grow' hb_)
        clear HB
        have HB := HB_
        clear HB_
        have HC_ := Lib.hid (HC.out.grow hb_)
        clear HC
        have HC := HC_
        clear HC_
        have HX_ := Lib.hid (HX.out.grow hb_)
        clear HX
        have HX := HX_
        clear HX_
        have HV_ := Lib.hid (HV.out.grow hb_)
        clear HV
        have HV := HV_
        clear HV_
        have HPA_ := Lib.hid (HPA.out.grow hb_)
        clear HPA
        have HPA := HPA_
        clear HPA_
        have HW_ := Lib.hid (HW.out.grow hb_)
        clear HW
        have HW := HW_
        clear HW_
        clear hb_ hd_
        repeat (first | (refine pl_loadb rfl rfl (by first | exact wanted_none rfl | (go_simp; done) | rfl) rfl row_mark HV.out.blk (by first | rfl | (go_simp; done) | rfl) HV.out.len (fun K hK => ?_); go_simp; refine hK _ _ ?_; clear hK K) | (refine pl_loadbnow rfl rfl (by first | exact wanted_none rfl | (go_simp; done) | rfl) rfl row_mark HV.out.blk (by first | rfl | (go_simp; done) | rfl) HV.out.len (fun K hK => ?_); go_simp; refine hK _ _ ?_; clear hK K) | (refine pl_calm rfl rfl (by first | exact wanted_none rfl | (go_simp; done) | rfl) (fun w_ => by first | (go_simp; rfl) | (go_simp; done) | rfl) (fun K hK => ?_); go_simp; refine hK _ _ ?_; clear hK K) | (refine pl_skip rfl (by first | (go_simp; done) | rfl) (fun K hK => ?_); go_simp; refine hK _ _ ?_; clear hK K) | (refine pl_skipa rfl (by first | (go_simp; done) | rfl) (fun K hK => ?_); go_simp; refine hK _ _ ?_; clear hK K))
        have MC := Lib.hid (show ∀ j u, mv[j]? = some u → w_.cell? ⟨bx, off + k * 171 + 33 + j, none⟩ = some u from fun j u hu => by have h1 := HCE.out w_ HW.out (33 + j) u (HEM.out j u hu); rw [← Nat.add_assoc] at h1; exact h1)
        refine pl_loadm rfl (by decide) (by first | exact wanted_none rfl | (go_simp; done) | fail) rfl row_mark MC.out (Nat.lt_of_lt_of_le HBLK.out HW.out.size) (by first | rfl | (go_simp; done) | rfl) HML.out.len (fun K hK => ?_)
        go_simp
        refine hK _ _ ?_
        clear hK K MC
        refine pl_act rfl (by first | exact wanted_none rfl | (go_simp; done) | rfl) (fun K hK => ?_)
        go_wp2_with fail
        refine (HSM2.out _ HB.out HPA.out).mono ?_
        rintro e w_ ⟨rfl, hb_⟩
        go_wp2_with fail
        refine hK _ _ (fun _ => hb_) ?_
        clear hK K
        have HB_ := Lib.hid (HB.out.grow' hb_)
        clear HB
        have HB := HB_
        clear HB_
        have HC_ := Lib.hid (HC.out.grow hb_)
        clear HC
        have HC := HC_
        clear HC_
        have HX_ := Lib.hid (HX.out.grow hb_)
        clear HX
        have HX := HX_
        clear HX_
        clear hb_
        repeat (first | (refine pl_calm rfl rfl (by first | exact wanted_none rfl | (go_simp; done) | rfl) (fun w_ => by first | (go_simp; rfl) | (go_simp; done) | rfl) (fun K hK => ?_); go_simp; refine hK _ _ ?_; clear hK K) | (refine pl_skip rfl (by first | (go_simp; done) | rfl) (fun K hK => ?_); go_simp; refine hK _ _ ?_; clear hK K) | (refine pl_skipa rfl (by first | (go_simp; done) | rfl) (fun K hK => ?_); go_simp; refine hK _ _ ?_; clear hK K))
        refine pl_done ?_
        clear HV HPA HW HSM2 HGC HSM HMK HGET HCE
        have v1 : IntKind.i64.wrap ((k : Int) + 1) = (k : Int) + 1 := IntWalk.i64_in _ (by omega)
        go_wp2_with fail
        go_roundw
        all_goals clear v1
        case rel => exact ⟨k + 1, by omega, by go_num, Lib.hid ⟨HC.out, HX.out, HB.out⟩⟩
        case measure => simp [intOf]; omega
      · skip
        refine pl_act rfl (by exact wanted_none rfl) (fun K hK => ?_)
        show wpList _ _ _ [⟨some _, .alloc _, _, _, _, _⟩] _ _
        go_wp2_with (first | (with_reducible refine wpl_alloc (o := ⟨some 6, _, _, _, _, _⟩) rfl rfl zero_mark ?_))
        intro w2_ hb2_ hb_ hsz2_
        have HV := Lib.hid (at_mk hb2_ len_mark0)
        have HGA := Lib.hid hb_
        have HIG := Lib.hid HB.out.size
        generalize hg_ : w_.heap.size = gi at HV HIG ⊢
        have HXG := Lib.hid (show w_.heap.size ≤ gi by rw [← hg_]; exact Nat.le_refl _)
        replace HB := Lib.hid (HB.out.grow' hb_)
        have HC2 := Lib.hid (HC.out.grow hb_)
        go_wp2_with fail
        refine hK _ _ (fun _ => HGA.out) ?_
        clear hK K hb2_ hsz2_ hg_ hb_
        refine pl_act rfl (by exact wanted_none rfl) (fun K hK => ?_)
        go_wp2_with fail
        refine (HGET.out _ HB.out HC2.out).mono ?_
        rintro e w3_ ⟨A2, c2, rfl, hp_, hn_, hb_⟩
        have HPA := Lib.hid hp_
        have HGC := Lib.hid (HMK.out A2 c2)
        have HSM2 := Lib.hid (HSM.out A2 c2)
        have HPQ := Lib.hid (show ∀ k, A2.map Addr.block = some k → gi < k from fun k hk => Nat.lt_of_lt_of_le HV.out.lt (hn_ k hk))
        obtain ⟨gv, hgv⟩ : ∃ z, z = markV (m.at A2 c2) := ⟨_, rfl⟩
        rw [← hgv] at HGC HSM2 ⊢
        clear hgv
        go_wp2_with fail
        refine hK _ _ (fun _ => hb_) ?_
        clear hK K hp_ hn_ HC2
        replace HV := Lib.hid (HV.out.grow hb_)
        replace HB := Lib.hid (HB.out.grow' hb_)
        replace HGA := Lib.hid (HGA.out.grow' hb_)
        clear hb_
        repeat (first | (refine pl_calm rfl rfl (by first | exact wanted_none rfl | (go_simp; done) | rfl) (fun w_ => by first | (go_simp; rfl) | (go_simp; done) | rfl) (fun K hK => ?_); go_simp; refine hK _ _ ?_; clear hK K) | (refine pl_skip rfl (by first | (go_simp; done) | rfl) (fun K hK => ?_); go_simp; refine hK _ _ ?_; clear hK K) | (refine pl_skipa rfl (by first | (go_simp; done) | rfl) (fun K hK => ?_); go_simp; refine hK _ _ ?_; clear hK K))
        refine pl_act rfl (by exact wanted_none rfl) (fun K hK => ?_)
        show wpList _ _ _ [⟨none, .store _ _ _, _, _, _, _⟩] _ _
        go_wp2_with (first | (with_reducible refine wpl_storeb (o := ⟨none, .store _ _ _, _, _, _, _⟩) rfl rfl row_mark HV.out.blk rfl rfl HV.out.len HGC.out.len HGC.out.one ?_))
        intro w4_ hb3_ hg3_ hsz3_
        have hgr_ := put_below HGA.out HXG.out hg3_
        have HV_ := Lib.hid (at_mk hb3_ HGC.out.len)
        have HC_ := Lib.hid (HC.out.grow hgr_); have HX_ := Lib.hid (HX.out.grow hgr_); have HW_ := Lib.hid (HW.out.grow hgr_)
        have HPA_ := Lib.hid (show PathAt w4_ (m.at A2 c2) d1 from Ids.off HPA.out hg3_ (fun k hk => by have := HPQ.out k hk; omega))
        have HB_ := Lib.hid (put_below HB.out HIG.out hg3_)
        clear hb3_ hg3_ hsz3_ hgr_ HV HC HX HW HPA HB HGA HXG HIG HPQ
        have HV := HV_; have HC := HC_; have HX := HX_; have HW := HW_; have HPA := HPA_; have HB := HB_
        clear HV_ HC_ HX_ HW_ HPA_ HB_
        try clear w3_
        try clear w2_
        try clear w_
        rename World => w_
        go_wp2_with fail
        refine hK _ _ (fun h => by cases h) ?_
        clear hK K
        repeat (first | (refine pl_calm rfl rfl (by first | exact wanted_none rfl | (go_simp; done) | rfl) (fun w_ => by first | (go_simp; rfl) | (go_simp; done) | rfl) (fun K hK => ?_); go_simp; refine hK _ _ ?_; clear hK K) | (refine pl_skip rfl (by first | (go_simp; done) | rfl) (fun K hK => ?_); go_simp; refine hK _ _ ?_; clear hK K) | (refine pl_skipa rfl (by first | (go_simp; done) | rfl) (fun K hK => ?_); go_simp; refine hK _ _ ?_; clear hK K))
        refine pl_done ?_
        have HBZ2 := Lib.hid HB.out.size
        try go_wp2_with fail
        repeat' (first | (with_reducible refine wp_plan (id := 7) Grow [0,0,0,2,0,0,0,0,2,3,0,0] (.get 0 (.get 1 (.get 2 (.get 3 (.get 4 (.get 5 (.get 6 (.get 7 (.get 8 (.act 9 (.get 10 (.get 11 .done)))))))))))) (by kernel_rfl) (by kernel_rfl) Grow.refl Grow.trans ?_) | go_values | go_skip | go_guarded | go_step | go_upon | go_back)
        intro w_ hd_
        have hb_ := hd_.grow
        have HB_ := Lib.hid (HB.out.grow' hb_)
        clear HB
        have HB := HB_
        clear HB_
        have HC_ := Lib.hid (HC.out.grow hb_)
        clear HC
        have HC := HC_
        clear HC_
        have HX_ := Lib.hid (HX.out.grow hb_)
        clear HX
        have HX := HX_
        clear HX_
        have HV_ := Lib.hid (HV.out.grow hb_)
        clear HV
        have HV := HV_
        clear HV_
        have HPA_ := Lib.hid (HPA.out.grow hb_)
        clear HPA
        have HPA := HPA_
        clear HPA_
        have HW_ := Lib.hid (HW.out.grow hb_)
        clear HW
        have HW := HW_
        clear HW_
        clear hb_ hd_
        repeat (first | (refine pl_loadb rfl rfl (by first | exact wanted_none rfl | (go_simp; done) | rfl) rfl row_mark HV.out.blk (by first | rfl | (go_simp; done) | rfl) HV.out.len (fun K hK => ?_); go_simp; refine hK _ _ ?_; clear hK K) | (refine pl_loadbnow rfl rfl (by first | exact wanted_none rfl | (go_simp; done) | rfl) rfl row_mark HV.out.blk (by first | rfl | (go_simp; done) | rfl) HV.out.len (fun K hK => ?_); go_simp; refine hK _ _ ?_; clear hK K) | (refine pl_calm rfl rfl (by first | exact wanted_none rfl | (go_simp; done) | rfl) (fun w_ => by first | (go_simp; rfl) | (go_simp; done) | rfl) (fun K hK => ?_); go_simp; refine hK _ _ ?_; clear hK K) | (refine pl_skip rfl (by first | (go_simp; done) | rfl) (fun K hK => ?_); go_simp; refine hK _ _ ?_; clear hK K) | (refine pl_skipa rfl (by first | (go_simp; done) | rfl) (fun K hK => ?_); go_simp; refine hK _ _ ?_; clear hK K))
        have MC := Lib.hid (show ∀ j u, mv[j]? = some u → w_.cell? ⟨bx, off + k * 171 + 33 + j, none⟩ = some u from fun j u hu => by have h1 := HCE.out w_ HW.out (33 + j) u (HEM.out j u hu); rw [← Nat.add_assoc] at h1; exact h1)
        refine pl_loadm rfl (by decide) (by first | exact wanted_none rfl | (go_simp; done) | fail) rfl row_mark MC.out (Nat.lt_of_lt_of_le HBLK.out HW.out.size) (by first | rfl | (go_simp; done) | rfl) HML.out.len (fun K hK => ?_)
        go_simp
        refine hK _ _ ?_
        clear hK K MC
        refine pl_act rfl (by first | exact wanted_none rfl | (go_simp; done) | rfl) (fun K hK => ?_)
        go_wp2_with fail
        refine (HSM2.out _ HB.out HPA.out).mono ?_
        rintro e w_ ⟨rfl, hb_⟩
        go_wp2_with fail
        refine hK _ _ (fun _ => hb_) ?_
        clear hK K
        have HB_ := Lib.hid (HB.out.grow' hb_)
        clear HB
        have HB := HB_
        clear HB_
        have HC_ := Lib.hid (HC.out.grow hb_)
        clear HC
        have HC := HC_
        clear HC_
        have HX_ := Lib.hid (HX.out.grow hb_)
        clear HX
        have HX := HX_
        clear HX_
        clear hb_
        repeat (first | (refine pl_calm rfl rfl (by first | exact wanted_none rfl | (go_simp; done) | rfl) (fun w_ => by first | (go_simp; rfl) | (go_simp; done) | rfl) (fun K hK => ?_); go_simp; refine hK _ _ ?_; clear hK K) | (refine pl_skip rfl (by first | (go_simp; done) | rfl) (fun K hK => ?_); go_simp; refine hK _ _ ?_; clear hK K) | (refine pl_skipa rfl (by first | (go_simp; done) | rfl) (fun K hK => ?_); go_simp; refine hK _ _ ?_; clear hK K))
        refine pl_done ?_
        clear HV HPA HW HSM2 HGC HSM HMK HGET HCE
        have v1 : IntKind.i64.wrap ((k : Int) + 1) = (k : Int) + 1 := IntWalk.i64_in _ (by omega)
        go_wp2_with fail
        go_roundw
        all_goals clear v1
        case rel => exact ⟨k + 1, by omega, by go_num, Lib.hid ⟨HC.out, HX.out, HB.out⟩⟩
        case measure => simp [intOf]; omega
    · obtain rfl : k = n := by omega
      have HTR := Lib.hid (fun w' (hb : Grow w w') (h' : RowM w' A k l) => rbytes20_any (c := c) w' h' hn128 (HR.out.px.okM HR.out.ok) (HR.out.px.grow hb))
      have HGG := Lib.hid (show g < w_.heap.size ∧ b < w_.heap.size from ⟨HC.out.ltg, HC.out.ltb⟩)
      have HRM := Lib.hid (HR.out.mono (fun m ds hp => hp.grow HB.out))
      have HP1 := Lib.hid (fun gp w' (h' : MarksAt w' g b L) (hw : Below w_.heap.size w_ w') (hs : w_.heap.size ≤ gp) hp (h1 : g < gp) (h2 : b < gp) => mput1_any g b gp L l XL X w_ w' h' HRM.out hw hs hp h1 h2)
      obtain ⟨out, hout⟩ : ∃ q, q = bytesM X := ⟨_, rfl⟩
      rw [← hout] at HTR HP1
      clear hout
      go_wp2_with (first | (with_reducible refine wpl_alloc (o := ⟨some 8, _, _, _, _, _⟩) rfl rfl zero_penC ?_))
      intro w4 hb4 hbw4 hsz4
      have HP1b := Lib.hid (fun hp => HP1.out w_.heap.size w4 (HC.out.call hbw4) hbw4 (Nat.le_refl _) hp HGG.out.1 HGG.out.2)
      obtain ⟨gp, hgp⟩ : ∃ q, q = w_.heap.size := ⟨_, rfl⟩
      rw [← hgp] at hb4 hsz4 HGG HP1b ⊢
      have HP := Lib.hid (show PenAt w4 (KR gp 0 0) gp [] from PenAt.new hb4 (fun j hj => by rcases hj with h | h <;> omega))
      have HX4 := Lib.hid (HX.out.grow hbw4)
      have HXB := Lib.hid (show Sl w_ gp 171 A k (l.flatMap encAtM) by rw [hgp]; exact HX.out.1)
      have HB4 := Lib.hid (show Below w.heap.size w w4 from HB.out.trans (hbw4.mono HB.out.size))
      have HGP := Lib.hid (show w.heap.size ≤ gp by rw [hgp]; exact HB.out.size)
      have HGW := Lib.hid (show Below gp w_ w4 by rw [hgp]; exact hbw4)
      clear hb4 hbw4 hsz4 HC HX HB hgp HP1
      go_wp2_with fail
      refine (HP1b.out HP.out).mono ?_
      rintro e w5 ⟨rfl, hp5, hlo, hb5⟩
      have HP5 := Lib.hid hp5
      have HLO := Lib.hid hlo
      have HB5 := Lib.hid (show Below w.heap.size w w5 from HB4.out.trans (hb5.mono HGP.out))
      have HX5 := Lib.hid (show RowM w5 A k l from ⟨(HXB.out.below (HGW.out.trans hb5)).more (by have := HP.out.lt; have := hb5.size; omega), HX4.out.2⟩)
      clear hp5 hb5 hlo HP HX4 HB4 HXB HGW HP1b HRM
      have HPB := Lib.hid (fun (hl : out.length ≤ 1000000) => pbytes_any gp (KR gp 0 0) out w5 HP5.out hl)
      go_wp2_with fail
      refine (HPB.out (by have := HLO.out; omega)).mono ?_
      rintro e w6 ⟨A6, c6, rfl, ho6, hc6, hb6⟩
      have HO6 := Lib.hid (Sl.of_own ho6)
      have HB6 := Lib.hid (show Below w.heap.size w w6 from HB5.out.grow' hb6)
      have HX6 := Lib.hid (HX5.out.grow hb6)
      clear ho6 hc6 hb6 HP5 HX5 HB5 HPB
      go_wp2_with fail
      refine (HTR.out w6 HB6.out HX6.out).mono ?_
      rintro e w7 ⟨A7, c7, rfl, hs7, hc7, hl7, hb7⟩
      have HO7 := Lib.hid (show Sl w7 w7.heap.size 1 A6 out.length (out.map B) from (HO6.out.below hb7).more hb7.size)
      have HS7 := Lib.hid hs7
      have HB7 := Lib.hid (show Below w.heap.size w w7 from HB6.out.grow' hb7)
      clear hs7 hc7 hl7 hb7 HX6 HO6 HB6 HTR
      go_wp2_with fail
      refine (bytesq_any (res := true) (by simp) w7 HO7.out HS7.out (by have := HLO.out; omega)).mono ?_
      rintro e w8 ⟨rfl, hb8⟩
      have HB8 := Lib.hid (show Below w.heap.size w w8 from HB7.out.grow' hb8)
      clear hb8
      go_wp2_with fail
      go_ret
      exact ⟨rfl, HB8.out⟩
end Go.Proofs.Ytofhohofaedokaa

/- A list of acts of seisinlaw20 opened: marks with their paths. Printed by mkopenmk.py. -/
namespace Go.Proofs.Ytofhohofaedokaa
open Go.RowKit Go.ChangeShapes Go.WideShapes
set_option linter.unusedVariables false
set_option maxRecDepth 100000
/-- A mark that came in (its path may be longer than a right one's). -/
def MrkW (m : Mrk) : Prop := m.e.ok ∧ m.h.ok ∧ m.tag.length = 32 ∧ I64 m.expiry
theorem MrkW.ok {m : Mrk} (h : MrkW m) (hn : m.pn ≤ 1000000) : m.ok := ⟨h.1, h.2.1, h.2.2.1, h.2.2.2, hn⟩
theorem markW_length {m : Mrk} (h : MrkW m) : (markV m).length = 138 := by
  simp [markV, entV_length h.1, hdrV_length h.2.1, h.2.2.1]
structure ActM where
  dof : Int
  part : Int
  num : Int
  id : List UInt8
  m : Mrk
  ds : List (List UInt8)
def actM (a : ActM) : List Value := .int .i64 a.dof :: .int .i64 a.part :: .int .i64 a.num :: (a.id.map B ++ markV a.m)
def ActMOK (w : World) (a : ActM) : Prop := I64 a.part ∧ I64 a.num ∧ a.id.length = 32 ∧ MrkW a.m ∧ PathAt w a.m a.ds
theorem actM_len {w : World} {a : ActM} (h : ActMOK w a) : (actM a).length = 173 := by unfold actM; simp [h.2.2.1, markW_length h.2.2.2.1]
theorem actM_one (a : ActM) : ∀ u ∈ actM a, u.oneCell' = true := by
  intro u hu
  unfold actM at hu
  simp only [List.mem_cons, List.mem_append, List.mem_map] at hu
  rcases hu with rfl | rfl | rfl | ⟨_, _, rfl⟩ | hu
  · rfl
  · rfl
  · rfl
  · rfl
  · exact markV_one a.m u hu
theorem actM_id {w : World} {a : ActM} (h : ActMOK w a) {j : Nat} {u : Value} (hu : (a.id.map B)[j]? = some u) : (actM a)[3 + j]? = some u := by
  unfold actM; rw [show 3 + j = j + 1 + 1 + 1 by omega, List.getElem?_cons_succ, List.getElem?_cons_succ, List.getElem?_cons_succ, List.getElem?_append_left (List.getElem?_eq_some_iff.1 hu).1]; exact hu
theorem actM_mark {w : World} {a : ActM} (h : ActMOK w a) {j : Nat} {u : Value} (hu : (markV a.m)[j]? = some u) : (actM a)[35 + j]? = some u := by
  have hl : (a.id.map B).length = 32 := by rw [List.length_map, h.2.2.1]
  unfold actM; rw [show 35 + j = (32 + j) + 1 + 1 + 1 by omega, List.getElem?_cons_succ, List.getElem?_cons_succ, List.getElem?_cons_succ, List.getElem?_append_right (by omega), hl, show 32 + j - 32 = j by omega]; exact hu
theorem markW_path {m : Mrk} (h : MrkW m) : (markV m)[37]? = some (.slice m.pA m.pn m.pc) := by
  unfold markV; rw [List.getElem?_append_right (by rw [entV_length h.1]; omega), entV_length h.1]; rfl
theorem cells_actm : Try.prog.cellsOf 40 = 173 := by kernel_rfl
theorem cells_markm : Try.prog.cellsOf 38 = 138 := by kernel_rfl
theorem row_actm : RowT Try.prog 40 173 := ⟨_, Try.underlying40, by kernel_rfl, by kernel_rfl⟩
def zActM : ActM := ⟨0, 0, 0, List.replicate 32 0, noMrk, []⟩
theorem zero_actm : (Try.prog.info? 40).map (·.zero) = some (some (.agg (actM zActM).toArray)) := by kernel_rfl
theorem len_actm : (actM zActM).length = 173 := by unfold actM zActM; simp [markV_length noMrk_ok]
instance : Inhabited ActM := ⟨zActM⟩
def ActsM (w : World) (A : Option Addr) (n : Nat) (l : List ActM) : Prop := l.length = n ∧ Sl w w.heap.size 173 A n (l.flatMap actM) ∧ ∀ a ∈ l, ActMOK w a
theorem fm_atm {α : Type} (f : α → List Value) (sz : Nat) : ∀ (l : List α) (k j : Nat) (x : α) (u : Value), (∀ y ∈ l, (f y).length = sz) → l[k]? = some x → (f x)[j]? = some u → (l.flatMap f)[k * sz + j]? = some u
  | [], k, j, x, u, _, hk, _ => by simp at hk
  | y :: l, 0, j, x, u, hl, hk, hu => by
    simp at hk; subst hk
    rw [List.flatMap_cons, Nat.zero_mul, Nat.zero_add, List.getElem?_append_left (List.getElem?_eq_some_iff.1 hu).1]; exact hu
  | y :: l, k + 1, j, x, u, hl, hk, hu => by
    have h1 := hl y (List.mem_cons_self ..)
    rw [List.flatMap_cons, List.getElem?_append_right (by rw [h1, Nat.add_mul]; omega), h1, show (k + 1) * sz + j - sz = k * sz + j by rw [Nat.add_mul]; omega]
    exact fm_atm f sz l k j x u (fun z hz => hl z (List.mem_cons_of_mem _ hz)) (by simpa using hk) hu
theorem ActsM.at_ {w : World} {A : Option Addr} {n : Nat} {l : List ActM} (h : ActsM w A n l) {k : Nat} (hk : k < n) : ∃ b off a, A = some ⟨b, off, none⟩ ∧ l[k]? = some a ∧ (∀ j u, (actM a)[j]? = some u → w.cell? ⟨b, off + k * 173 + j, none⟩ = some u) ∧ ActMOK w a := by
  obtain ⟨b, off, e, hb, hc⟩ := h.2.1.2 (by omega)
  have hl : k < l.length := by have := h.1; omega
  refine ⟨b, off, l[k], e, List.getElem?_eq_getElem hl, fun j u hu => ?_, h.2.2 _ (List.getElem_mem hl)⟩
  rw [Nat.add_assoc]
  exact hc _ u (fm_atm actM 173 l k j _ u (fun y hy => actM_len (h.2.2 y hy)) (List.getElem?_eq_getElem hl) hu)
section
variable {H : Type} {enc : TypeId × Value → H} {w : World} {r : Reach} {b0 base : Nat} {spare : Nat → Bool} {held : Bool}
theorem trod_certM {fuel : Nat} {cs : List Value} {y : DataW H × List MemPlace} (hl0 : cs.length = 137) (hf : DataW.trod enc Try.prog w base spare held fuel 36 cs = some y) :
    ∃ A n c, ∃ x : Cer, cs = certV (.slice A n c) x ∧ x.ok ∧ Ids w A n c x.path := by
  obtain ⟨xs, n, _, _, hl, hxs, hg⟩ := DataW.trod_struct Try.underlying36 hf
  replace hg := fun i f h => hg i f h
  have hxs5 : xs.length = 4 := hxs
  obtain ⟨y0, h0⟩ := got (hg 0 _ rfl) (by omega)
  obtain ⟨y1, h1⟩ := got (hg 1 _ rfl) (by omega)
  obtain ⟨y2, h2⟩ := got (hg 2 _ rfl) (by omega)
  obtain ⟨y3, h3⟩ := got (hg 3 _ rfl) (by omega)
  replace h0 : DataW.trod enc Try.prog w base spare held n 31 ((cs.drop 0).take (Try.prog.cellsOf 31)) = some y0 := h0
  replace h1 : DataW.trod enc Try.prog w base spare held n 32 ((cs.drop 37).take (Try.prog.cellsOf 32)) = some y1 := h1
  replace h2 : DataW.trod enc Try.prog w base spare held n 34 ((cs.drop 38).take (Try.prog.cellsOf 34)) = some y2 := h2
  replace h3 : DataW.trod enc Try.prog w base spare held n 28 ((cs.drop 105).take (Try.prog.cellsOf 28)) = some y3 := h3
  rw [cells_entry] at h0
  rw [cells_sid] at h1
  rw [cells_header] at h2
  rw [cells_id] at h3
  obtain ⟨xe, e0, k0⟩ := trod_ent (by rw [List.length_take, List.length_drop]; omega) h0
  obtain ⟨A, m, c, l, e1, l1, m1, x1, s1, k1, _⟩ := open_list0 (fun x : List UInt8 => x.map B) (fun x => x.length = 32) Try.underlying32 cells_id (show 0 < 32 by omega) (fun fuel cs y _ h => trod_bytes Try.underlying28 Try.underlying5 cells_u8 cells_id h) h1
  obtain ⟨xh, e2, k2⟩ := trod_hdr (by rw [List.length_take, List.length_drop]; omega) h2
  obtain ⟨d3, e3, l3⟩ := trod_bytes Try.underlying28 Try.underlying5 cells_u8 cells_id h3
  refine ⟨A, m, c, ⟨xe, l, xh, d3⟩, ?_, ⟨k0, k1, k2, l3⟩, ⟨s1, l1, k1, m1⟩⟩
  have a4 : cs.drop 137 = [] := List.drop_of_length_le (by omega)
  have a3 := cut_eq e3 a4
  have a2 := cut_eq e2 a3
  have a1 := cut_eq e1 a2
  have a0 := cut_eq e0 a1
  rw [List.drop_zero] at a0
  rw [a0]; simp [certV]
theorem trod_markM {fuel : Nat} {cs : List Value} {y : DataW H × List MemPlace} (hl0 : cs.length = 138) (hf : DataW.trod enc Try.prog w base spare held fuel 38 cs = some y) :
    ∃ (m : Mrk) (ds : List (List UInt8)), cs = markV m ∧ MrkW m ∧ PathAt w m ds := by
  obtain ⟨xs, n, _, _, hl, hxs, hg⟩ := DataW.trod_struct Try.underlying38 hf
  replace hg := fun i f h => hg i f h
  have hxs5 : xs.length = 2 := hxs
  obtain ⟨y0, h0⟩ := got (hg 0 _ rfl) (by omega)
  obtain ⟨y1, h1⟩ := got (hg 1 _ rfl) (by omega)
  replace h0 : DataW.trod enc Try.prog w base spare held n 36 ((cs.drop 0).take (Try.prog.cellsOf 36)) = some y0 := h0
  replace h1 : DataW.trod enc Try.prog w base spare held n 3 ((cs.drop 137).take (Try.prog.cellsOf 3)) = some y1 := h1
  rw [cells_cert] at h0
  rw [cells_int] at h1
  obtain ⟨A, m, c, x, e0, k0, i0⟩ := trod_certM (by rw [List.length_take, List.length_drop]; omega) h0
  obtain ⟨z1, e1, _, w1⟩ := DataW.trod_int Try.underlying3 h1
  refine ⟨⟨x.e, x.h, x.tag, z1, A, m, c⟩, x.path, ?_, ⟨k0.1, k0.2.2.1, k0.2.2.2, i64_of w1⟩, i0⟩
  have a2 : cs.drop 138 = [] := List.drop_of_length_le (by omega)
  have a1 := cut_eq e1 a2
  have a0 := cut_eq e0 a1
  rw [List.drop_zero] at a0
  rw [a0]; simp [markV, certV]
theorem trod_actm {fuel : Nat} {cs : List Value} {y : DataW H × List MemPlace} (hl0 : cs.length = 173) (hf : DataW.trod enc Try.prog w base spare held fuel 40 cs = some y) : ∃ a : ActM, cs = actM a ∧ ActMOK w a := by
  obtain ⟨xs, n, _, _, hl, hxs, hg⟩ := DataW.trod_struct Try.underlying40 hf
  replace hg := fun i f h => hg i f h
  have hxs5 : xs.length = 5 := hxs
  obtain ⟨y0, h0⟩ := got (hg 0 _ rfl) (by omega)
  obtain ⟨y1, h1⟩ := got (hg 1 _ rfl) (by omega)
  obtain ⟨y2, h2⟩ := got (hg 2 _ rfl) (by omega)
  obtain ⟨y3, h3⟩ := got (hg 3 _ rfl) (by omega)
  obtain ⟨y4, h4⟩ := got (hg 4 _ rfl) (by omega)
  replace h0 : DataW.trod enc Try.prog w base spare held n 3 ((cs.drop 0).take (Try.prog.cellsOf 3)) = some y0 := h0
  replace h1 : DataW.trod enc Try.prog w base spare held n 3 ((cs.drop 1).take (Try.prog.cellsOf 3)) = some y1 := h1
  replace h2 : DataW.trod enc Try.prog w base spare held n 3 ((cs.drop 2).take (Try.prog.cellsOf 3)) = some y2 := h2
  replace h3 : DataW.trod enc Try.prog w base spare held n 28 ((cs.drop 3).take (Try.prog.cellsOf 28)) = some y3 := h3
  replace h4 : DataW.trod enc Try.prog w base spare held n 38 ((cs.drop 35).take (Try.prog.cellsOf 38)) = some y4 := h4
  rw [cells_int] at h0
  rw [cells_int] at h1
  rw [cells_int] at h2
  rw [cells_id] at h3
  rw [cells_markm] at h4
  obtain ⟨z0, e0, _, w0⟩ := DataW.trod_int Try.underlying3 h0
  obtain ⟨z1, e1, _, w1⟩ := DataW.trod_int Try.underlying3 h1
  obtain ⟨z2, e2, _, w2⟩ := DataW.trod_int Try.underlying3 h2
  obtain ⟨d3, e3, l3⟩ := trod_bytes Try.underlying28 Try.underlying5 cells_u8 cells_id h3
  obtain ⟨m, ds, e4, k4, p4⟩ := trod_markM (by rw [List.length_take, List.length_drop]; omega) h4
  refine ⟨⟨z0, z1, z2, d3, m, ds⟩, ?_, i64_of w1, i64_of w2, l3, k4, p4⟩
  have a5 : cs.drop 173 = [] := List.drop_of_length_le (by omega)
  have a4 := cut_eq e4 a5
  have a3 := cut_eq e3 a4
  have a2 := cut_eq e2 a3
  have a1 := cut_eq e1 a2
  have a0 := cut_eq e0 a1
  rw [List.drop_zero] at a0
  rw [a0]; simp [actM]
theorem open_actm {v : Value} {d : DataW H} {ps : List MemPlace} (hval : Value.okWide Try.prog w r b0 22 v) (h : DataW.Trod enc Try.prog w base spare held 22 v d ps) :
    ∃ A n c, ∃ l : List ActM, v = .slice A n c ∧ ActsM w A n l ∧ n ≤ 9223372036854775807 := by
  obtain ⟨A, n, c, l, h1, h2, h3, h4, h5, h6, _⟩ := open_list actM (ActMOK w) Try.underlying22 cells_actm (show 0 < 173 by omega) (fun fuel cs y hl h => trod_actm hl h) hval h
  exact ⟨A, n, c, l, h1, ⟨h2, h5, h6⟩, by unfold maxLen at h4; omega⟩
end
end Go.Proofs.Ytofhohofaedokaa

/- Facts for the walk of MarksPlay: what a change of one map leaves, a mark of the document built, the state of a round. -/
namespace Go.Proofs.Ytofhohofaedokaa
open Go.RowKit
set_option linter.unusedVariables false
theorem map_ne {w : World} {q b : Nat} {es : Array MapEntry} {clock : Nat} {off : Nat} {v : Value} (hb : w.heap[b]? = some (.map es clock)) (h : w.cell? ⟨q, off, none⟩ = some v) : q ≠ b := by
  rintro rfl
  obtain ⟨o, h5, h6⟩ := cells_of_cell h
  rw [hb] at h5; cases h5; cases h6
theorem RowM.touched {w w' : World} {g b n : Nat} {A : Option Addr} {L l : MarksL} (hr : RowM w A n l) (hc : MarksAt w g b L) (ht : Touched [b] w w') : RowM w' A n l := by
  obtain ⟨es, clock, h3, _⟩ := hc.map
  refine ⟨⟨hr.1.1, fun hn => ?_⟩, hr.2⟩
  obtain ⟨q, off, hA, hq, hcell⟩ := hr.1.2 hn
  have hlen := hr.1.1
  obtain ⟨u, hu⟩ : ∃ u, (l.flatMap encAtM)[0]? = some u := ⟨_, List.getElem?_eq_getElem (by omega)⟩
  have hne := map_ne h3 (hcell 0 u hu)
  refine ⟨q, off, hA, Nat.lt_of_lt_of_le hq ht.size, fun j u hu => ?_⟩
  exact (World.cell?_of_block (w := w) (ht.block q hq (by simp; exact hne))).trans (hcell j u hu)
theorem At.touchM {w w' : World} {g b q n : Nat} {T : TypeId} {xs : List Value} {L : MarksL} (h : At w q T n xs) (hc : MarksAt w g b L) (ht : Touched [b] w w') : At w' q T n xs := by
  refine ⟨(ht.block q h.lt (by
    simp only [List.mem_cons, List.not_mem_nil, or_false]
    rintro rfl
    obtain ⟨es, clock, h3, _⟩ := hc.map
    have h2 := h.blk
    unfold Blk at h2
    rw [h3] at h2; cases h2)).trans h.blk, h.len⟩
theorem MarksAt.touched {w w' : World} {b g2 b2 : Nat} {L : MarksL} (h : MarksAt w g2 b2 L) (ht : Touched [b] w w') (h1 : g2 ≠ b) (h2 : b2 ≠ b) : MarksAt w' g2 b2 L := by
  have hg := h.ltg; have hb := h.ltb
  obtain ⟨q1, ⟨es, clock, q2, q3, q4⟩, q5, q6⟩ := h
  exact ⟨(ht.block g2 hg (by simp; exact h1)).trans q1, ⟨es, clock, (ht.block b2 hb (by simp; exact h2)).trans q2, q3, q4⟩, q5, q6⟩
theorem ht_belowM {w0 w w' : World} {b : Nat} (hb : Below w0.heap.size w0 w) (ht : Touched [b] w w') (h : w0.heap.size ≤ b) : Below w0.heap.size w0 w' :=
  hb.trans (ht.below (fun k hk => by
    simp only [List.mem_cons, List.not_mem_nil, or_false] at hk
    rw [hk]; exact h) hb.size)
theorem RelM.grow {w w' : World} {L l : MarksL} {XL X : XMk} (h : RelM w L l XL X) (k : Grow w w') : RelM w' L l XL X := h.mono fun m ds hp => hp.grow k
theorem RelM.touched {w w' : World} {g b : Nat} {L l L1 : MarksL} {XL X : XMk} (h : RelM w L l XL X) (hc : MarksAt w g b L1) (ht : Touched [b] w w') : RelM w' L l XL X := by
  obtain ⟨es, clock, h3, _⟩ := hc.map
  exact h.mono fun m ds hp => hp.touch h3 ht
theorem PathAt.touched {w w' : World} {g b : Nat} {L1 : MarksL} {m : Mrk} {ds : List (List UInt8)} (h : PathAt w m ds) (hc : MarksAt w g b L1) (ht : Touched [b] w w') : PathAt w' m ds := by
  obtain ⟨es, clock, h3, _⟩ := hc.map
  exact h.touch h3 ht
/-- Behind a Put on both sides. -/
theorem putM_after {w' : World} {g b : Nat} {L l : MarksL} {XL X : XMk} {p : MKey} {m : Mrk} {ds : List (List UInt8)} (hr : RelM w' L l XL X) (hd : PathAt w' m ds)
    (h1 : putM L p m = 0 → ∃ A c, MarksAt w' g b (L ++ [(p, m.at A c)]) ∧ PathAt w' (m.at A c) ds) (h2 : putM L p m ≠ 0 → MarksAt w' g b L) : ∃ L' XL' X', MarksAt w' g b L' ∧ RelM w' L' (putL l (p, m)) XL' X' := by
  have hc := hr.code p m
  unfold putL
  by_cases h0 : putM L p m = 0
  · obtain ⟨A, c, q1, q2⟩ := h1 h0
    rw [if_pos (by rw [← hc]; exact h0)]
    exact ⟨_, _, _, q1, hr.put hd q2 h0⟩
  · rw [if_neg (by show ¬ putM l p m = 0; rw [← hc]; exact h0)]
    exact ⟨L, XL, X, h2 h0, hr⟩
def PlayM (w0 w : World) (v3 v4 : Value) : Prop := ∃ g b L l XL X A m c, v3 = .pointer (some ⟨g, 0, none⟩) ∧ v4 = .slice A m c ∧ MarksAt w g b L ∧ RelM w L l XL X ∧ RowM w A m l ∧ (w0.heap.size ≤ g ∧ w0.heap.size ≤ b) ∧ Below w0.heap.size w0 w
theorem PlayM.grow {w0 w w' : World} {v3 v4 : Value} (h : PlayM w0 w v3 v4) (k : Below w.heap.size w w') : PlayM w0 w' v3 v4 := by
  obtain ⟨g, b, L, l, XL, X, A, m, c, h1, h2, h3, h4, h5, h6, h7⟩ := h
  exact ⟨g, b, L, l, XL, X, A, m, c, h1, h2, h3.call k, h4.grow k, h5.grow k, h6, h7.grow' k⟩
theorem built_at0 (parts : List (Nat × Value)) : Try.prog.built 44 parts = Instr.fill (fun i => (#[(0, 1), (1, 32), (33, 138)] : Array (Nat × Nat))[i]?) (encAtM ((0, List.replicate 32 0), noMrk)).toArray parts := by kernel_rfl
theorem built_at {p : MKey} {m : Mrk} (hp : p.2.length = 32) (hm : m.ok) : Try.prog.built 44 [(0, .int .i64 p.1), (1, .agg (p.2.map B).toArray), (2, .agg (markV m).toArray)] = some (encAtM (p, m)).toArray := by
  rw [built_at0]
  obtain ⟨Z, hZ⟩ : ∃ q, q = encAtM ((0, List.replicate 32 0), noMrk) := ⟨_, rfl⟩
  have l0 : Z.length = 171 := by rw [hZ]; exact encAtM_len ⟨by simp [MKOK, I64], noMrk_ok⟩
  rw [← hZ]
  clear hZ
  have l1 : (p.2.map B).length = 32 := by rw [List.length_map, hp]
  have l2 := markV_length hm
  have s1 : (splice Z 0 [Value.int .i64 p.1]).length = 171 := by unfold splice; simp [l0]
  have s2 : (splice (splice Z 0 [Value.int .i64 p.1]) 1 (p.2.map B)).length = 171 := by
    obtain ⟨Y, hY⟩ : ∃ q, q = splice Z 0 [Value.int .i64 p.1] := ⟨_, rfl⟩
    rw [← hY] at s1 ⊢
    unfold splice; simp [s1, hp]
  rw [fill_cons (off := 0) (s := 1) (cs := [.int .i64 p.1]) rfl rfl rfl (by omega), fill_cons (off := 1) (s := 32) (cs := p.2.map B) rfl rfl l1 (by omega), fill_cons (off := 33) (s := 138) (cs := markV m) rfl rfl l2 (by omega), fill_nil]
  refine congrArg (fun l : List Value => some l.toArray) (List.ext_getElem? fun k => ?_)
  rw [splice_get _ _ _ _ (by omega), splice_get _ _ _ _ (by omega), splice_get _ _ _ _ (by show 0 + 1 ≤ Z.length; omega), l1, l2]
  show _ = ((.int .i64 p.1 :: p.2.map B) ++ markV m)[k]?
  by_cases h0 : k < 1
  · obtain rfl : k = 0 := by omega
    simp
  · by_cases h1 : k < 33
    · rw [if_neg (by omega), if_pos (by omega), List.getElem?_append_left (by rw [List.length_cons]; omega), show k = (k - 1) + 1 by omega, List.getElem?_cons_succ]; rfl
    · by_cases h2 : k < 171
      · rw [if_pos (by omega), List.getElem?_append_right (by rw [List.length_cons]; omega), List.length_cons, l1]
      · rw [if_neg (by omega), if_neg (by omega), if_neg (by simp; omega), List.getElem?_eq_none (by omega), List.getElem?_eq_none (by rw [List.length_append, List.length_cons]; omega)]
def id99 : List UInt8 := 99 :: List.replicate 31 0
theorem bt99 : Try.prog.built 28 [(0, .int .u8 99)] = some (id99.map B).toArray := by kernel_rfl
theorem mk99 : MKOK (0, id99) := by simp [MKOK, I64, id99]
theorem putM_some (L : MarksL) : ∃ r : Int, putM L (0, id99) (someM 7) = r := ⟨_, rfl⟩
theorem some7_ok : (someM 7).ok := someM_ok (by simp [I64])
theorem getD_okM {L : MarksL} {p : MKey} (h : ∀ e ∈ L, e.2.ok) : ((lookM L p).getD noMrk).ok := by
  cases hl : lookM L p with
  | none => exact noMrk_ok
  | some m => exact h _ (lookM_in hl)
end Go.Proofs.Ytofhohofaedokaa

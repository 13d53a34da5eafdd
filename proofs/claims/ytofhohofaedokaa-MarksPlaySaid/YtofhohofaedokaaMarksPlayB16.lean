/- The document's marks: Get. -/
import Derived.Test.YtofhohofaedokaaMarksPlayB15
import Derived.Deep.CutBlock
import Derived.Test.YtofhohofaedokaaMarksPlayB1
import Derived.Test.YtofhohofaedokaaChecked
import Derived.Shelf.SlMaps.Clone
import Derived.Test.YtofhohofaedokaaMarksPlayB7
import Derived.Test.YtofhohofaedokaaMarksPlayB6
import Derived.Test.YtofhohofaedokaaMarksPlayB13
set_option linter.unusedSimpArgs false
/- The document's marks: Get. -/
namespace Go.Proofs.Ytofhohofaedokaa
open Go.RowKit
set_option linter.unusedVariables false
theorem lookM_first {l : MarksL} {p : MKey} {k : Nat} {e : MKey × Mrk} (he : l[k]? = some e) (hp : e.1 = p) (hn : ∀ x ∈ l.take k, x.1 ≠ p) : lookM l p = some e.2 := by
  have h1 : l = l.take k ++ e :: l.drop (k + 1) := by
    have hk := (List.getElem?_eq_some_iff.1 he).1
    have h2 := List.take_append_drop k l
    rw [List.drop_eq_getElem_cons hk, (List.getElem?_eq_some_iff.1 he).2] at h2
    exact h2.symm
  unfold lookM
  rw [h1, List.find?_append, List.find?_eq_none.2 (fun x hx => by simpa using hn x hx), List.find?_cons_of_pos (by simpa using hp)]
  rfl
theorem lookM_not {l : MarksL} {p : MKey} (hn : ∀ x ∈ l, x.1 ≠ p) : lookM l p = none := by
  unfold lookM
  rw [List.find?_eq_none.2 (fun e he => by simpa using hn e he)]; rfl
theorem fmM_len : ∀ {Y : MarksL}, (∀ e ∈ Y, AtOKM e) → (Y.flatMap encAtM).length = Y.length * 171
  | [], _ => rfl
  | e :: Y, h => by rw [List.flatMap_cons, List.length_append, encAtM_len (h e (List.mem_cons_self ..)), fmM_len (fun x hx => h x (List.mem_cons_of_mem _ hx)), List.length_cons]; omega
theorem fmM_at {Y : MarksL} (h : ∀ e ∈ Y, AtOKM e) {k : Nat} {e : MKey × Mrk} (he : Y[k]? = some e) {j : Nat} {u : Value} (hu : (encAtM e)[j]? = some u) : (Y.flatMap encAtM)[k * 171 + j]? = some u := by
  have hk := (List.getElem?_eq_some_iff.1 he).1
  have e1 : Y.flatMap encAtM = (Y.take k).flatMap encAtM ++ (encAtM e ++ (Y.drop (k + 1)).flatMap encAtM) := by
    have h2 := List.take_append_drop k Y
    rw [List.drop_eq_getElem_cons hk, (List.getElem?_eq_some_iff.1 he).2] at h2
    conv => lhs; rw [← h2]
    rw [List.flatMap_append, List.flatMap_cons]
  have l1 : ((Y.take k).flatMap encAtM).length = k * 171 := by rw [fmM_len (fun x hx => h x (List.mem_of_mem_take hx)), List.length_take, Nat.min_eq_left (by omega)]
  rw [e1, List.getElem?_append_right (by omega), l1, show k * 171 + j - k * 171 = j by omega, List.getElem?_append_left (List.getElem?_eq_some_iff.1 hu).1]
  exact hu
theorem RowM.at_ {w : World} {A : Option Addr} {n : Nat} {l : MarksL} (h : RowM w A n l) {k : Nat} (hk : k < n) :
    ∃ b off e, A = some ⟨b, off, none⟩ ∧ b < w.heap.size ∧ l[k]? = some e ∧ AtOKM e ∧ ∀ j u, (encAtM e)[j]? = some u → w.cell? ⟨b, off + k * 171 + j, none⟩ = some u := by
  obtain ⟨hs, ho, hl⟩ := h
  obtain ⟨b, off, e, hb, hc⟩ := hs.2 (by omega)
  have hk' : k < l.length := by omega
  have he : l[k]? = some l[k] := List.getElem?_eq_getElem hk'
  refine ⟨b, off, l[k], e, hb, he, ho _ (List.getElem_mem _), fun j u hu => ?_⟩
  rw [Nat.add_assoc]
  exact hc _ u (fmM_at ho he hu)
theorem built_mark0 : Try.prog.built 38 [] = some (markV noMrk).toArray := by kernel_rfl
set_option maxRecDepth 100000 in
set_option maxHeartbeats 4000000 in
theorem rget20_any {A : Option Addr} {n c : Nat} {l : MarksL} (p : MKey) (w : World) (h : RowM w A n l) (hp : MKOK p) (hn : n ≤ 1000000) :
    Calls Try.prog 12 #[.slice A n c, .int .i64 p.1, .agg (p.2.map B).toArray] w fun e w' => e = .returned (.tuple #[markA ((lookM l p).getD noMrk), .bool (lookM l p).isSome]) ∧ Below w.heap.size w w' := by
  have HH := Lib.hid h; have HP := Lib.hid hp; have HN := Lib.hid hn
  have HIC := Lib.hid (show Cl 32 (p.2.map B) from ⟨by rw [List.length_map, hp.2], all_bytes _⟩)
  have HNC := Lib.hid (mark_cl noMrk_ok)
  have HZM := Lib.hid zero_mark
  have HBT := Lib.hid built_mark0
  obtain ⟨res, hres⟩ : ∃ q, q = (lookM l p).getD noMrk := ⟨_, rfl⟩
  obtain ⟨rb, hrb⟩ : ∃ q, q = (lookM l p).isSome := ⟨_, rfl⟩
  rw [← hres, ← hrb]
  have HRES := Lib.hid hres; have HRB := Lib.hid hrb
  obtain ⟨xs, hxs⟩ : ∃ q, q = p.2.map B := ⟨_, rfl⟩
  have HXE := Lib.hid hxs
  rw [← hxs] at HIC ⊢
  obtain ⟨pt, hpt⟩ : ∃ q, q = p.1 := ⟨_, rfl⟩
  have HPT := Lib.hid hpt
  rw [← hpt]
  obtain ⟨nv, hnv⟩ : ∃ q, q = markV noMrk := ⟨_, rfl⟩
  have HNV := Lib.hid hnv
  rw [← hnv] at HNC HZM HBT
  clear h hp hn hres hrb hxs hpt hnv
  obtain ⟨w_, hw⟩ : ∃ x, x = w := ⟨_, rfl⟩
  have HB := Lib.hid (show Below w.heap.size w w_ by rw [hw]; exact Below.refl _ _)
  suffices H : Calls Try.prog 12 #[.slice A n c, .int .i64 pt, .agg xs.toArray] w_ fun e w' => e = .returned (.tuple #[markA res, .bool rb]) ∧ Below w.heap.size w w' by rw [hw] at H; exact H
  clear hw
  unfold markA
  go_enter Try.func12, Try.ntmps12
  go_wp2_with (first | (with_reducible refine wpl_box (o := ⟨some 5, _, _, _, _, _⟩) rfl rfl rfl ?_))
  intro w2_ hb2_ hb_ hsz2_
  have HX_ := Lib.hid (at_mk hb2_ HIC.out.len)
  clear hb2_ hsz2_
  have HG_ := Lib.hid HB.out.size
  have HB_ := Lib.hid (HB.out.grow' hb_)
  clear HB
  have HB := HB_
  clear HB_
  generalize hg_ : w_.heap.size = g5 at HX_ HG_ ⊢
  clear hg_
  have HI_g := HG_
  clear HG_
  have HI := HX_
  clear hb_ HX_
  try clear w_
  rename World => w_
  go_wp2_with (first | (with_reducible refine wpl_alloc (o := ⟨some 6, _, _, _, _, _⟩) rfl rfl HZM.out ?_))
  intro w2_ hb2_ hb_ hsz2_
  have HR := Lib.hid (at_mk hb2_ HNC.out.len)
  have HRG := Lib.hid HB.out.size
  generalize hg_ : w_.heap.size = g6 at HR HRG ⊢
  clear hb2_ hsz2_ hg_
  have hb_ := hb_
  clear hb_
  have HB_ := Lib.hid (HB.out.grow' hb_)
  clear HB
  have HB := HB_
  clear HB_
  have HI_ := Lib.hid (HI.out.grow hb_)
  clear HI
  have HI := HI_
  clear HI_
  clear hb_
  try clear w_
  rename World => w_
  go_wp2_with fail
  go_loopw [8] (fun s8 wr => ∃ k : Nat, s8 = .int .i64 k ∧ k ≤ n ∧ Hid (∀ x ∈ l.take k, x.1 ≠ p) ∧ Hid (At wr g5 28 32 xs) ∧ Hid (At wr g6 38 138 nv) ∧ Hid (Below w.heap.size w wr)) (fun s8 _ => n - (intOf s8).toNat)
  case atStart => exact ⟨0, rfl, Nat.zero_le _, Lib.hid (by simp), HI, HR, HB⟩
  case round =>
    obtain ⟨k, rfl, hk, hT, hI, hR, hB⟩ := hrel
    clear HI HR HB
    have HT := hT; have HI := hI; have HR := hR; have HB := hB
    clear hT hI hR hB
    rename World => w_
    by_cases hlt : k < n
    · have HROW := Lib.hid (HH.out.grow HB.out)
      obtain ⟨b, off, e, hA, hbl, he, hok, hc⟩ := HROW.out.at_ hlt
      subst hA
      have HE := Lib.hid he; have HOK := Lib.hid hok
      have HBL := Lib.hid (HH.out.1.2 (by omega))
      obtain ⟨b', off', e', hb', _⟩ := HBL.out
      cases e'
      have HBB := Lib.hid hb'
      have HCE := Lib.hid (show ∀ w', Below w.heap.size w w' → ∀ j u, (encAtM e)[j]? = some u → w'.cell? ⟨b, off + k * 171 + j, none⟩ = some u from fun w' hB j u hu => by
        have h1 := (HH.out.grow hB).at_ hlt
        obtain ⟨b2, off2, e2, hA2, _, he2, _, hc2⟩ := h1
        cases hA2
        have : e2 = e := by rw [HE.out] at he2; exact (Option.some.inj he2).symm
        subst this
        exact hc2 j u hu)
      have HQ := Lib.hid (fun w => eql_ids e.1.2 p.2 hok.1.2 HP.out.2 w)
      rw [← HXE.out] at HQ
      have LE := Lib.hid (show (e.1.2.map B).length = 32 by rw [List.length_map, hok.1.2])
      have MI := Lib.hid (show ∀ w', Below w.heap.size w w' → ∀ j u, (e.1.2.map B)[j]? = some u → w'.cell? ⟨b, off + k * 171 + 1 + j, none⟩ = some u from fun w' hB j u hu => by
        have := HCE.out w' hB (1 + j) u (encAtM_id hok hu); rwa [← Nat.add_assoc] at this)
      have HCP := Lib.hid (show ∀ w', Below w.heap.size w w' → w'.cell? ⟨b, off + k * 171, none⟩ = some (.int .i64 e.1.1) from fun w' hB => by
        have := HCE.out w' hB 0 _ (encAtM_part e); exact this)
      obtain ⟨ep, hep⟩ : ∃ q, q = e.1.1 := ⟨_, rfl⟩
      rw [← hep] at HCP
      have HEP := Lib.hid hep
      obtain ⟨ys, hys⟩ : ∃ q, q = e.1.2.map B := ⟨_, rfl⟩
      rw [← hys] at HQ LE MI
      obtain ⟨rq, hrq⟩ : ∃ q, q = (e.1.2 == p.2) := ⟨_, rfl⟩
      rw [← hrq] at HQ
      have HRQ := Lib.hid hrq
      have v1 : IntKind.i64.wrap ((k : Int) + 1) = (k : Int) + 1 := IntWalk.i64_in _ (by have := HN.out; omega)
      have HV1 := Lib.hid v1
      clear he hok hc hep hys hrq v1 hb' hbl HBL
      obtain ⟨eq, heq⟩ : ∃ q, q = (decide (ep = pt) && rq) := ⟨_, rfl⟩
      have HEQ := Lib.hid heq
      clear heq
      go_upto_region 4 with fail
      go_cut [30] from 31 to 35 (fun s30 wr => s30 = .bool eq ∧ Hid (At wr g5 28 32 xs) ∧ Hid (At wr g6 38 138 nv) ∧ Hid (Below w.heap.size w wr))
      case first =>
        by_cases hp1 : ep = pt
        · have z1 : (ep == pt) = true := by simpa using hp1
          have HR2 := Lib.hid (show eq = rq by rw [HEQ.out]; simp [hp1])
          clear hp1
          try go_wp2_with fail
          repeat' (first | (with_reducible refine wp_plan (id := 4) Grow [0,0,0,0,2,0,0,0,0,0,0,0,2,2,0,0] (.get 0 (.get 1 (.get 2 (.get 3 (.get 4 (.get 5 (.get 6 (.get 7 (.get 8 (.get 9 (.get 10 (.get 11 (.get 12 (.get 13 (.get 14 (.get 15 .done)))))))))))))))) (by kernel_rfl) (by kernel_rfl) Grow.refl Grow.trans ?_) | go_values | go_skip | go_guarded | go_step | go_upon | go_back)
          intro w_ hd_
          have hb_ := hd_.grow
          have HB_ := Lib.hid (HB.out.grow' hb_)
          clear HB
          have HB := HB_
          clear HB_
          have HI_ := Lib.hid (HI.out.grow hb_)
          clear HI
          have HI := HI_
          clear HI_
          have HR_ := Lib.hid (HR.out.grow hb_)
          clear HR
          have HR := HR_
          clear HR_
          clear hb_ hd_
          have c1 := HCP.out _ HB.out
          have MI_ := Lib.hid (MI.out _ HB.out)
          repeat (first | (refine pl_calm rfl rfl (by first | exact wanted_none rfl | (go_simp; done) | rfl) (fun w_ => by first | (go_simp; rfl) | (go_simp; done) | rfl) (fun K hK => ?_); go_simp; refine hK _ _ ?_; clear hK K) | (refine pl_skip rfl (by first | (go_simp; done) | rfl) (fun K hK => ?_); go_simp; refine hK _ _ ?_; clear hK K) | (refine pl_skipa rfl (by first | (go_simp; done) | rfl) (fun K hK => ?_); go_simp; refine hK _ _ ?_; clear hK K) | (refine pl_load rfl rfl (by first | exact wanted_none rfl | (go_simp; done) | rfl) rfl (by first | rfl | (go_simp; rfl)) (by kernel_rfl) (by first | exact c1) (fun K hK => ?_); go_simp; refine hK _ _ ?_; clear hK K) | (refine pl_loadnow rfl rfl (by first | exact wanted_none rfl | (go_simp; done) | rfl) rfl (by first | rfl | (go_simp; rfl)) (by kernel_rfl) (by first | exact c1) (fun K hK => ?_); go_simp; refine hK _ _ ?_; clear hK K))
          refine pl_loadm rfl (by decide) (by first | exact wanted_none rfl | (go_simp; done) | fail) rfl row_aid MI_.out (Nat.lt_of_lt_of_le HBB.out HB.out.size) (by first | rfl | (go_simp; done) | rfl) LE.out (fun K hK => ?_)
          go_simp
          refine hK _ _ ?_
          clear hK K
          iterate 1 (first | (refine pl_calm rfl rfl (by first | exact wanted_none rfl | (go_simp; done) | rfl) (fun w_ => by first | (go_simp; rfl) | (go_simp; done) | rfl) (fun K hK => ?_); go_simp; refine hK _ _ ?_; clear hK K) | (refine pl_skip rfl (by first | (go_simp; done) | rfl) (fun K hK => ?_); go_simp; refine hK _ _ ?_; clear hK K) | (refine pl_skipa rfl (by first | (go_simp; done) | rfl) (fun K hK => ?_); go_simp; refine hK _ _ ?_; clear hK K) | (refine pl_loadb rfl rfl (by first | exact wanted_none rfl | (go_simp; done) | rfl) rfl row_aid HI.out.blk (by first | rfl | (go_simp; done) | rfl) HI.out.len (fun K hK => ?_); go_simp; refine hK _ _ ?_; clear hK K) | (refine pl_loadbnow rfl rfl (by first | exact wanted_none rfl | (go_simp; done) | rfl) rfl row_aid HI.out.blk (by first | rfl | (go_simp; done) | rfl) HI.out.len (fun K hK => ?_); go_simp; refine hK _ _ ?_; clear hK K))
          have heq := HQ.out
          repeat (first | (refine pl_calm rfl rfl (by first | exact wanted_none rfl | (go_simp; done) | rfl) (fun w_ => by first | (go_simp; rfl) | (go_simp; done) | rfl) (fun K hK => ?_); go_simp; refine hK _ _ ?_; clear hK K) | (refine pl_skip rfl (by first | (go_simp; done) | rfl) (fun K hK => ?_); go_simp; refine hK _ _ ?_; clear hK K) | (refine pl_skipa rfl (by first | (go_simp; done) | rfl) (fun K hK => ?_); go_simp; refine hK _ _ ?_; clear hK K))
          refine pl_done ?_
          clear heq c1
          go_wp2_with fail
          go_meet
          case rel => exact ⟨by rw [HR2.out], HI, HR, HB⟩
        · have z1 : (ep == pt) = false := by simpa using hp1
          have HR2 := Lib.hid (show eq = false by rw [HEQ.out]; simp [hp1])
          clear hp1
          try go_wp2_with fail
          repeat' (first | (with_reducible refine wp_plan (id := 4) Grow [0,0,0,0,2,0,0,0,0,0,0,0,2,2,0,0] (.get 0 (.get 1 (.get 2 (.get 3 (.get 4 (.get 5 (.get 6 (.get 7 (.get 8 (.get 9 (.get 10 (.get 11 (.get 12 (.get 13 (.get 14 (.get 15 .done)))))))))))))))) (by kernel_rfl) (by kernel_rfl) Grow.refl Grow.trans ?_) | go_values | go_skip | go_guarded | go_step | go_upon | go_back)
          intro w_ hd_
          have hb_ := hd_.grow
          have HB_ := Lib.hid (HB.out.grow' hb_)
          clear HB
          have HB := HB_
          clear HB_
          have HI_ := Lib.hid (HI.out.grow hb_)
          clear HI
          have HI := HI_
          clear HI_
          have HR_ := Lib.hid (HR.out.grow hb_)
          clear HR
          have HR := HR_
          clear HR_
          clear hb_ hd_
          have c1 := HCP.out _ HB.out
          repeat (first | (refine pl_calm rfl rfl (by first | exact wanted_none rfl | (go_simp; done) | rfl) (fun w_ => by first | (go_simp; rfl) | (go_simp; done) | rfl) (fun K hK => ?_); go_simp; refine hK _ _ ?_; clear hK K) | (refine pl_skip rfl (by first | (go_simp; done) | rfl) (fun K hK => ?_); go_simp; refine hK _ _ ?_; clear hK K) | (refine pl_skipa rfl (by first | (go_simp; done) | rfl) (fun K hK => ?_); go_simp; refine hK _ _ ?_; clear hK K) | (refine pl_load rfl rfl (by first | exact wanted_none rfl | (go_simp; done) | rfl) rfl (by first | rfl | (go_simp; rfl)) (by kernel_rfl) (by first | exact c1) (fun K hK => ?_); go_simp; refine hK _ _ ?_; clear hK K) | (refine pl_loadnow rfl rfl (by first | exact wanted_none rfl | (go_simp; done) | rfl) rfl (by first | rfl | (go_simp; rfl)) (by kernel_rfl) (by first | exact c1) (fun K hK => ?_); go_simp; refine hK _ _ ?_; clear hK K))
          refine pl_done ?_
          clear c1
          go_wp2_with fail
          go_meet
          case rel => exact ⟨by rw [HR2.out], HI, HR, HB⟩
      case rest =>
        obtain ⟨rfl, hI, hR, hB⟩ := hcut
        clear HI HR HB
        have HI := hI; have HR := hR; have HB := hB
        clear hI hR hB
        rename World => w_
        cases eq with
        | false =>
          have HT2 := Lib.hid (show ∀ x ∈ l.take (k + 1), x.1 ≠ p from fun x hx => by
            rw [List.take_add_one, HE.out] at hx
            rcases List.mem_append.1 hx with hx | hx
            · exact HT.out x hx
            · have : x = e := by simpa using hx
              rw [this]
              intro h
              have h1 := HEQ.out
              rw [HEP.out, HPT.out, HRQ.out, h] at h1
              simp at h1)
          have v1 := HV1.out
          go_wp2_with fail
          go_roundw
          all_goals clear v1
          case rel => exact ⟨k + 1, by go_num, hlt, HT2, HI, HR, HB⟩
          case measure => simp [intOf]; omega
        | true =>
          have HKE := Lib.hid (show e.1 = p by
            have h1 := HEQ.out
            rw [HEP.out, HPT.out, HRQ.out] at h1
            simp at h1
            exact Prod.ext h1.1 h1.2)
          have HLC := Lib.hid (lookM_first HE.out HKE.out HT.out)
          have HRE := Lib.hid (show res = e.2 by rw [HRES.out, HLC.out]; rfl)
          have HRB2 := Lib.hid (show rb = true by rw [HRB.out, HLC.out]; rfl)
          have HEC := Lib.hid (mark_cl HOK.out.2)
          have MM := Lib.hid (show ∀ j u, (markV e.2)[j]? = some u → w_.cell? ⟨b, off + k * 171 + 33 + j, none⟩ = some u from fun j u hu => by
            have := HCE.out _ HB.out (33 + j) u (encAtM_mark HOK.out hu); rwa [← Nat.add_assoc] at this)
          obtain ⟨ms, hms⟩ : ∃ q, q = markV e.2 := ⟨_, rfl⟩
          rw [← hms] at HEC MM
          have HMS := Lib.hid hms
          clear hms
          go_wp2_with (first | (with_reducible refine wpl_loadm (o := ⟨some 35, _, _, _, _, _⟩) rfl rfl row_mark MM.out rfl HEC.out.len ?_) | (with_reducible refine wpl_storeb (o := ⟨none, .store _ _ _, _, _, _, _⟩) rfl rfl row_mark HR.out.blk rfl rfl HR.out.len HEC.out.len HEC.out.one ?_))
          intro w2_ hb2_ hg2_ hsz2_
          have HR_ := Lib.hid hb2_
          have HB_ := Lib.hid (put_below HB.out HRG.out hg2_)
          clear hb2_ hg2_ hsz2_
          go_wp2_with fail
          refine ret_cell_tmp rfl row_mark HR_.out rfl HEC.out.len rfl rfl ?_
          exact ⟨(by rw [HRE.out, HRB2.out, HMS.out]; rfl), HB_.out⟩
    · obtain rfl : k = n := by omega
      have HLC := Lib.hid (lookM_not (l := l) (p := p) (by have h1 := HT.out; rw [List.take_of_length_le (by rw [HH.out.2.2]; exact Nat.le_refl _)] at h1; exact h1))
      have HRE := Lib.hid (show res = noMrk by rw [HRES.out, HLC.out]; rfl)
      have HRB2 := Lib.hid (show rb = false by rw [HRB.out, HLC.out]; rfl)
      go_wp2_with (first | (with_reducible refine wpl_stop (o := ⟨some 36, _, _, _, _, _⟩) ?_))
      refine stop_go ?_
      refine wpl_build rfl rfl HBT.out ?_
      go_wp2_with (first | (with_reducible refine wpl_storeb (o := ⟨none, .store _ _ _, _, _, _, _⟩) rfl rfl row_mark HR.out.blk rfl rfl HR.out.len HNC.out.len HNC.out.one ?_))
      intro w2_ hb2_ hg2_ hsz2_
      have HR_ := Lib.hid hb2_
      have HB_ := Lib.hid (put_below HB.out HRG.out hg2_)
      clear hb2_ hg2_ hsz2_
      go_wp2_with fail
      refine ret_cell_tmp rfl row_mark HR_.out rfl HNC.out.len rfl rfl ?_
      exact ⟨(by rw [HRE.out, HRB2.out, HNV.out]; rfl), HB_.out⟩
end Go.Proofs.Ytofhohofaedokaa

/- The document's marks: Prune. -/
namespace Go.Proofs.Ytofhohofaedokaa
open Go.RowKit
set_option linter.unusedVariables false
/-- A row of the call's own of marks. -/
def OwnM (w : World) (base : Nat) (A : Option Addr) (n c : Nat) (Y : MarksL) : Prop := w.ownsRow base 44 171 (.slice A n c) n (Y.flatMap encAtM) ∧ ∀ e ∈ Y, AtOKM e
theorem OwnM.len {w : World} {base n c : Nat} {A : Option Addr} {Y : MarksL} (h : OwnM w base A n c Y) : Y.length = n := by have h1 := h.1.1; rw [fmM_len h.2] at h1; omega
theorem OwnM.row {w : World} {base n c : Nat} {A : Option Addr} {Y : MarksL} (h : OwnM w base A n c Y) : RowM w A n Y := ⟨Sl.of_own h.1, h.2, h.len⟩
theorem OwnM.nil (w : World) (base : Nat) : OwnM w base none 0 0 [] := ⟨⟨by simp, .inl ⟨rfl, rfl⟩⟩, by simp⟩
theorem OwnM.grow {w w' : World} {base n c : Nat} {A : Option Addr} {Y : MarksL} (h : OwnM w base A n c Y) (k : Grow w w') : OwnM w' base A n c Y := ⟨own_below h.1 k, h.2⟩
theorem OwnM.snoc {w' : World} {base n c' : Nat} {A' : Option Addr} {Y : MarksL} {e : MKey × Mrk} (ho : w'.ownsRow base 44 171 (.slice A' (n + 1) c') (n + 1) (Y.flatMap encAtM ++ encAtM e)) (hy : ∀ e ∈ Y, AtOKM e) (he : AtOKM e) : OwnM w' base A' (n + 1) c' (Y ++ [e]) :=
  ⟨by rw [List.flatMap_append, List.flatMap_cons, List.flatMap_nil, List.append_nil]; exact ho, fun x hx => by
    rcases List.mem_append.1 hx with hx | hx
    · exact hy x hx
    · rw [List.mem_singleton] at hx; subst hx; exact he⟩
theorem kept_snoc {ep : Int} {l : MarksL} {k : Nat} {e : MKey × Mrk} (h : l[k]? = some e) : keptM ep (l.take (k + 1)) = keptM ep (l.take k) ++ (if oldB e.2.expiry ep then [] else [e]) := by
  unfold keptM
  rw [List.take_add_one, h]
  simp only [Option.toList_some, List.filter_append]
  congr 1
  cases ho : oldB e.2.expiry ep <;> simp [isOldM, ho]
theorem own_below_g {w0 w w' : World} {base n c sz : Nat} {A : Option Addr} {e : TypeId} {xs : List Value} (ho : w.ownsRow base e sz (.slice A n c) n xs) (hb : Below w0.heap.size w0 w) (hg : w.grownBy w' (A.map Addr.block)) (h0 : w0.heap.size ≤ base) : Below w0.heap.size w0 w' :=
  below_grown hb hg hb.size (fun q hq => Nat.le_trans h0 (own_from ho q hq))
set_option maxRecDepth 100000 in
set_option maxHeartbeats 4000000 in
theorem rprune20_any {A : Option Addr} {n c : Nat} {l : MarksL} (ep : Int) (w : World) (h : RowM w A n l) (hn : n ≤ 1000000) (hep : I64 ep) :
    Calls Try.prog 8 #[.slice A n c, .int .i64 ep] w fun e w' => ∃ A' m c', e = .returned (.slice A' m c') ∧ RowM w' A' m (keptM ep l) ∧ Below w.heap.size w w' := by
  have HH := Lib.hid h; have HN := Lib.hid hn; have HEP := Lib.hid hep
  clear h hn hep
  obtain ⟨w_, hw⟩ : ∃ x, x = w := ⟨_, rfl⟩
  have HB := Lib.hid (show Below w.heap.size w w_ by rw [hw]; exact Below.refl _ _)
  suffices H : Calls Try.prog 8 #[.slice A n c, .int .i64 ep] w_ fun e w' => ∃ A' m c', e = .returned (.slice A' m c') ∧ RowM w' A' m (keptM ep l) ∧ Below w.heap.size w w' by rw [hw] at H; exact H
  clear hw
  go_enter Try.func8, Try.ntmps8
  go_wp2_with fail
  go_loopw [5, 6] (fun s5 s6 wr => ∃ (k m : Nat) (A3 : Option Addr) (c3 : Nat), s5 = .slice A3 m c3 ∧ s6 = .int .i64 k ∧ k ≤ n ∧ m ≤ k ∧ Hid (OwnM wr w.heap.size A3 m c3 (keptM ep (l.take k))) ∧ Hid (Below w.heap.size w wr)) (fun _ s6 _ => n - (intOf s6).toNat)
  case atStart => exact ⟨0, 0, none, 0, rfl, rfl, Nat.zero_le _, Nat.le_refl _, Lib.hid (by rw [List.take_zero]; exact OwnM.nil _ _), HB⟩
  case round =>
    obtain ⟨k, m, A3, c3, rfl, rfl, hk, hmk, hO, hB⟩ := hrel
    clear HB
    have HO := hO; have HB := hB
    clear hO hB
    rename World => w_
    by_cases hlt : k < n
    · have HROW := Lib.hid (HH.out.grow HB.out)
      obtain ⟨b, off, e, hA, hbl, he, hok, hc⟩ := HROW.out.at_ hlt
      subst hA
      have HOK := Lib.hid hok
      have HKS := Lib.hid (kept_snoc (ep := ep) he)
      have HEX := Lib.hid hok.2.2.2.2.1
      have HCE := Lib.hid hc
      have c1 : w_.cell? ⟨b, off + k * 171 + 170, none⟩ = some (.int .i64 e.2.expiry) := hc 170 _ (encAtM_exp hok)
      obtain ⟨ex, hex⟩ : ∃ q, q = e.2.expiry := ⟨_, rfl⟩
      rw [← hex] at c1 HKS HEX
      obtain ⟨old, hold⟩ : ∃ q, oldB ex ep = q := ⟨_, rfl⟩
      have HOL := Lib.hid (fun w => rold_any ex ep w HEX.out HEP.out hold)
      rw [hold] at HKS
      have v1 : IntKind.i64.wrap ((k : Int) + 1) = (k : Int) + 1 := IntWalk.i64_in _ (by have := HN.out; omega)
      have HV1 := Lib.hid v1
      have HEC := Lib.hid (encAtM_cl hok)
      have HBB := Lib.hid hbl
      obtain ⟨ev, hev⟩ : ∃ q, q = encAtM e := ⟨_, rfl⟩
      rw [← hev] at HCE HEC
      have HEV := Lib.hid hev
      clear hbl he hok hc hex hold v1 hev
      go_wp2_with fail
      refine (HOL.out _).mono ?_
      rintro e' w2_ ⟨rfl, rfl⟩
      clear c1
      cases old with
      | true =>
        have v1 := HV1.out
        go_wp2_with fail
        go_roundw
        all_goals clear v1
        case rel => exact ⟨k + 1, m, A3, c3, rfl, by go_num, hlt, by omega, Lib.hid (by rw [HKS.out]; simpa using HO.out), HB⟩
        case measure => simp [intOf]; omega
      | false =>
        go_wp2_with (first | (with_reducible refine wpl_loadm (o := ⟨some 26, _, _, _, _, _⟩) rfl rfl row_at20 HCE.out rfl HEC.out.len ?_) | (refine wpl_row1 (o := ⟨some 27, .buildSlice _ _ _, _, _, _, _⟩) rfl rfl el_at20 (by first | rfl | (go_simp; done)) HEC.out.len (by omega) ?_))
        intro w2_ hb2_ hb_ hsz2_
        have HSX := Lib.hid (show Sl w2_ w2_.heap.size 171 (some ⟨w_.heap.size, 0, none⟩) 1 ev from hb2_.sl (by rw [HEC.out.len]))
        have HO_ := Lib.hid (HO.out.grow hb_); have HB_ := Lib.hid (HB.out.grow' hb_)
        generalize w_.heap.size = gy at HSX ⊢
        clear hb2_ hb_ hsz2_ HO HB HROW
        have HO := HO_; have HB := HB_
        clear HO_ HB_
        try clear w_
        rename World => w_
        have HDZ := Lib.hid (show w.heap.size ≤ w_.heap.size from HB.out.size)
        go_wp2_with (at_builtin; refine wpl_apps rfl rfl el_at20 HO.out.1 rfl HSX.out rfl HEC.out.one (by have := HN.out; omega) (by have := HN.out; omega) HDZ.out ?_)
        intro A4 c4 w4_ ho_ hg_ hA_
        have HB_ := Lib.hid (own_below_g HO.out.1 HB.out hg_ (Nat.le_refl _))
        have HO_ := Lib.hid (show OwnM w4_ w.heap.size A4 (m + 1) c4 (keptM ep (l.take (k + 1))) by
          rw [HKS.out]; exact OwnM.snoc (by rw [← HEV.out]; exact ho_) HO.out.2 HOK.out)
        clear ho_ hg_ hA_ HO HB HSX HDZ
        have v1 := HV1.out
        go_wp2_with fail
        go_roundw
        all_goals clear v1
        case rel => exact ⟨k + 1, m + 1, A4, c4, rfl, by go_num, hlt, by omega, HO_, HB_⟩
        case measure => simp [intOf]; omega
    · obtain rfl : k = n := by omega
      have HE := Lib.hid (show OwnM w_ w.heap.size A3 m c3 (keptM ep l) by have h := HO.out; rw [List.take_of_length_le (by rw [HH.out.2.2]; exact Nat.le_refl _)] at h; exact h)
      go_wp2_with fail
      go_ret
      exact ⟨A3, m, c3, rfl, HE.out.row, HB.out⟩
end Go.Proofs.Ytofhohofaedokaa

/- The document's marks: Put. Printed by mkmrd.py. -/
namespace Go.Proofs.Ytofhohofaedokaa
open Go.RowKit
set_option linter.unusedVariables false
/-- A mark put in its place. -/
def insM (x : MKey × Mrk) : MarksL → MarksL
  | [] => [x]
  | e :: l => if cmpK2 x.1 e.1 < 0 then x :: e :: l else e :: insM x l
theorem insM_snoc (x : MKey × Mrk) (e : MKey × Mrk) : ∀ (l : MarksL), (∃ y ∈ l, cmpK2 x.1 y.1 < 0) → insM x (l ++ [e]) = insM x l ++ [e]
  | [], h => by obtain ⟨y, hy, _⟩ := h; cases hy
  | y :: l, h => by
    rw [List.cons_append]
    unfold insM
    by_cases hy : cmpK2 x.1 y.1 < 0
    · rw [if_pos hy, if_pos hy]; rfl
    · rw [if_neg hy, if_neg hy, insM_snoc x e l (by
        obtain ⟨z, hz, hzc⟩ := h
        rcases List.mem_cons.1 hz with rfl | hz
        · exact absurd hzc hy
        · exact ⟨z, hz, hzc⟩)]
      rfl
theorem insM_first (x e : MKey × Mrk) (he : cmpK2 x.1 e.1 < 0) : ∀ (l : MarksL), (∀ y ∈ l, ¬ cmpK2 x.1 y.1 < 0) → insM x (l ++ [e]) = l ++ [x] ++ [e]
  | [], _ => by simp [insM, he]
  | y :: l, h => by
    rw [List.cons_append]
    unfold insM
    rw [if_neg (h y (List.mem_cons_self ..)), insM_first x e he l (fun z hz => h z (List.mem_cons_of_mem _ hz))]
    rfl
theorem insM_none (x : MKey × Mrk) : ∀ (l : MarksL), (∀ y ∈ l, ¬ cmpK2 x.1 y.1 < 0) → insM x l = l ++ [x]
  | [], _ => rfl
  | y :: l, h => by
    unfold insM
    rw [if_neg (h y (List.mem_cons_self ..)), insM_none x l (fun z hz => h z (List.mem_cons_of_mem _ hz))]
    rfl
/-- How far the inserting has come. -/
def InsP (x : MKey × Mrk) (l : MarksL) (k : Nat) (d : Bool) (Y : MarksL) : Prop :=
  (d = false ∧ Y = l.take k ∧ ∀ e ∈ l.take k, ¬ cmpK2 x.1 e.1 < 0) ∨ (d = true ∧ Y = insM x (l.take k) ∧ ∃ e ∈ l.take k, cmpK2 x.1 e.1 < 0)
theorem InsP.start (x : MKey × Mrk) (l : MarksL) : InsP x l 0 false [] := .inl ⟨rfl, by simp, by simp⟩
theorem InsP.next {x : MKey × Mrk} {l : MarksL} {k : Nat} {d : Bool} {Y : MarksL} (h : InsP x l k d Y) {e : MKey × Mrk} (he : l[k]? = some e) {b : Bool} (hb : b = (!d && decide (cmpK2 x.1 e.1 < 0))) : InsP x l (k + 1) (d || b) ((if b then Y ++ [x] else Y) ++ [e]) := by
  have ht : l.take (k + 1) = l.take k ++ [e] := by rw [List.take_add_one, he]; rfl
  unfold InsP
  rw [ht]
  rcases h with ⟨rfl, rfl, h⟩ | ⟨rfl, rfl, h⟩
  · by_cases hc : cmpK2 x.1 e.1 < 0
    · have : b = true := by rw [hb]; simp [hc]
      subst this
      exact .inr ⟨rfl, by rw [insM_first x e hc _ h]; rfl, e, by simp, hc⟩
    · have : b = false := by rw [hb]; simp [hc]
      subst this
      refine .inl ⟨rfl, rfl, fun y hy => ?_⟩
      rcases List.mem_append.1 hy with hy | hy
      · exact h y hy
      · rw [List.mem_singleton.1 hy]; exact hc
  · have : b = false := by rw [hb]; rfl
    subst this
    refine .inr ⟨rfl, by rw [insM_snoc x e _ h]; rfl, ?_⟩
    obtain ⟨y, hy, hc⟩ := h
    exact ⟨y, List.mem_append.2 (.inl hy), hc⟩
theorem InsP.end_ {x : MKey × Mrk} {l : MarksL} {d : Bool} {Y : MarksL} (h : InsP x l l.length d Y) : insM x l = if d then Y else Y ++ [x] := by
  unfold InsP at h
  rw [List.take_of_length_le (Nat.le_refl _)] at h
  rcases h with ⟨rfl, rfl, h⟩ | ⟨rfl, rfl, h⟩
  · exact insM_none x _ h
  · rfl
/-- What Put gives back. -/
def PutR20 (w : World) (r : Int) (pL : MarksL) (e : Ending) (w' : World) : Prop := ∃ A' m c', e = .returned (.tuple #[.slice A' m c', .int .i64 r]) ∧ RowM w' A' m pL ∧ Below w.heap.size w w'
def putL (l : MarksL) (x : MKey × Mrk) : MarksL := if putM l x.1 x.2 = 0 then insM x l else l
set_option maxRecDepth 100000 in
set_option maxHeartbeats 8000000 in
theorem rput20_any {A : Option Addr} {n c : Nat} {l : MarksL} (x : MKey × Mrk) (w : World) (h : RowM w A n l) (hx : AtOKM x) (hn : n ≤ 1000000) :
    Calls Try.prog 6 #[.slice A n c, .agg (encAtM x).toArray] w fun e w' => PutR20 w (putM l x.1 x.2) (putL l x) e w' := by
  have HH := Lib.hid h; have HN := Lib.hid hn; have HXO := Lib.hid hx
  have HXC := Lib.hid (encAtM_cl hx)
  have HPT := Lib.hid (encAtM_part x)
  have HID := Lib.hid (fun j u hu => encAtM_id hx (j := j) (u := u) hu)
  have HMK := Lib.hid (fun j u hu => encAtM_mark hx (j := j) (u := u) hu)
  have LID := Lib.hid (show (x.1.2.map B).length = 32 by rw [List.length_map, hx.1.2])
  have HMC := Lib.hid (mark_cl hx.2)
  have HRG := Lib.hid (fun w => rright20_any x.2 w hx.2)
  have HGT := Lib.hid (fun (w' : World) (hg : Below w.heap.size w w') => rget20_any (c := c) x.1 w' (h.grow hg) hx.1 hn)
  have HCM := Lib.hid (fun (e : MKey × Mrk) (he : AtOKM e) w => rcmp20_any x e w hx he)
  have HNC := Lib.hid (fun m (hm : m.ok) => mark_cl (m := m) hm)
  obtain ⟨r, hr⟩ : ∃ q, q = putM l x.1 x.2 := ⟨_, rfl⟩
  have HRR := Lib.hid (show r = if x.1.1 ≠ 0 ∧ x.1.1 ≠ 1 then 1 else if rightM x.2 = false then 16 else if (lookM l x.1).isSome then 24 else if 128 ≤ l.length then 18 else 0 from hr)
  have HPL := Lib.hid (show putL l x = if r = 0 then insM x l else l by rw [hr]; rfl)
  rw [← hr]
  obtain ⟨pL, hpL⟩ : ∃ q, q = putL l x := ⟨_, rfl⟩
  rw [← hpL] at HPL ⊢
  obtain ⟨pi, hpi⟩ : ∃ q, q = x.1.1 := ⟨_, rfl⟩
  rw [← hpi] at HPT HRR HGT
  obtain ⟨ys, hys⟩ : ∃ q, q = x.1.2.map B := ⟨_, rfl⟩
  rw [← hys] at HID LID HGT
  obtain ⟨ms, hms⟩ : ∃ q, q = markV x.2 := ⟨_, rfl⟩
  rw [← hms] at HMK HMC
  have HRG2 := Lib.hid (show ∀ w, Calls Try.prog 18 #[.agg ms.toArray] w fun e w' => e = .returned (.bool (rightM x.2)) ∧ Below w.heap.size w w' from fun w => by rw [hms]; exact HRG.out w)
  obtain ⟨rm, hrm⟩ : ∃ q, q = rightM x.2 := ⟨_, rfl⟩
  rw [← hrm] at HRG2 HRR
  obtain ⟨lk, hlk⟩ : ∃ q, q = (lookM l x.1).isSome := ⟨_, rfl⟩
  rw [← hlk] at HRR HGT
  obtain ⟨gm, hgm⟩ : ∃ q, q = (lookM l x.1).getD noMrk := ⟨_, rfl⟩
  rw [← hgm] at HGT
  have HGC := Lib.hid (show Cl 138 (markV gm) by
    refine mark_cl ?_
    rw [hgm]
    cases hf : lookM l x.1 with
    | none => exact noMrk_ok
    | some z =>
      unfold lookM at hf
      obtain ⟨e, he, rfl⟩ := Option.map_eq_some_iff.1 hf
      exact (h.2.1 e (List.mem_of_find?_eq_some he)).2)
  unfold markA at HGT
  obtain ⟨gv, hgv⟩ : ∃ q, q = markV gm := ⟨_, rfl⟩
  rw [← hgv] at HGT HGC
  obtain ⟨xv, hxv⟩ : ∃ q, q = encAtM x := ⟨_, rfl⟩
  rw [← hxv] at HXC HPT HID HMK HCM ⊢
  have HXV := Lib.hid hxv
  have HLN := Lib.hid h.2.2
  have HZM := Lib.hid zero_mark
  clear h hx hn hr hpL hpi hys hms hrm hlk hgm hgv hxv HRG HNC
  obtain ⟨w_, hw⟩ : ∃ x, x = w := ⟨_, rfl⟩
  have HB := Lib.hid (show Below w.heap.size w w_ by rw [hw]; exact Below.refl _ _)
  suffices H : Calls Try.prog 6 #[.slice A n c, .agg xv.toArray] w_ fun e w' => PutR20 w r pL e w' by rw [hw] at H; exact H
  clear hw
  go_enter Try.func6, Try.ntmps6
  go_wp2_with (first | (with_reducible refine wpl_box (o := ⟨some 3, _, _, _, _, _⟩) rfl rfl rfl ?_))
  intro w2_ hb2_ hb_ hsz2_
  have HX_ := Lib.hid (at_mk hb2_ HXC.out.len)
  clear hb2_ hsz2_
  have HG_ := Lib.hid HB.out.size
  have HB_ := Lib.hid (HB.out.grow' hb_)
  clear HB
  have HB := HB_
  clear HB_
  generalize hg_ : w_.heap.size = g3 at HX_ HG_ ⊢
  clear hg_
  have HM_g := HG_
  clear HG_
  have HM := HX_
  clear hb_ HX_
  try clear w_
  rename World => w_
  have HG3 := HM_g
  clear HM_g
  have c1 : w_.cell? ⟨g3, 0, none⟩ = some (.int .i64 pi) := HM.out.blk.at_ HPT.out
  have HRET := Lib.hid (fun (r' : Int) (h0 : r ≠ 0) (hr' : r = r') (w' : World) (hb : Below w.heap.size w w') => show PutR20 w r pL (Ending.returned (.tuple #[.slice A n c, .int .i64 r'])) w' from ⟨A, n, c, by rw [hr'], by rw [HPL.out, if_neg h0]; exact HH.out.grow hb, hb⟩)
  by_cases h1 : pi ≠ 0 ∧ pi ≠ 1
  · have e1 : r = 1 := by rw [HRR.out, if_pos h1]
    have HE := Lib.hid e1
    have z1 : (pi != 0) = true := bne_iff_ne.2 h1.1
    have z2 : (pi != 1) = true := bne_iff_ne.2 h1.2
    clear h1 e1
    go_wp2_with fail
    go_ret2
    exact HRET.out 1 (by rw [HE.out]; decide) HE.out _ HB.out
  have HN1 := Lib.hid h1
  have hsel : ((pi != 0) = false) ∨ ((pi != 0) = true ∧ (pi != 1) = false) := by
    have : pi = 0 ∨ pi = 1 := by omega
    rcases this with rfl | rfl <;> simp
  clear h1
  obtain ⟨bz, hbz⟩ : ∃ q : Bool, q = false := ⟨_, rfl⟩
  have HBZ := Lib.hid hbz
  clear hbz
  go_upto_region 1 with fail
  go_cut [18] from 19 (fun s18 wr => s18 = .bool bz ∧ wr = w_)
  case first =>
    rcases hsel with z1 | ⟨z1, z2⟩
    · go_wp2_with fail
      go_meet
      case rel => exact ⟨by rw [HBZ.out], rfl⟩
    · go_wp2_with fail
      go_meet
      case rel => exact ⟨by rw [HBZ.out], rfl⟩
  case rest =>
  obtain ⟨rfl, hw⟩ := hcut
  subst hw
  rename World => w_
  have hbz := HBZ.out
  subst hbz
  clear hsel c1
  have MM := Lib.hid (show ∀ j u, ms[j]? = some u → w_.cell? ⟨g3, 33 + j, none⟩ = some u from fun j u hu => HM.out.blk.at_ (HMK.out j u hu))
  go_wp2_with (first | (with_reducible refine wpl_loadm (o := ⟨some 21, _, _, _, _, _⟩) rfl rfl row_mark MM.out rfl HMC.out.len ?_))
  refine (HRG2.out _).mono ?_
  clear MM
  rintro e w_ ⟨rfl, hb_⟩
  have HB_ := Lib.hid (HB.out.grow' hb_)
  clear HB
  have HB := HB_
  clear HB_
  have HM_ := Lib.hid (HM.out.grow hb_)
  clear HM
  have HM := HM_
  clear HM_
  clear hb_
  cases rm with
  | false =>
    have HE := Lib.hid (show r = 16 by rw [HRR.out, if_neg HN1.out, if_pos rfl])
    go_wp2_with fail
    go_ret2
    exact HRET.out 16 (by rw [HE.out]; decide) HE.out _ HB.out
  | true =>
  have c1 : w_.cell? ⟨g3, 0, none⟩ = some (.int .i64 pi) := HM.out.blk.at_ HPT.out
  have MI := Lib.hid (show ∀ j u, ys[j]? = some u → w_.cell? ⟨g3, 1 + j, none⟩ = some u from fun j u hu => HM.out.blk.at_ (HID.out j u hu))
  go_wp2_with (first | (with_reducible refine wpl_loadm (o := ⟨some 30, _, _, _, _, _⟩) rfl rfl row_aid MI.out rfl LID.out ?_))
  refine (HGT.out _ HB.out).mono ?_
  clear MI c1
  rintro e w_ ⟨rfl, hb_⟩
  have HB_ := Lib.hid (HB.out.grow' hb_)
  clear HB
  have HB := HB_
  clear HB_
  have HM_ := Lib.hid (HM.out.grow hb_)
  clear HM
  have HM := HM_
  clear HM_
  clear hb_
  go_wp2_with (first | (with_reducible refine wpl_alloc (o := ⟨some 6, _, _, _, _, _⟩) rfl rfl zero_mark ?_))
  intro w1_ hb1_ hbw1_ hsz1_
  have HB1_ := Lib.hid (at_mk hb1_ len_mark)
  have HBW1_ := Lib.hid hbw1_
  have HZ1_ := Lib.hid hsz1_
  clear hb1_ hbw1_ hsz1_
  go_wp2_with (first | (with_reducible refine wpl_storeb (o := ⟨none, .store _ _ _, _, _, _, _⟩) rfl rfl row_mark HB1_.out.blk rfl rfl HB1_.out.len HGC.out.len HGC.out.one ?_))
  intro w2_ hb2_ hg2_ hsz2_
  have hb_ := var_grow HBW1_.out HZ1_.out hg2_
  have HX_ := Lib.hid (at_mk hb2_ HGC.out.len)
  clear hb2_ hg2_ hsz2_ HB1_ HBW1_ HZ1_
  have HB_ := Lib.hid (HB.out.grow' hb_)
  clear HB
  have HB := HB_
  clear HB_
  have HM_ := Lib.hid (HM.out.grow hb_)
  clear HM
  have HM := HM_
  clear HM_
  generalize hg_ : w_.heap.size = g6 at HX_ ⊢
  clear hg_
  have HG6 := HX_
  clear hb_ HX_
  clear w1_
  try clear w_
  rename World => w_
  clear HG6
  cases lk with
  | true =>
    have HE := Lib.hid (show r = 24 by rw [HRR.out, if_neg HN1.out, if_neg (by simp), if_pos rfl])
    go_wp2_with fail
    go_ret2
    exact HRET.out 24 (by rw [HE.out]; decide) HE.out _ HB.out
  | false =>
  by_cases h128 : 128 ≤ n
  · have HE := Lib.hid (show r = 18 by rw [HRR.out, if_neg HN1.out, if_neg (by simp), if_neg (by simp), if_pos (by rw [HLN.out]; exact h128)])
    have z1 : ((128 : Int) ≤ (n : Int)) = True := eq_true (by omega)
    have z2 : decide ((128 : Int) ≤ (n : Int)) = true := by simp; omega
    clear h128
    go_wp2_with fail
    go_ret2
    exact HRET.out 18 (by rw [HE.out]; decide) HE.out _ HB.out
  have HE := Lib.hid (show r = 0 by rw [HRR.out, if_neg HN1.out, if_neg (by simp), if_neg (by simp), if_neg (by rw [HLN.out]; exact h128)])
  have z1 : ((128 : Int) ≤ (n : Int)) = False := eq_false (by omega)
  have z2 : decide ((128 : Int) ≤ (n : Int)) = false := by simp; omega
  have HN128 := Lib.hid (show n < 128 by omega)
  clear h128 HRET HRR HGT HRG2
  go_wp2_with fail
  clear z1 z2
  go_loopw [8, 9, 10] (fun s8 s9 s10 wr => ∃ (k m : Nat) (A3 : Option Addr) (c3 : Nat) (d : Bool) (Y : MarksL), s8 = .slice A3 m c3 ∧ s9 = .bool d ∧ s10 = .int .i64 k ∧ k ≤ n ∧ m ≤ k + 1 ∧ Hid (InsP x l k d Y) ∧ Hid (OwnM wr (g3 + 1) A3 m c3 Y) ∧ Hid (At wr g3 44 171 xv) ∧ Hid (Below w.heap.size w wr)) (fun _ _ s10 _ => n - (intOf s10).toNat)
  case atStart => exact ⟨0, 0, none, 0, false, [], rfl, rfl, rfl, Nat.zero_le _, by omega, Lib.hid (InsP.start x l), Lib.hid (OwnM.nil _ _), HM, HB⟩
  case round =>
    obtain ⟨k, m, A3, c3, d, Y, rfl, rfl, rfl, hk, hmk, hI, hO, hM, hB⟩ := hrel
    clear HB HM
    have HI := hI; have HO := hO; have HM := hM; have HB := hB
    clear hI hO hM hB
    rename World => w_
    by_cases hlt : k < n
    · have HROW := Lib.hid (HH.out.grow HB.out)
      obtain ⟨b, off, e, hA, hbl, he, hok, hc⟩ := HROW.out.at_ hlt
      subst hA
      have HEE := Lib.hid he; have HOK := Lib.hid hok
      have HCE := Lib.hid (show ∀ w', Below w.heap.size w w' → ∀ j u, (encAtM e)[j]? = some u → w'.cell? ⟨b, off + k * 171 + j, none⟩ = some u from fun w' hB j u hu => by
        have h1 := (HH.out.grow hB).at_ hlt
        obtain ⟨b2, off2, e2, hA2, _, he2, _, hc2⟩ := h1
        cases hA2
        have : e2 = e := by rw [HEE.out] at he2; exact (Option.some.inj he2).symm
        subst this
        exact hc2 j u hu)
      have HEC := Lib.hid (encAtM_cl hok)
      have HCX := Lib.hid (HCM.out e hok)
      obtain ⟨z, hz⟩ : ∃ q, q = cmpK2 x.1 e.1 := ⟨_, rfl⟩
      rw [← hz] at HCX
      obtain ⟨bb, hbb⟩ : ∃ q, q = (!d && decide (z < 0)) := ⟨_, rfl⟩
      have HBBE := Lib.hid hbb
      have HNX := Lib.hid (HI.out.next he (b := bb) (by rw [hbb, hz]))
      obtain ⟨ev, hev⟩ : ∃ q, q = encAtM e := ⟨_, rfl⟩
      rw [← hev] at HCE HEC HCX
      have HEV := Lib.hid hev
      have HBLK := Lib.hid (show b < w.heap.size by obtain ⟨b', off', e', hb', _⟩ := HH.out.1.2 (by omega); cases e'; exact hb')
      have v1 : IntKind.i64.wrap ((k : Int) + 1) = (k : Int) + 1 := IntWalk.i64_in _ (by have := HN.out; omega)
      have HV1 := Lib.hid v1
      have HML := Lib.hid (show d = false → m ≤ k from fun hd => by
        have h1 := HO.out.len
        rcases HI.out with ⟨_, h2, _⟩ | ⟨h2, _⟩
        · rw [h2, List.length_take] at h1; omega
        · rw [hd] at h2; cases h2)
      have HMK := Lib.hid hmk
      clear hbl he hok hc hz hbb hev v1 HI hmk
      go_upto_region 15 with fail
      go_cut [56] from 57 to 67 (fun s56 wr => s56 = .bool bb ∧ Hid (OwnM wr (g3 + 1) A3 m c3 Y) ∧ Hid (At wr g3 44 171 xv) ∧ Hid (Below w.heap.size w wr))
      case first =>
        cases d with
        | true =>
          have HR := Lib.hid (show bb = false by rw [HBBE.out]; rfl)
          try go_wp2_with fail
          repeat' (first | (with_reducible refine wp_plan (id := 15) Grow [0,0,0,2,0,0,0,2,3,0,0] (.get 0 (.get 1 (.get 2 (.get 3 (.get 4 (.get 5 (.get 6 (.get 7 (.act 8 (.get 9 (.get 10 .done))))))))))) (by kernel_rfl) (by kernel_rfl) Grow.refl Grow.trans ?_) | go_values | go_skip | go_guarded | go_step | go_upon | go_back)
          intro w_ hd_
          have hb_ := hd_.grow
          have HB_ := Lib.hid (HB.out.grow' hb_)
          clear HB
          have HB := HB_
          clear HB_
          have HO_ := Lib.hid (HO.out.grow hb_)
          clear HO
          have HO := HO_
          clear HO_
          have HM_ := Lib.hid (HM.out.grow hb_)
          clear HM
          have HM := HM_
          clear HM_
          clear hb_ hd_
          repeat (first | (refine pl_calm rfl rfl (by first | exact wanted_none rfl | (go_simp; done) | rfl) (fun w_ => by first | (go_simp; rfl) | (go_simp; done) | rfl) (fun K hK => ?_); go_simp; refine hK _ _ ?_; clear hK K) | (refine pl_skip rfl (by first | (go_simp; done) | rfl) (fun K hK => ?_); go_simp; refine hK _ _ ?_; clear hK K) | (refine pl_skipa rfl (by first | (go_simp; done) | rfl) (fun K hK => ?_); go_simp; refine hK _ _ ?_; clear hK K))
          refine pl_done ?_
          go_wp2_with fail
          go_meet
          case rel => exact ⟨by rw [HR.out], HO, HM, HB⟩
        | false =>
          have HR := Lib.hid (show bb = decide (z < 0) by rw [HBBE.out]; simp)
          try go_wp2_with fail
          repeat' (first | (with_reducible refine wp_plan (id := 15) Grow [0,0,0,2,0,0,0,2,3,0,0] (.get 0 (.get 1 (.get 2 (.get 3 (.get 4 (.get 5 (.get 6 (.get 7 (.act 8 (.get 9 (.get 10 .done))))))))))) (by kernel_rfl) (by kernel_rfl) Grow.refl Grow.trans ?_) | go_values | go_skip | go_guarded | go_step | go_upon | go_back)
          intro w_ hd_
          have hb_ := hd_.grow
          have HB_ := Lib.hid (HB.out.grow' hb_)
          clear HB
          have HB := HB_
          clear HB_
          have HO_ := Lib.hid (HO.out.grow hb_)
          clear HO
          have HO := HO_
          clear HO_
          have HM_ := Lib.hid (HM.out.grow hb_)
          clear HM
          have HM := HM_
          clear HM_
          clear hb_ hd_
          repeat (first | (refine pl_loadb rfl rfl (by first | exact wanted_none rfl | (go_simp; done) | rfl) rfl row_at20 HM.out.blk (by first | rfl | (go_simp; done) | rfl) HM.out.len (fun K hK => ?_); go_simp; refine hK _ _ ?_; clear hK K) | (refine pl_loadbnow rfl rfl (by first | exact wanted_none rfl | (go_simp; done) | rfl) rfl row_at20 HM.out.blk (by first | rfl | (go_simp; done) | rfl) HM.out.len (fun K hK => ?_); go_simp; refine hK _ _ ?_; clear hK K) | (refine pl_calm rfl rfl (by first | exact wanted_none rfl | (go_simp; done) | rfl) (fun w_ => by first | (go_simp; rfl) | (go_simp; done) | rfl) (fun K hK => ?_); go_simp; refine hK _ _ ?_; clear hK K) | (refine pl_skip rfl (by first | (go_simp; done) | rfl) (fun K hK => ?_); go_simp; refine hK _ _ ?_; clear hK K) | (refine pl_skipa rfl (by first | (go_simp; done) | rfl) (fun K hK => ?_); go_simp; refine hK _ _ ?_; clear hK K))
          have MC := Lib.hid (HCE.out _ HB.out)
          refine pl_loadm rfl (by decide) (by first | exact wanted_none rfl | (go_simp; done) | fail) rfl row_at20 MC.out (Nat.lt_of_lt_of_le HBLK.out HB.out.size) (by first | rfl | (go_simp; done) | rfl) HEC.out.len (fun K hK => ?_)
          go_simp
          refine hK _ _ ?_
          clear hK K MC
          refine pl_act rfl (by first | exact wanted_none rfl | (go_simp; done) | fail) (fun K hK => ?_)
          go_wp2_with fail
          refine (HCX.out _).mono ?_
          rintro e' w2_ ⟨rfl, hb_⟩
          have HFU := Lib.hid hb_
          clear hb_
          go_wp2_with fail
          refine hK _ _ (fun _ => HFU.out) ?_
          clear hK K
          have hb_ := HFU.out
          clear HFU
          have hb_ := hb_
          clear hb_
          have HB_ := Lib.hid (HB.out.grow' hb_)
          clear HB
          have HB := HB_
          clear HB_
          have HO_ := Lib.hid (HO.out.grow hb_)
          clear HO
          have HO := HO_
          clear HO_
          have HM_ := Lib.hid (HM.out.grow hb_)
          clear HM
          have HM := HM_
          clear HM_
          clear hb_
          try clear w_
          rename World => w_
          obtain ⟨lt, hlt'⟩ : ∃ q, q = decide (z < 0) := ⟨_, rfl⟩
          have zlt : ((z : Int) < 0) = (lt = true) := by rw [hlt']; simp
          have HLT := Lib.hid (show bb = lt by rw [HR.out, hlt'])
          clear hlt'
          repeat (first | (refine pl_calm rfl rfl (by first | exact wanted_none rfl | (go_simp; done) | rfl) (fun w_ => by first | (go_simp; rfl) | (go_simp; done) | rfl) (fun K hK => ?_); go_simp; refine hK _ _ ?_; clear hK K) | (refine pl_skip rfl (by first | (go_simp; done) | rfl) (fun K hK => ?_); go_simp; refine hK _ _ ?_; clear hK K) | (refine pl_skipa rfl (by first | (go_simp; done) | rfl) (fun K hK => ?_); go_simp; refine hK _ _ ?_; clear hK K))
          refine pl_done ?_
          clear zlt
          go_wp2_with fail
          go_meet
          case rel => exact ⟨(by rw [HLT.out]), HO, HM, HB⟩
      case rest =>
        obtain ⟨rfl, hO, hM, hB⟩ := hcut
        clear HO HM HB
        have HO := hO; have HM := hM; have HB := hB
        clear hO hM hB
        rename World => w_
        obtain ⟨d2, hd2⟩ : ∃ q, q = (d || bb) := ⟨_, rfl⟩
        obtain ⟨Y2, hY2⟩ : ∃ q, q = (if bb then Y ++ [x] else Y) := ⟨_, rfl⟩
        rw [← hd2, ← hY2] at HNX
        have HD2 := Lib.hid hd2; have HY2 := Lib.hid hY2
        have HBD := Lib.hid (show bb = true → d = false from fun h => by
          have h1 := HBBE.out
          rw [h] at h1
          cases d with
          | false => rfl
          | true => cases h1)
        clear hd2 hY2
        go_upto_if 56 with fail
        go_cut [8, 9] from 57 to 67 (fun s8 s9 wr => ∃ (m2 : Nat) (A4 : Option Addr) (c4 : Nat), s8 = .slice A4 m2 c4 ∧ s9 = .bool d2 ∧ m2 ≤ k + 1 ∧ Hid (OwnM wr (g3 + 1) A4 m2 c4 Y2) ∧ Hid (At wr g3 44 171 xv) ∧ Hid (Below w.heap.size w wr))
        case first =>
          cases bb with
          | false =>
            go_wp2_with fail
            go_meet
            case rel => exact ⟨m, A3, c3, rfl, (by rw [HD2.out]; simp), HMK.out, Lib.hid (by rw [HY2.out]; exact HO.out), HM, HB⟩
          | true =>
            go_wp2_with (first | (with_reducible refine wpl_loadb (o := ⟨some 58, _, _, _, _, _⟩) rfl rfl row_at20 HM.out.blk rfl HM.out.len ?_) | (refine wpl_row1 (o := ⟨some 59, .buildSlice _ _ _, _, _, _, _⟩) rfl rfl el_at20 (by first | rfl | (go_simp; done)) HXC.out.len (by omega) ?_))
            intro w2_ hb2_ hb_ hsz2_
            have HSX := Lib.hid (show Sl w2_ w2_.heap.size 171 (some ⟨w_.heap.size, 0, none⟩) 1 xv from hb2_.sl (by rw [HXC.out.len]))
            replace HO := Lib.hid (HO.out.grow hb_)
            replace HB := Lib.hid (HB.out.grow' hb_)
            replace HM := Lib.hid (HM.out.grow hb_)
            generalize w_.heap.size = gy at HSX ⊢
            clear hb2_ hb_ hsz2_
            try clear w_
            rename World => w_
            have HDZ := Lib.hid (show g3 + 1 ≤ w_.heap.size by have := HM.out.lt; omega)
            go_wp2_with (at_builtin; refine wpl_apps rfl rfl el_at20 HO.out.1 rfl HSX.out rfl HXC.out.one (by have := HN.out; have := HMK.out; omega) (by have := HN.out; have := HMK.out; omega) HDZ.out ?_)
            intro A4 c4 w4_ ho_ hg_ hA_
            have hne_ := own_from HO.out.1
            have HB_ := Lib.hid (own_below_g HO.out.1 HB.out hg_ (by have := HG3.out; omega))
            have HM_ := Lib.hid (show At w4_ g3 44 171 xv from at_mk (HM.out.blk.grown hg_ (fun e => by have h1 := hne_ _ e.symm; omega)) HM.out.len)
            have HO_ := Lib.hid (show OwnM w4_ (g3 + 1) A4 (m + 1) c4 (Y ++ [x]) from OwnM.snoc (by rw [← HXV.out]; exact ho_) HO.out.2 HXO.out)
            clear ho_ hg_ hA_ hne_ HO HB HM HSX HDZ
            have HO := HO_; have HB := HB_; have HM := HM_
            clear HO_ HB_ HM_
            try clear w_
            rename World => w_
            go_wp2_with fail
            go_meet
            case rel => exact ⟨m + 1, A4, c4, rfl, (by rw [HD2.out]; simp), by have := HML.out (HBD.out (by first | rfl | trivial)); omega, Lib.hid (by rw [HY2.out]; exact HO.out), HM, HB⟩
        case rest =>
          obtain ⟨m, A3, c3, rfl, rfl, hm2, hO, hM, hB⟩ := hcut
          clear HO HM HB HML HMK HBD HD2 HY2 HBBE
          have HO := hO; have HM := hM; have HB := hB
          clear hO hM hB
          rename World => w_
          have HCW := Lib.hid (HCE.out _ HB.out)
          go_wp2_with (first | (with_reducible refine wpl_loadm (o := ⟨some 65, _, _, _, _, _⟩) rfl rfl row_at20 HCW.out rfl HEC.out.len ?_) | (refine wpl_row1 (o := ⟨some 66, .buildSlice _ _ _, _, _, _, _⟩) rfl rfl el_at20 (by first | rfl | (go_simp; done)) HEC.out.len (by omega) ?_))
          intro w2_ hb2_ hb_ hsz2_
          have HSX := Lib.hid (show Sl w2_ w2_.heap.size 171 (some ⟨w_.heap.size, 0, none⟩) 1 ev from hb2_.sl (by rw [HEC.out.len]))
          replace HO := Lib.hid (HO.out.grow hb_)
          replace HB := Lib.hid (HB.out.grow' hb_)
          replace HM := Lib.hid (HM.out.grow hb_)
          generalize w_.heap.size = gy at HSX ⊢
          clear hb2_ hb_ hsz2_
          try clear w_
          rename World => w_
          have HDZ := Lib.hid (show g3 + 1 ≤ w_.heap.size by have := HM.out.lt; omega)
          go_wp2_with (at_builtin; refine wpl_apps rfl rfl el_at20 HO.out.1 rfl HSX.out rfl HEC.out.one (by have := HN.out; omega) (by have := HN.out; omega) HDZ.out ?_)
          intro A4 c4 w4_ ho_ hg_ hA_
          have hne_ := own_from HO.out.1
          have HB_ := Lib.hid (own_below_g HO.out.1 HB.out hg_ (by have := HG3.out; omega))
          have HM_ := Lib.hid (show At w4_ g3 44 171 xv from at_mk (HM.out.blk.grown hg_ (fun e => by have h1 := hne_ _ e.symm; omega)) HM.out.len)
          have HO_ := Lib.hid (show OwnM w4_ (g3 + 1) A4 (m + 1) c4 (Y2 ++ [e]) from OwnM.snoc (by rw [← HEV.out]; exact ho_) HO.out.2 HOK.out)
          clear ho_ hg_ hA_ hne_ HO HB HM HSX HDZ
          have HO := HO_; have HB := HB_; have HM := HM_
          clear HO_ HB_ HM_
          try clear w_
          rename World => w_
          have v1 := HV1.out
          go_wp2_with fail
          go_roundw
          all_goals clear v1
          case rel => exact ⟨k + 1, m + 1, A4, c4, d2, Y2 ++ [e], rfl, rfl, by go_num, hlt, by omega, HNX, HO, HM, HB⟩
          case measure => simp [intOf]; omega
    · obtain rfl : k = n := by omega
      have HEN := Lib.hid (show insM x l = if d then Y else Y ++ [x] from InsP.end_ (by rw [HLN.out]; exact HI.out))
      have HPE := Lib.hid (show pL = if d then Y else Y ++ [x] by rw [HPL.out, if_pos HE.out, HEN.out])
      clear HI HEN
      cases d with
      | true =>
        go_wp2_with fail
        go_ret2
        exact ⟨A3, m, c3, (by rw [HE.out]; rfl), (by rw [HPE.out]; exact HO.out.row), HB.out⟩
      | false =>
        go_wp2_with (first | (with_reducible refine wpl_loadb (o := ⟨some 71, _, _, _, _, _⟩) rfl rfl row_at20 HM.out.blk rfl HM.out.len ?_) | (refine wpl_row1 (o := ⟨some 72, .buildSlice _ _ _, _, _, _, _⟩) rfl rfl el_at20 (by first | rfl | (go_simp; done)) HXC.out.len (by omega) ?_))
        intro w2_ hb2_ hb_ hsz2_
        have HSX := Lib.hid (show Sl w2_ w2_.heap.size 171 (some ⟨w_.heap.size, 0, none⟩) 1 xv from hb2_.sl (by rw [HXC.out.len]))
        replace HO := Lib.hid (HO.out.grow hb_)
        replace HB := Lib.hid (HB.out.grow' hb_)
        replace HM := Lib.hid (HM.out.grow hb_)
        generalize w_.heap.size = gy at HSX ⊢
        clear hb2_ hb_ hsz2_
        try clear w_
        rename World => w_
        have HDZ := Lib.hid (show g3 + 1 ≤ w_.heap.size by have := HM.out.lt; omega)
        go_wp2_with (at_builtin; refine wpl_apps rfl rfl el_at20 HO.out.1 rfl HSX.out rfl HXC.out.one (by have := HN.out; omega) (by have := HN.out; omega) HDZ.out ?_)
        intro A4 c4 w4_ ho_ hg_ hA_
        have hne_ := own_from HO.out.1
        have HB_ := Lib.hid (own_below_g HO.out.1 HB.out hg_ (by have := HG3.out; omega))
        have HM_ := Lib.hid (show At w4_ g3 44 171 xv from at_mk (HM.out.blk.grown hg_ (fun e => by have h1 := hne_ _ e.symm; omega)) HM.out.len)
        have HO_ := Lib.hid (show OwnM w4_ (g3 + 1) A4 (m + 1) c4 (Y ++ [x]) from OwnM.snoc (by rw [← HXV.out]; exact ho_) HO.out.2 HXO.out)
        clear ho_ hg_ hA_ hne_ HO HB HM HSX HDZ
        have HO := HO_; have HB := HB_; have HM := HM_
        clear HO_ HB_ HM_
        try clear w_
        rename World => w_
        go_wp2_with fail
        go_ret2
        exact ⟨A4, m + 1, c4, (by rw [HE.out]; rfl), (by rw [HPE.out]; exact HO.out.row), HB.out⟩
end Go.Proofs.Ytofhohofaedokaa

/- maps.Clone at coins, locks, marks: as the kit's AnyW.maps_Clone. -/
namespace Go.Proofs.Ytofhohofaedokaa
open Go.RowKit Go.Maps Go.Shelf
set_option linter.unusedVariables false
set_option maxRecDepth 100000 in
set_option maxHeartbeats 2000000 in
theorem mclonem_any (b : Nat) (es : Array MapEntry) (clock : Nat) (w : World) (hb : w.heap[b]? = some (.map es clock)) :
    Calls Try.prog 24 #[.map (some b)] w fun e w' => e = .returned (.map (some w.heap.size)) ∧ w' = w.alloc (.map es clock) := by
  have hq := fun w => run_eql_map_nil_sl (P := Try.prog) w 58 _ _ (some b) Try.underlying58
  go_enter Try.func24, Try.ntmps24
  go_wp2
  rw [run_callFunc_extern Try.func40 (by kernel_rfl) (by kernel_rfl) (by kernel_rfl) (e := Extern.MapsClone.clone) (by kernel_rfl), run_maps_clone_sl w 58 hb]
  simp only [Result.andThen]
  rw [Oper.upon_value]
  go_wp2
  rw [run_typeAssert_map_sl _ 58 20 _ _ _ Try.underlying58]
  simp only [Result.andThen]
  rw [Oper.upon_value]
  go_wp2
  go_ret
  exact ⟨rfl, rfl⟩
end Go.Proofs.Ytofhohofaedokaa

/- The contract of marks.Copy; paths stay where a map changes. -/
namespace Go.Proofs.Ytofhohofaedokaa
open Go.RowKit
set_option linter.unusedVariables false
theorem PathAt.touch {w w' : World} {m : Mrk} {ds : List (List UInt8)} {b : Nat} {es : Array MapEntry} {clock : Nat} (h : PathAt w m ds) (hb : w.heap[b]? = some (.map es clock)) (k : Touched [b] w w') : PathAt w' m ds := by
  obtain ⟨⟨h0, h1⟩, h2⟩ := h
  refine ⟨⟨h0, fun hn => ?_⟩, h2⟩
  obtain ⟨q, off, e, hq, hc⟩ := h1 hn
  refine ⟨q, off, e, Nat.lt_of_lt_of_le hq k.size, fun j u hu => ?_⟩
  have hne : q ∉ [b] := by
    intro e2
    rw [List.mem_singleton] at e2
    have h3 := hc j u hu
    subst e2
    unfold World.cell? at h3
    rw [hb] at h3
    simp at h3
  exact (World.cell?_of_block (k.block q hq hne)).trans (hc j u hu)
theorem box_marks : (Try.prog.info? 60).map (·.size) = some 1 := by kernel_rfl
set_option maxRecDepth 100000 in
set_option maxHeartbeats 1000000 in
theorem mcopy_any (g b : Nat) (L : MarksL) (w : World) (h : MarksAt w g b L) :
    Calls Try.prog 10 #[.pointer (some ⟨g, 0, none⟩)] w fun e w' => ∃ g2 b2, e = .returned (.pointer (some ⟨g2, 0, none⟩)) ∧ MarksAt w' g2 b2 L ∧ w.heap.size ≤ g2 ∧ w.heap.size ≤ b2 ∧ Below w.heap.size w w' := by
  obtain ⟨es, clock, h3, h4, h5⟩ := h.map
  have HH := Lib.hid h; have H3 := Lib.hid h3; have H4 := Lib.hid h4; have H5 := Lib.hid h5
  have c1 : w.cell? ⟨g, 0, none⟩ = some (.map (some b)) := h.blk.at_ rfl
  clear h3 h4 h5 h
  go_enter Try.func10, Try.ntmps10
  go_wp2_with fail
  refine (mclonem_any b es clock w H3.out).mono ?_
  rintro e w2_ ⟨rfl, hw2⟩
  have HM2 := Lib.hid (show w2_.heap[w.heap.size]? = some (.map es clock) by rw [hw2]; exact heap_alloc_new w _)
  have HG2 := Lib.hid (show Grow w w2_ by rw [hw2]; exact (Below.refl w.heap.size w).alloc (Nat.le_refl _) _)
  have HS2 := Lib.hid (show w2_.heap.size = w.heap.size + 1 by rw [hw2]; simp)
  clear hw2 c1
  generalize hg_ : w.heap.size = b2 at HM2 HS2 ⊢
  have HB2 := Lib.hid hg_
  clear hg_
  go_wp2_with (first | (with_reducible refine wpl_box (o := ⟨some 9, _, _, _, _, _⟩) rfl rfl rfl ?_))
  intro w3_ hb3_ hg3_ hs3_
  have HX := Lib.hid hb3_
  have HG3 := Lib.hid (show Grow w w3_ from HG2.out.grow' hg3_)
  have HM3 := Lib.hid (show w3_.heap[b2]? = some (.map es clock) from (hg3_.block b2 (by have := HS2.out; omega)).trans HM2.out)
  generalize hg_ : w2_.heap.size = g2 at HX HS2 ⊢
  clear hb3_ hg3_ hs3_ hg_
  go_wp2_with fail
  go_ret
  exact ⟨g2, b2, rfl, ⟨HX.out, ⟨es, clock, HM3.out, H4.out, H5.out⟩, HH.out.ok, by have := HS2.out; omega⟩, by have := HS2.out; have := HB2.out; omega, Nat.le_of_eq HB2.out, HG3.out⟩
end Go.Proofs.Ytofhohofaedokaa

/- Bytes that are put together: small laws. -/
namespace Go.Proofs.Ytofhohofaedokaa
open Go.RowKit
set_option linter.unusedVariables false
theorem accR {w6 w w3 : World} {Z n m c c' : Nat} {A A' : Option Addr} {acc new : List UInt8} (hz : Grow w6 w) (hZ : Z = w6.heap.size) (ho : OwnAt w Z A n c (acc.map B)) (ho_ : w3.ownsRow Z 5 1 (.slice A' (n + m) c') (n + m) (acc.map B ++ new.map B)) (hg : w.grownBy w3 (A.map Addr.block)) :
    OwnAt w3 Z A' (n + m) c' ((acc ++ new).map B) ∧ Grow w6 w3 := by
  refine ⟨by unfold OwnAt; rw [List.map_append]; exact ho_, ?_⟩
  unfold Grow at hz ⊢
  exact below_grown hz hg hz.size (fun g hg' => by have := own_from ho g hg'; omega)
theorem natU {z : Int} (h : 0 ≤ z) (h2 : z ≤ 18446744073709551615) : ∃ k : Nat, z = (k : Int) ∧ k ≤ 18446744073709551615 ∧ z.toNat = k := ⟨z.toNat, by omega, by omega, rfl⟩
theorem natI {z : Int} {m : Nat} (h : 0 ≤ z) (h2 : z ≤ (m : Int)) : ∃ k : Nat, z = (k : Int) ∧ k ≤ m ∧ z.toNat = k := ⟨z.toNat, by omega, by omega, rfl⟩
theorem fm_snocR {α : Type} (f : α → List UInt8) {l : List α} {k : Nat} {p : α} (h : l[k]? = some p) : (l.take (k + 1)).flatMap f = (l.take k).flatMap f ++ f p := by
  rw [List.take_add_one, h, List.flatMap_append]; simp
end Go.Proofs.Ytofhohofaedokaa

/- One cell of a block, written: the walk's law. No program in sight. -/
namespace Go.Proofs.Ytofhohofaedokaa
open Go.RowKit
set_option linter.unusedVariables false
section
variable {P : Program} {ops : Array Oper} {rest : List Oper} {o : Oper} {a : Act} {w : World} {Q : Exit → Act → World → Prop}
end
end Go.Proofs.Ytofhohofaedokaa

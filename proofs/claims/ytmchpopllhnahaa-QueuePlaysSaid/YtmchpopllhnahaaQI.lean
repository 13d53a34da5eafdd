/- The contract of (*Queue).All. -/
import Derived.Test.YtmchpopllhnahaaQH
namespace Go.Proofs.Ytmchpopllhnahaa
open Go.RowKit
set_option linter.unusedVariables false
theorem OwnW.lts {w : World} {base n c : Nat} {A : Option Addr} {L : List (Value × Wt)} (h : OwnW w base A n c L) : ∀ b ∈ (A.map Addr.block).toList, base ≤ b ∧ b < w.heap.size := by
  intro b hb
  rcases h.form with ⟨rfl, _⟩ | ⟨g, rfl, h1, h2⟩
  · simp at hb
  · simp at hb; subst hb; exact ⟨h1, h2⟩
theorem take_snoc {α : Type} {l : List α} {k : Nat} {p : α} (h : l[k]? = some p) : l.take (k + 1) = l.take k ++ [p] := by
  rw [List.take_add_one, h]; rfl
/-- The requests' bytes lie in no block of M. -/
def Els (w : World) (M : List Nat) (L : List (Value × Wt)) : Prop := ∀ q ∈ L, BV w M q.1 q.2.bs ∧ q.2.ok
theorem Els.step {w w' : World} {M M' : List Nat} {L : List (Value × Wt)} (h : Els w M L) (k : Step w M w' M') : Els w' M' L := fun q hq => ⟨(h q hq).1.step k, (h q hq).2⟩
theorem Els.grow {w w' : World} {M : List Nat} {L : List (Value × Wt)} (h : Els w M L) (k : Grow w w') : Els w' M L := h.step (.of_grow M k)
theorem wflat_one (v : Value) (p : Wt) : flat [(v, p)] = wtV v p := by simp [flat]
set_option maxRecDepth 100000 in
set_option maxHeartbeats 4000000 in
theorem qall_any {w : World} {base g n c : Nat} {A : Option Addr} {X : List Nat} {L : List (Value × Wt)} (h : QAt w base g X A n c L) :
    Calls Try.prog 20 #[.pointer (some ⟨g, 0, none⟩)] w fun e w' => ∃ A' c' L', e = .returned (.slice A' n c') ∧ XAt w' (qM g A) A' n L' ∧ L'.map Prod.snd = L.map Prod.snd ∧ Grow w w' ∧ n ≤ c' := by
  have HQ := Lib.hid h
  have HX := Lib.hid h.xat
  have HN := Lib.hid (show n ≤ 32 from h.big)
  have hn := h.big
  have HML := Lib.hid (fun b hb => (h.lts b hb).2)
  have HL := Lib.hid h.len
  obtain ⟨w_, hw⟩ : ∃ x, x = w := ⟨_, rfl⟩
  have HB := Lib.hid (show Below w.heap.size w w_ by rw [hw]; exact Below.refl _ _)
  suffices H : Calls Try.prog 20 #[.pointer (some ⟨g, 0, none⟩)] w_ fun e w' => ∃ A' c' L', e = .returned (.slice A' n c') ∧ XAt w' (qM g A) A' n L' ∧ L'.map Prod.snd = L.map Prod.snd ∧ Grow w w' ∧ n ≤ c' by rw [hw] at H; exact H
  have c0 := (HQ.out.grow HB.out).blk.at_ (i := 0) rfl
  clear hw h HQ
  go_enter Try.func20, Try.ntmps20
  go_wp2_with fail
  go_loopw [3, 11] (fun s3 iv wr => ∃ k : Nat, ∃ A3 c3 L3, k ≤ n ∧ iv = .int .i64 k ∧ s3 = .slice A3 k c3 ∧ Hid (OwnW wr w.heap.size A3 k c3 L3 ∧ L3.map Prod.snd = (L.take k).map Prod.snd ∧ Els wr (qM g A ++ (A3.map Addr.block).toList) L3 ∧ Below w.heap.size w wr)) (fun _ iv _ => n - (intOf iv).toNat)
  case atStart => exact ⟨0, none, 0, [], by omega, rfl, rfl, Lib.hid ⟨World.ownsRow_nil _ _ _ _, by simp, (fun q hq => by cases hq), HB.out⟩⟩
  case round =>
    obtain ⟨k, A3, c3, L3, hk, rfl, rfl, hI⟩ := hrel
    clear HB c0
    have HO := Lib.hid hI.out.1; have HM := Lib.hid hI.out.2.1; have HV := Lib.hid hI.out.2.2.1; have HB := Lib.hid hI.out.2.2.2
    clear hI
    rename World => w_
    by_cases hlt : k < n
    · obtain ⟨b, off, p, rfl, hp, hc, hbv, hok⟩ := HX.out.at_ hlt
      have HC := Lib.hid (fun j u (hu : (wtV p.1 p.2)[j]? = some u) => bcell HB.out (hc j u hu))
      have HPC := Lib.hid (wtV_cl p.2 hbv.one)
      have HCL := Lib.hid (fun w2 (hg : Grow w w2) => qclone_any (hbv.grow hg) hok)
      have HOK := Lib.hid hok
      have HP := Lib.hid hp
      unfold wtA at HCL
      obtain ⟨pv, hpv⟩ : ∃ q, q = wtV p.1 p.2 := ⟨_, rfl⟩
      rw [← hpv] at HC HPC HCL
      clear hp hok hc hpv hbv
      go_wp2_with (first | (with_reducible refine wpl_loadm (o := ⟨some 14, _, _, _, _, _⟩) rfl rfl row_wait HC.out rfl HPC.out.len ?_) | (with_reducible refine wpl_alloc (o := ⟨some 5, _, _, _, _, _⟩) rfl rfl zero_wait ?_))
      intro w1_ hb1_ hbw1_ hsz1_
      have HB1_ := Lib.hid (at_mk hb1_ len_wait)
      have HBW1_ := Lib.hid hbw1_
      have HZ1_ := Lib.hid hsz1_
      clear hb1_ hbw1_ hsz1_
      go_wp2_with (first | (with_reducible refine wpl_storeb (o := ⟨none, .store _ _ _, _, _, _, _⟩) rfl rfl row_wait HB1_.out.blk rfl rfl HB1_.out.len HPC.out.len HPC.out.one ?_))
      intro w2_ hb2_ hg2_ hsz2_
      have hb_ := var_grow HBW1_.out HZ1_.out hg2_
      have HX_ := Lib.hid (at_mk hb2_ HPC.out.len)
      clear hb2_ hg2_ hsz2_ HB1_ HBW1_ HZ1_
      have HB_ := Lib.hid (HB.out.grow' hb_)
      clear HB
      have HB := HB_
      clear HB_
      have HO_ := Lib.hid (HO.out.grow hb_)
      clear HO
      have HO := HO_
      clear HO_
      have HV_ := Lib.hid (HV.out.grow hb_)
      clear HV
      have HV := HV_
      clear HV_
      generalize hg_ : w_.heap.size = g5 at HX_ ⊢
      clear hg_
      have HE := HX_
      clear hb_ HX_
      clear w1_
      try clear w_
      rename World => w_
      go_wp2_with (first | (with_reducible refine wpl_loadb (o := ⟨some 16, _, _, _, _, _⟩) rfl rfl row_wait HE.out.blk rfl HE.out.len ?_))
      refine (HCL.out _ HB.out).mono ?_
      rintro e w2_ ⟨v', rfl, hv_, hb_⟩
      have HV2 := Lib.hid (hv_ (qM g (some ⟨b, off, none⟩) ++ (A3.map Addr.block).toList) (by
        intro b hb
        rcases List.mem_append.1 hb with hb | hb
        · exact Nat.lt_of_lt_of_le (HML.out b hb) HB.out.size
        · exact (HO.out.lts b hb).2))
      have HO_ := Lib.hid (HO.out.grow hb_); have HV_ := Lib.hid (HV.out.grow hb_); have HB_ := Lib.hid (HB.out.grow' hb_)
      clear hv_ hb_ HO HV HB HC HCL HE
      have HO := HO_; have HV := HV_; have HB := HB_
      clear HO_ HV_ HB_
      try clear w_
      rename World => w_
      have HD := Lib.hid (wtV_cl p.2 HV2.out.one)
      obtain ⟨ys, hys⟩ : ∃ q, q = wtV v' p.2 := ⟨_, rfl⟩
      have HYS := Lib.hid hys
      rw [← hys] at HD ⊢
      clear hys
      have v1 : IntKind.i64.wrap ((k : Int) + 1) = (k : Int) + 1 := IntWalk.i64_in _ (by omega)
      go_wp2_with (first | (with_reducible refine wpl_row1 (o := ⟨some 18, _, _, _, _, _⟩) rfl rfl el_wait rfl HD.out.len (by decide) ?_))
      intro w3_ hb3_ hb_ hs3_
      have HROW := Lib.hid (hb3_.sl (sz := 4) (n := 1) (by rw [HD.out.len]))
      have HSZ3 := Lib.hid (show w.heap.size ≤ w3_.heap.size by have := HB.out.size; omega)
      have HO_ := Lib.hid (HO.out.grow hb_); have HV_ := Lib.hid (HV.out.grow hb_); have HB_ := Lib.hid (HB.out.grow' hb_); have HV2_ := Lib.hid (HV2.out.grow hb_)
      generalize w_.heap.size = q at hb3_ HROW ⊢
      clear hb3_ hb_ hs3_ HO HV HB HV2
      have HO := HO_; have HV := HV_; have HB := HB_; have HV2 := HV2_
      clear HO_ HV_ HB_ HV2_
      try clear w_
      rename World => w_
      have HO2 := Lib.hid (show w_.ownsRow w.heap.size 29 4 (.slice A3 k c3) k (flat L3) from HO.out)
      go_wp2_with (first | (at_builtin; refine wpl_apps rfl rfl el_wait HO2.out rfl HROW.out rfl HD.out.one (by clear v1; omega) (by clear v1; omega) HSZ3.out ?_))
      intro A4 c4 w4 ho hg hA
      have HA := Lib.hid (show A4.map Addr.block = A3.map Addr.block ∨ ∃ b, A4.map Addr.block = some b ∧ w_.heap.size ≤ b from hA.imp id fun h => by
        first
          | exact ⟨_, h, Nat.le_refl _⟩
          | (obtain ⟨a, rfl, e⟩ := h; exact ⟨_, rfl, Nat.le_of_eq e.symm⟩))
      have HG := Lib.hid hg
      have HST := Lib.hid (show Step w_ (qM g (some ⟨b, off, none⟩) ++ (A3.map Addr.block).toList) w4 (qM g (some ⟨b, off, none⟩) ++ (A4.map Addr.block).toList) from ⟨⟨HG.out.os, HG.out.tape, HG.out.output, HG.out.size, fun i hi hn => HG.out.block i hi (fun e => hn (List.mem_append_right _ (by rw [← e]; simp)))⟩, fun x hx => by
        rcases List.mem_append.1 hx with hx | hx
        · exact .inl (List.mem_append_left _ hx)
        · rcases HA.out with h | ⟨b', h, hb'⟩
          · rw [h] at hx; exact .inl (List.mem_append_right _ hx)
          · rw [h] at hx; simp at hx; subst hx; exact .inr hb'⟩)
      have HO4 := Lib.hid (show OwnW w4 w.heap.size A4 (k + 1) c4 (L3 ++ [(v', p.2)]) by unfold OwnW; rw [flat_append, wflat_one, ← HYS.out]; exact ho)
      have HV4 := Lib.hid (show Els w4 (qM g (some ⟨b, off, none⟩) ++ (A4.map Addr.block).toList) (L3 ++ [(v', p.2)]) from Els.step (fun q hq => by
        rcases List.mem_append.1 hq with hq | hq
        · exact HV.out q hq
        · rw [List.mem_singleton] at hq; subst hq; exact ⟨HV2.out, HOK.out⟩) HST.out)
      have HM4 := Lib.hid (show (L3 ++ [(v', p.2)]).map Prod.snd = (L.take (k + 1)).map Prod.snd by rw [take_snoc HP.out, List.map_append, List.map_append, HM.out]; rfl)
      have HB4 := Lib.hid (show Below w.heap.size w w4 from HB.out.grown HG.out HSZ3.out (fun q hq => own_from HO.out q hq))
      clear ho hg hA HA HG HST HO HV HV2 HB HM HROW HO2
      go_wp2_with fail
      go_roundw
      all_goals clear v1
      case rel => exact ⟨k + 1, A4, c4, _, by omega, by go_num, rfl, Lib.hid ⟨HO4.out, HM4.out, HV4.out, HB4.out⟩⟩
      case measure => simp [intOf]; omega
    · obtain rfl : k = n := by omega
      go_wp2_with fail
      go_ret
      refine ⟨A3, c3, L3, rfl, ⟨HO.out.len, Sl.of_own HO.out, fun _ b hb hm => ?_, fun q hq => ⟨(HV.out q hq).1.sub (fun b hb => List.mem_append_left _ hb), (HV.out q hq).2⟩⟩, ?_, HB.out, HO.out.cap.1⟩
      · have h1 := own_from HO.out b hb
        have h2 := HML.out b hm
        omega
      · rw [HM.out, List.take_of_length_le (by rw [HL.out]; exact Nat.le_refl _)]
end Go.Proofs.Ytmchpopllhnahaa

/- The contract of marks.Prune. -/
import Derived.Test.YtolbbhbfbpiljaaMarkQ
namespace Go.Proofs.Ytolbbhbfbpiljaa
open Go.RowKit Go.Maps Go.Sort Go.Shelf
set_option linter.unusedVariables false
theorem prune_cnt (ep : Int) : ∀ (ks : List KeyS) (s : MarksL × Nat), (ks.foldl (pruneS ep) s).2 ≤ s.2 + ks.length
  | [], s => by simp
  | k :: ks, s => by
    rw [List.foldl_cons, List.length_cons]
    have h1 := prune_cnt ep ks (pruneS ep s k)
    have h2 : (pruneS ep s k).2 ≤ s.2 + 1 := by unfold pruneS; split <;> simp
    omega
theorem fold_snoc {α β : Type} (f : β → α → β) (l : List α) (s : β) {k : Nat} {x : α} (h : l[k]? = some x) : (l.take (k + 1)).foldl f s = f ((l.take k).foldl f s) x := by
  rw [List.take_add_one, h]
  simp
set_option maxRecDepth 100000 in
set_option maxHeartbeats 4000000 in
theorem prune_any (g b : Nat) (L : MarksL) (ep : Int) (w : World) (h : MarksAt w g b L) (hn : L.length ≤ 1000000) (hep : I64 ep) :
    Calls Try.prog 14 #[.pointer (some ⟨g, 0, none⟩), .int .i64 ep] w fun e w' => ∃ c : Nat, e = .returned (.int .i64 c) ∧ c + (keptM ep L).length = L.length ∧ MarksAt w' g b (keptM ep L) ∧ Touched [b] w w' := by
  have HH := Lib.hid h
  have HEP := Lib.hid hep
  have HLL := Lib.hid hn
  have hg := h.ltg; have hb := h.ltb; have hgb := h.ne
  have HGB := Lib.hid hgb
  have HK := Lib.hid (mkeys_any g b L w h hn)
  obtain ⟨z, hz⟩ : ∃ z, z = w.heap.size := ⟨_, rfl⟩
  rw [← hz] at hg hb
  have HZ := Lib.hid hz
  clear h hep hn hz hgb
  go_enter Try.func14, Try.ntmps14
  go_wp2_with fail
  refine HK.out.mono ?_
  rintro e w1 ⟨v, ks, rfl, hperm, _, hrow, hb1⟩
  obtain ⟨A, c, rfl, hkr⟩ := krow_of hrow
  have HP := Lib.hid (prune_all ep hperm HH.out.ok.2)
  have HKL := Lib.hid (show ks.length ≤ 1000000 by have := hperm.length_eq; rw [List.length_map, List.length_map] at this; have := HLL.out; omega)
  have HKR := Lib.hid hkr
  have HT0 := Lib.hid (Touched.of_below (l := [b]) hb1)
  have HM0 := Lib.hid (HH.out.call hb1)
  have hnk : ks.length ≤ 1000000 := HKL.out
  clear hperm hrow hkr hb1 HK HH
  rw [← HZ.out] at HKR
  obtain ⟨n, hn⟩ : ∃ n, n = ks.length := ⟨_, rfl⟩
  rw [← hn] at hnk ⊢
  have HN := Lib.hid hn
  clear hn
  go_wp2_with fail
  go_loopw [5, 11] (fun s5 iv wr => ∃ k c : Nat, k ≤ n ∧ c ≤ k ∧ iv = .int .i64 k ∧ s5 = .int .i64 c ∧ Hid (∃ Lk, (ks.take k).foldl (pruneS ep) (L, 0) = (Lk, c) ∧ MarksAt wr g b Lk ∧ Touched [b] w wr ∧ KRow wr z A ks)) (fun _ iv _ => n - (intOf iv).toNat)
  case atStart => exact ⟨0, 0, by omega, by omega, rfl, rfl, Lib.hid ⟨L, rfl, HM0.out, HT0.out, HKR.out⟩⟩
  case round =>
    obtain ⟨k, c, hk, hck, rfl, rfl, hI⟩ := hrel
    clear HM0 HT0 HKR
    obtain ⟨Lk, hLk, hM, hT, hKR⟩ := hI.out
    have HLK := Lib.hid hLk; have HM := Lib.hid hM; have HT := Lib.hid hT; have HKR := Lib.hid hKR
    clear hI hLk hM hT hKR
    by_cases hlt : k < n
    · have hkk : ks[k]? = some (ks[k]'(by have := HN.out; omega)) := List.getElem?_eq_getElem _
      obtain ⟨x, hx⟩ : ∃ x, x = ks[k]'(by have := HN.out; omega) := ⟨_, rfl⟩
      rw [← hx] at hkk
      obtain ⟨gb, rfl, hgb1, hgb2, hcell⟩ := HKR.out k x hkk
      have HS := Lib.hid (fold_snoc (pruneS ep) ks (L, 0) hkk)
      rw [HLK.out] at HS
      obtain ⟨m, hm1, hm2, hm3⟩ := HM.out.look0 x.2
      have HMO := Lib.hid hm1
      have hlk : ∀ w', MarksAt w' g b Lk → (Instr.lookup 108 (.map (some b)) (mkA x.1) false).run Try.prog w' = .ok (markA m) w' := by
        intro w' h'
        obtain ⟨c', _, e, h2⟩ := h'.look0 x.2
        rw [hm2, ← e]; exact h2
      have HLO := Lib.hid hlk
      have HFE := Lib.hid (fun w => fld_exp hm1 w)
      obtain ⟨r, hr⟩ : ∃ r, oldB m.expiry ep = r := ⟨_, rfl⟩
      have HOLD := Lib.hid (fun w => old_any m.expiry ep w HMO.out.2.2.2 HEP.out hr)
      have HST := Lib.hid (show pruneS ep (Lk, c) x = if r = true then (dropM Lk x.1, c + 1) else (Lk, c) by unfold pruneS; rw [← hm2, hr])
      obtain ⟨es, es', clock, d1, d2, d3, d4, d5⟩ := mdel_map HM.out x.2
      have HD1 := Lib.hid d1; have HD2 := Lib.hid d2; have HD3 := Lib.hid d3; have HD4 := Lib.hid d4; have HD5 := Lib.hid d5
      have HCE := Lib.hid hcell
      have HXL := Lib.hid (encKey_len x); have HX1 := Lib.hid (encKey_one x)
      have HZL := Lib.hid (encKey_len default)
      have HGB1 := Lib.hid (show z ≤ wr.heap.size from Nat.le_trans hgb1 (Nat.le_of_lt hgb2))
      clear hkk hx hcell hm1 hm2 hm3 hlk hr d1 d2 d3 d4 d5 hgb1 hgb2
      obtain ⟨xs, hxs⟩ : ∃ q, q = encKey x := ⟨_, rfl⟩
      have HXE := Lib.hid hxs
      rw [← hxs] at HCE HXL HX1
      rw [show mkA x.1 = .agg xs.toArray by rw [hxs]; rfl] at HLO HD5
      obtain ⟨ms, hms⟩ : ∃ q, q = markV m := ⟨_, rfl⟩
      obtain ⟨ex, hex⟩ : ∃ q, q = m.expiry := ⟨_, rfl⟩
      rw [markA, ← hms] at HLO
      rw [← hms, ← hex] at HFE
      rw [← hex] at HOLD
      clear hxs hms hex
      go_wp2_with (first | (with_reducible refine wpl_loadm (o := ⟨some 14, _, _, _, _, _⟩) rfl rfl row_mkey HCE.out rfl HXL.out ?_) | (with_reducible refine wpl_alloc (o := ⟨some 7, _, _, _, _, _⟩) rfl rfl zero_key ?_))
      intro w2 hb2 hbw2 hsz2
      have HB2 := Lib.hid hb2
      have HT2 := Lib.hid (HT.out.step hbw2)
      have HM2 := Lib.hid (HM.out.call hbw2)
      have HTR := Lib.hid (Touched.of_below (l := [b]) hbw2)
      have HD12 := Lib.hid ((hbw2.block b HM.out.ltb).trans HD1.out)
      obtain ⟨gk, hgk⟩ : ∃ q, q = wr.heap.size := ⟨_, rfl⟩
      rw [← hgk] at HB2 HGB1 ⊢
      have HGK := Lib.hid (show z ≤ gk from HGB1.out)
      have HGR := Lib.hid hgk
      clear hb2 hbw2 hsz2 HT HM HD1 HCE hgk HGB1
      go_wp2_with (first | (with_reducible refine wpl_storeb (o := ⟨none, .store _ _ _, _, _, _, _⟩) rfl rfl row_mkey HB2.out rfl rfl HZL.out HXL.out HX1.out ?_))
      intro w3 hb3 hg3 hs3
      have hgz := HGK.out
      have HB3 := Lib.hid hb3
      have HT3 := Lib.hid (HT2.out.grown hg3 (.inr (by have := HZ.out; omega)))
      have HM3 := Lib.hid (show MarksAt w3 g b Lk from by
        obtain ⟨q1, ⟨e1, c1, q2, q3, q4⟩, q5, q6⟩ := HM2.out
        exact ⟨q1.grown hg3 (by simp; omega), ⟨e1, c1, (hg3.block b (Array.getElem?_eq_some_iff.1 q2).1 (by simp; omega)).trans q2, q3, q4⟩, q5, q6⟩)
      have HD13 := Lib.hid ((hg3.block b HM2.out.ltb (by simp; omega)).trans HD12.out)
      have HKR3 := Lib.hid (HKR.out.touched (HTR.out.grown hg3 (.inr (Nat.le_of_eq HGR.out.symm))) hb)
      clear hb3 hg3 hs3 HB2 HT2 HM2 HKR HTR HD12 hgz
      generalize hz3 : w3.heap.size = z3
      repeat' (first | (with_reducible refine wp_phase (id := 5) (fun (_ : Nat) w' => Below w3.heap.size w3 w') [] [(0,0),(0,0),(0,0),(0,0),(0,0),(0,0),(0,0),(0,0),(0,0)] (by kernel_rfl) (by kernel_rfl) ?_ ?_) | go_values | go_skip | go_guarded | go_step | go_upon | go_back)
      · exact Drawn.all (Drawn.one w3)
      have HF := Lib.hid (show ∀ w', Below w3.heap.size w3 w' → w'.cell? ⟨g, 0, none⟩ = some (.map (some b)) from fun w' h => (HM3.out.call h).blk.at_ rfl)
      have HL := Lib.hid (show ∀ w', Below w3.heap.size w3 w' → (Instr.lookup 108 (.map (some b)) (.agg xs.toArray) false).run Try.prog w' = .ok (.agg ms.toArray) w' from fun w' h => HLO.out w' (HM3.out.call h))
      refine ph_value rfl (by first | rfl | go_simp) (fun k_ _ _ w_ hC_ => by first | (go_simp; rfl) | (go_simp; done) | rfl) (fun K hK => ?_)
      go_simp
      refine hK _ ?_
      clear hK K
      refine ph_value rfl (by first | rfl | go_simp) (fun k_ _ _ w_ hC_ => by first | (go_simp; rfl) | (go_simp; done) | rfl) (fun K hK => ?_)
      go_simp
      refine hK _ ?_
      clear hK K
      refine ph_value rfl (by first | rfl | go_simp) (fun k_ _ _ w_ hC_ => by first | (go_simp; rfl) | (go_simp; done) | rfl) (fun K hK => ?_)
      go_simp
      refine hK _ ?_
      clear hK K
      refine ph_value rfl (by first | rfl | go_simp) (fun k_ _ _ w_ hC_ => by have c1 := HF.out _ hC_; first | (go_simp; rfl) | (go_simp; done) | rfl) (fun K hK => ?_)
      go_simp
      refine hK _ ?_
      clear hK K
      refine ph_load rfl rfl rfl row_mkey (fun k _ _ w h => HB3.out.call h) rfl HXL.out ?_
      (intro K hK; go_simp; refine hK _ ?_; clear hK K)
      refine ph_value rfl (by first | rfl | go_simp) (fun k_ _ _ w_ hC_ => by have c1 := HL.out _ hC_; first | (go_simp; rfl) | (go_simp; done) | rfl) (fun K hK => ?_)
      go_simp
      refine hK _ ?_
      clear hK K
      refine ph_value rfl (by first | rfl | go_simp) (fun k_ _ _ w_ hC_ => by have c1 := HFE.out w_; first | (go_simp; rfl) | (go_simp; done) | rfl) (fun K hK => ?_)
      go_simp
      refine hK _ ?_
      clear hK K
      refine ph_value rfl (by first | rfl | go_simp) (fun k_ _ _ w_ hC_ => by first | (go_simp; rfl) | (go_simp; done) | rfl) (fun K hK => ?_)
      go_simp
      refine hK _ ?_
      clear hK K
      refine ph_call rfl (by first | rfl | go_simp) (fun w => by first | rfl | (go_simp; rfl) | go_simp) (fun k _ _ w h => (HOLD.out w).mono fun e w' ⟨he, hw⟩ => ⟨he, hw ▸ h⟩) ?_
      (intro K hK; go_simp; refine hK _ ?_; clear hK K)
      refine ph_nil ?_
      intro w4 hl4
      have HB4 := Lib.hid (HB3.out.call hl4)
      have HT4 := Lib.hid (HT3.out.step hl4)
      have HM4 := Lib.hid (HM3.out.call hl4)
      have HD14 := Lib.hid ((hl4.block b HM3.out.ltb).trans HD13.out)
      have HKR4 := Lib.hid (HKR3.out.touched (Touched.of_below (l := [b]) hl4) hb)
      clear hl4 HF HL HB3 HT3 HM3 HD13 HKR3 hz3
      cases r with
      | false =>
        go_wp2_with fail
        go_roundw
        case rel => exact ⟨k + 1, c, by omega, by omega, by go_num, rfl, Lib.hid ⟨Lk, by rw [HS.out, HST.out]; rfl, HM4.out, HT4.out, HKR4.out⟩⟩
        case measure => simp [intOf]; omega
      | true =>
        go_wp2_with fail
        repeat' (first | (with_reducible refine wp_phase (id := 6) (delM w4 g b es es' clock) [5] [(0,1),(0,1),(0,1),(0,1),(0,1),(0,0)] (by kernel_rfl) (by kernel_rfl) ?_ ?_) | go_values | go_skip | go_guarded | go_step | go_upon | go_back)
        · exact ⟨Touched.of_below (Drawn.all (Drawn.one w4)), rfl, HD14.out, HM4.out.blk⟩
        have HF := Lib.hid (show ∀ k w', delM w4 g b es es' clock k w' → w'.cell? ⟨g, 0, none⟩ = some (.map (some b)) from fun k w' h => h.2.2.2.at_ rfl)
        have HX1 := Lib.hid (show ∀ k w', delM w4 g b es es' clock k w' → Blk w' gk 112 xs from fun k w' h => (h.1.block gk HB4.out.lt (by have := HGK.out; simp; omega)).trans HB4.out)
        refine ph_value rfl (by first | rfl | go_simp) (fun k_ _ _ w_ hC_ => by first | (go_simp; rfl) | (go_simp; done) | rfl) (fun K hK => ?_)
        go_simp
        refine hK _ ?_
        clear hK K
        refine ph_value rfl (by first | rfl | go_simp) (fun k_ _ _ w_ hC_ => by first | (go_simp; rfl) | (go_simp; done) | rfl) (fun K hK => ?_)
        go_simp
        refine hK _ ?_
        clear hK K
        refine ph_value rfl (by first | rfl | go_simp) (fun k_ _ _ w_ hC_ => by first | (go_simp; rfl) | (go_simp; done) | rfl) (fun K hK => ?_)
        go_simp
        refine hK _ ?_
        clear hK K
        refine ph_value rfl (by first | rfl | go_simp) (fun k_ _ _ w_ hC_ => by have c1 := HF.out _ _ hC_; first | (go_simp; rfl) | (go_simp; done) | rfl) (fun K hK => ?_)
        go_simp
        refine hK _ ?_
        clear hK K
        refine ph_load rfl rfl rfl row_mkey (fun k _ _ w h => HX1.out k w h) rfl HXL.out ?_
        (intro K hK; go_simp; refine hK _ ?_; clear hK K)
        refine ph_run 0 rfl rfl rfl (by first | rfl | go_simp) (fun w' hC => ⟨_, by (have hrun := fun ty => HD5.out w' ty hC.2.2.1); first | (go_simp; rfl) | (go_simp; exact ⟨rfl, rfl⟩) | go_simp, ⟨hC.1.grown (withBlk_grown _ _ _) (.inl (by simp)), by rw [withBlk_size, hC.2.1], withBlk_heap hC.2.2.1, hC.2.2.2.grown (withBlk_grown _ _ _) (by simpa using HGB.out)⟩⟩) ?_
        (intro K hK; go_simp; refine hK _ ?_; clear hK K)
        refine ph_nil ?_
        intro w5 hC5
        have HM5 := Lib.hid (show MarksAt w5 g b (dropM Lk x.1) from ⟨hC5.2.2.2, ⟨es', clock, hC5.2.2.1, HD2.out, HD3.out⟩, HD4.out, HGB.out⟩)
        have HT5 := Lib.hid (HT4.out.trans hC5.1)
        have HKR5 := Lib.hid (HKR4.out.touched hC5.1 hb)
        clear hC5 HF HX1
        go_wp2_with fail
        go_roundw
        case rel => exact ⟨k + 1, c + 1, by omega, by omega, by go_num, by go_num, Lib.hid ⟨dropM Lk x.1, by rw [HS.out, HST.out]; rfl, HM5.out, HT5.out, HKR5.out⟩⟩
        case measure => simp [intOf]; omega
    · obtain rfl : k = n := by omega
      have hp := HP.out
      have hl := HLK.out
      rw [HN.out, List.take_length] at hl
      rw [hl] at hp
      have HPP := Lib.hid hp
      clear hp hl
      go_wp2_with fail
      go_ret
      refine ⟨c, rfl, HPP.out.2, ?_, HT.out⟩
      have h1 : Lk = keptM ep L := HPP.out.1
      rw [← h1]; exact HM.out
end Go.Proofs.Ytolbbhbfbpiljaa

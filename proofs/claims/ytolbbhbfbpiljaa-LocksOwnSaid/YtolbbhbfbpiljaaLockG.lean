/- slices.DeleteFunc at the function of locks.Of; the contract of locks.Of. -/
import Derived.Test.YtolbbhbfbpiljaaLockF
namespace Go.Proofs.Ytolbbhbfbpiljaa
open Go.RowKit Go.Sort
set_option linter.unusedVariables false
theorem zero_ptz : (Try.prog.info? 52).map (·.zero) = some (some (.agg (encPt default).toArray)) := by kernel_rfl
set_option maxRecDepth 100000 in
set_option maxHeartbeats 4000000 in
theorem delf_any (Z : Nat) (w0 : World) (hZ : Z ≤ w0.heap.size) (Bl Bi : Nat) (dl : PtS → Bool) (HD : ∀ w', Below Z w0 w' → ∀ x : PtS, Calls Try.prog 56 #[ptA x.1, .pointer (some ⟨Bl, 0, none⟩), .pointer (some ⟨Bi, 0, none⟩)] w' fun e w'' => e = .returned (.bool (dl x)) ∧ Below w'.heap.size w' w'')
    {A : Option Addr} {n c : Nat} {ks : List PtS} (w : World) (hB : Below Z w0 w) (h : OwnP w Z A n c ks) (hn : n ≤ 1000000) :
    Calls Try.prog 54 #[.slice A n c, ofV Bl Bi] w fun e w' => ∃ m, e = .returned (.slice A m c) ∧ OwnP w' Z A m c (ks.filter fun x => !dl x) ∧ Below Z w0 w' := by
  have HO := Lib.hid h; have HL := Lib.hid h.len; have HB0 := Lib.hid hB; have HDD := Lib.hid HD; have HZZ := Lib.hid (Nat.le_trans hZ hB.size)
  have HIX := Lib.hid (ix_any Z w0 hZ Bl Bi dl HD w hB h hn)
  have HZL := Lib.hid (encPt_len default)
  unfold ofV at HIX ⊢
  clear h HD hB
  go_enter Try.func54, Try.ntmps54
  go_wp2_with fail
  refine HIX.out.mono ?_
  rintro e w1 ⟨r, rfl, hr, hb1⟩
  have HB1 := Lib.hid (HB0.out.trans (hb1.mono HZZ.out))
  have HO1 := Lib.hid (HO.out.call hb1)
  clear hb1 HIX HB0 HO
  rcases hr with ⟨rfl, hall⟩ | ⟨i0, x0, rfl, hx0, hd0, hpre⟩
  · have HF := Lib.hid (show ks.filter (fun x => !dl x) = ks from List.filter_eq_self.2 fun x hx => by rw [hall x hx]; rfl)
    clear hall
    go_wp2_with fail
    go_ret
    exact ⟨n, rfl, by rw [HF.out]; exact HO1.out, HB1.out⟩
  · have hi0 : i0 < n := by have := (List.getElem?_eq_some_iff.1 hx0).1; have := HL.out; omega
    obtain ⟨g, cur0, rfl, hg1, hg2, hnc, hcm, -⟩ := HO1.out.form (by omega)
    have HS0 := Lib.hid (show ks.take i0 = (ks.take (i0 + 1)).filter fun x => !dl x by
      rw [List.take_add_one, hx0, List.filter_append, show (some x0).toList.filter (fun x => !dl x) = [] from by simp [hd0], List.append_nil]
      exact (List.filter_eq_self.2 fun x hx => by rw [hpre x hx]; rfl).symm)
    have hc63 : c ≤ 9223372036854775807 := by unfold maxLen at hcm; omega
    have q0 : ((i0 : Int) == -1) = false := beq_eq_false_iff_ne.2 (by omega)
    have HGZ := Lib.hid hg1
    clear hx0 hd0 hpre hg1 hcm hg2
    go_wp2_with fail
    go_loopw [5, 6] (fun s5 iv wr => ∃ i j : Nat, i < j ∧ j ≤ n ∧ s5 = .int .i64 i ∧ iv = .int .i64 j ∧ Hid (∃ ys, OwnP wr Z (some ⟨g, 0, none⟩) n c ys ∧ ys.take i = (ks.take j).filter (fun x => !dl x) ∧ ys.drop j = ks.drop j ∧ Below Z w0 wr ∧ g < wr.heap.size)) (fun _ iv _ => n - (intOf iv).toNat)
    case atStart => exact ⟨i0, i0 + 1, by omega, by omega, rfl, by go_num, Lib.hid ⟨ks, HO1.out, HS0.out, rfl, HB1.out, by obtain ⟨g', _, hA, _, hlt, _⟩ := HO1.out.form (by omega); injection hA with hA; injection hA with hA; subst hA; exact hlt⟩⟩
    case round =>
      obtain ⟨i, j, hij, hj, rfl, rfl, hI⟩ := hrel
      clear HB1 HO1 HS0
      obtain ⟨ys, hO, hT, hD, hB, hG⟩ := hI.out
      have HO := Lib.hid hO; have HT := Lib.hid hT; have HD := Lib.hid hD; have HB := Lib.hid hB; have HG := Lib.hid hG
      clear hI hO hT hD hB hG
      by_cases hlt : j < n
      · have hyl := HO.out.len
        have hkk : ks[j]? = some (ks[j]'(by have := HL.out; omega)) := List.getElem?_eq_getElem _
        obtain ⟨x, hx⟩ : ∃ x, x = ks[j]'(by have := HL.out; omega) := ⟨_, rfl⟩
        rw [← hx] at hkk
        have hyk : ys[j]? = some x := by
          have h1 : (ys.drop j)[0]? = (ks.drop j)[0]? := by rw [HD.out]
          rw [List.getElem?_drop, List.getElem?_drop, Nat.add_zero] at h1
          rw [h1]; exact hkk
        have HKK := Lib.hid hkk
        have HCE := Lib.hid (HO.out.at_ hyk)
        have HXL := Lib.hid (encPt_len x); have HX1 := Lib.hid (encPt_one x)
        have HYL := Lib.hid hyl
        obtain ⟨xs, hxs⟩ : ∃ q, q = encPt x := ⟨_, rfl⟩
        have HXE := Lib.hid hxs
        rw [← hxs] at HCE HXL HX1
        clear hkk hx hyk hxs hyl
        go_wp2_with (first | (with_reducible refine wpl_loadm (o := ⟨some 25, _, _, _, _, _⟩) rfl rfl row_point HCE.out rfl HXL.out ?_) | (with_reducible refine wpl_alloc (o := ⟨some 7, _, _, _, _, _⟩) rfl rfl zero_ptz ?_))
        intro w2 hb2 hbw2 hsz2
        have HV2 := Lib.hid hb2
        have HO2 := Lib.hid (HO.out.call hbw2)
        have HB2 := Lib.hid (HB.out.trans (hbw2.mono (Nat.le_trans hZ HB.out.size)))
        have HGN := Lib.hid (show g ≠ wr.heap.size ∧ Z ≤ wr.heap.size from ⟨by have := HG.out; omega, Nat.le_trans hZ HB.out.size⟩)
        have HG2 := Lib.hid (show g < w2.heap.size by have := HG.out; omega)
        clear hb2 hbw2 hsz2 HO HB HG HCE
        obtain ⟨gv, hgv⟩ : ∃ q, q = wr.heap.size := ⟨_, rfl⟩
        rw [← hgv] at HV2 HGN ⊢
        clear hgv
        go_wp2_with (first | (with_reducible refine wpl_storeb (o := ⟨none, .store _ _ _, _, _, _, _⟩) rfl rfl row_point HV2.out rfl rfl HZL.out HXL.out HX1.out ?_))
        intro w3 hb3 hg3 hs3
        have HV3 := Lib.hid hb3
        have HO3 := Lib.hid (own_of_block HO2.out (w' := w3) fun q hq => by
          have : q = g := by simpa using hq.symm
          subst this
          exact hg3.block q HG2.out (by have := HGN.out.1; simpa using this))
        have HB3 := Lib.hid (HB2.out.grown hg3 (Nat.le_trans hZ HB2.out.size) (fun q hq => by cases hq; exact HGN.out.2))
        have HG3 := Lib.hid (show g < w3.heap.size by rw [hs3]; exact HG2.out)
        clear hb3 hg3 hs3 HV2 HO2 HB2 HG2
        have HCL := Lib.hid (HDD.out w3 HB3.out x)
        rw [show ptA x.1 = .agg (encPt x).toArray from rfl, ← HXE.out] at HCL
        obtain ⟨r, hr⟩ : ∃ r, r = dl x := ⟨_, rfl⟩
        rw [← hr] at HCL
        have HRX := Lib.hid hr
        clear hr
        go_wp2_with (first | (with_reducible refine wpl_loadb (o := ⟨some 27, _, _, _, _, _⟩) rfl rfl row_point HV3.out rfl HXL.out ?_))
        refine HCL.out.mono ?_
        rintro e w4 ⟨rfl, hb4⟩
        have HV4 := Lib.hid (HV3.out.call hb4)
        have HO4 := Lib.hid (OwnP.call HO3.out hb4)
        have HB4 := Lib.hid (HB3.out.trans (hb4.mono (Nat.le_trans hZ HB3.out.size)))
        have HG4 := Lib.hid (Nat.lt_of_lt_of_le HG3.out hb4.size)
        clear hb4 HV3 HO3 HB3 HG3 HCL
        have HDN := Lib.hid (show ys.drop (j + 1) = ks.drop (j + 1) by
          have h1 := congrArg (List.drop 1) HD.out
          rw [List.drop_drop, List.drop_drop] at h1; exact h1)
        cases r with
        | true =>
          have HTN := Lib.hid (show ys.take i = (ks.take (j + 1)).filter (fun x => !dl x) by
            rw [List.take_add_one, HKK.out, List.filter_append, show (some x).toList.filter (fun x => !dl x) = [] from by simp [← HRX.out], List.append_nil]; exact HT.out)
          go_wp2_with fail
          go_roundw
          case rel => exact ⟨i, j + 1, by omega, by omega, rfl, by go_num, Lib.hid ⟨ys, HO4.out, HTN.out, HDN.out, HB4.out, HG4.out⟩⟩
          case measure => simp [intOf]; omega
        | false =>
          have HTN := Lib.hid (show (ys.set i x).take (i + 1) = (ks.take (j + 1)).filter (fun x => !dl x) by
            have hl := HYL.out
            rw [List.take_add_one (l := ks), HKK.out, List.filter_append, show (some x).toList.filter (fun x => !dl x) = [x] from by simp [← HRX.out], List.take_add_one, List.getElem?_set_self (by omega), List.take_set_of_le (Nat.le_refl _), HT.out]; rfl)
          have HDS := Lib.hid (show (ys.set i x).drop (j + 1) = ks.drop (j + 1) by rw [List.drop_set, if_pos (by omega)]; exact HDN.out)
          obtain ⟨g', cur, hA, hZg, _, _, _, hblk, hcl, _⟩ := HO4.out.form (by omega)
          injection hA with hA; injection hA with hA; subst hA
          have HBK := Lib.hid hblk
          have HCL2 := Lib.hid (show i * 33 + 33 ≤ cur.length by rw [hcl]; omega)
          have hin : i < n := by omega
          clear hblk hcl
          go_wp2_with (first | (with_reducible refine wpl_loadb (o := ⟨some 32, _, _, _, _, _⟩) rfl rfl row_point HV4.out rfl HXL.out ?_) | (with_reducible refine wpl_storep (o := ⟨none, .store _ _ _, _, _, _, _⟩) rfl rfl row_point HBK.out rfl rfl HXL.out HCL2.out HX1.out ?_))
          intro w5 hb5 hg5 hs5
          rw [HXE.out] at hb5
          have HO5 := Lib.hid (HO4.out.set_ hin HBK.out x hb5)
          have HB5 := Lib.hid (HB4.out.grown hg5 (Nat.le_trans hZ HB4.out.size) (fun q hq => by cases hq; exact hZg))
          have HG5 := Lib.hid (show g < w5.heap.size by rw [hs5]; exact HG4.out)
          clear hb5 hg5 hs5
          go_wp2_with fail
          go_roundw
          case rel => exact ⟨i + 1, j + 1, by omega, by omega, by go_num, by go_num, Lib.hid ⟨ys.set i x, HO5.out, HTN.out, HDS.out, HB5.out, HG5.out⟩⟩
          case measure => simp [intOf]; omega
      · obtain rfl : j = n := by omega
        have HFL := Lib.hid (show ys.take i = ks.filter (fun x => !dl x) by
          have h1 := HT.out
          rw [List.take_of_length_le (l := ks) (i := j) (by have := HL.out; omega)] at h1; exact h1)
        have HTK := Lib.hid (own_take (i := i) HO.out (by omega))
        obtain ⟨g', cur, hA, hZg, _, hjc, _, _, _, _⟩ := HO.out.form (by omega)
        injection hA with hA; injection hA with hA; subst hA
        obtain ⟨w5, hr5, ho5, hg5, hs5⟩ := run_clear_own (ty := 0) (m := j - i) (c2 := c - i) el_pt zero_ptz (encPt_one default) HTK.out (by omega)
        have HO5 := Lib.hid (show OwnP w5 Z (some ⟨g, 0, none⟩) i c (ks.filter fun x => !dl x) by rw [pf_take, HFL.out] at ho5; exact ho5)
        have HB5 := Lib.hid (HB.out.grown hg5 (Nat.le_trans hZ HB.out.size) (fun q hq => by cases hq; exact hZg))
        have HR5 := Lib.hid hr5
        have q1 : i ≤ j := by omega
        have q2 : (i : Int) ≤ (j : Int) := by omega
        have q3 : i ≤ c := by omega
        have q4 : (i : Int) ≤ (c : Int) := by omega
        have q5 : ¬ ((i : Int) = (c : Int)) := by omega
        have q6 : ((i : Int) == (c : Int)) = false := beq_eq_false_iff_ne.2 q5
        have q7 : ¬ (c = i) := by omega
        clear ho5 hg5 hs5 hr5
        go_wp2_with (first | (refine wpl_clear_run (o := ⟨none, .call _, _, _, _, _⟩) rfl rfl (by first | rfl | (go_simp; done)) HR5.out ?_))
        go_ret
        exact ⟨i, rfl, HO5.out, HB5.out⟩
end Go.Proofs.Ytolbbhbfbpiljaa

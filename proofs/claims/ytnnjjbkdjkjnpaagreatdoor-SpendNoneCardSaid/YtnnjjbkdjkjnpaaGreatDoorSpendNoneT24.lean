/- The document's coins: Put, Take. Printed by mkrlc.py. -/
import Derived.Test.YtnnjjbkdjkjnpaaGreatDoorSpendNoneT23
import Derived.Test.YtnnjjbkdjkjnpaaGreatDoorSpendNoneT3
import Derived.Deep.CutRange
import Derived.Test.YtnnjjbkdjkjnpaaGreatDoorSpendNoneT22
set_option linter.unusedSimpArgs false
/- The document's coins: Put, Take. Printed by mkrlc.py. -/
namespace Go.Proofs.YtnnjjbkdjkjnpaaGreatDoor
open Go.RowKit
set_option linter.unusedVariables false
end Go.Proofs.YtnnjjbkdjkjnpaaGreatDoor
/- slices.DeleteFunc at the function of locks.Of; the contract of locks.Of. -/
namespace Go.Proofs.YtnnjjbkdjkjnpaaGreatDoor
open Go.RowKit Go.Sort
set_option linter.unusedVariables false
theorem zero_ptz : (Tryz.prog.info? 69).map (·.zero) = some (some (.agg (encPt default).toArray)) := by kernel_rfl
set_option maxRecDepth 100000 in
set_option maxHeartbeats 4000000 in
theorem delf_any (Z : Nat) (w0 : World) (hZ : Z ≤ w0.heap.size) (Bl Bi : Nat) (dl : PtS → Bool) (HD : ∀ w', Below Z w0 w' → ∀ x : PtS, Calls Tryz.prog 58 #[ptA x.1, .pointer (some ⟨Bl, 0, none⟩), .pointer (some ⟨Bi, 0, none⟩)] w' fun e w'' => e = .returned (.bool (dl x)) ∧ Below w'.heap.size w' w'')
    {A : Option Addr} {n c : Nat} {ks : List PtS} (w : World) (hB : Below Z w0 w) (h : OwnP w Z A n c ks) (hn : n ≤ 1000000) :
    Calls Tryz.prog 56 #[.slice A n c, ofV Bl Bi] w fun e w' => ∃ m, e = .returned (.slice A m c) ∧ OwnP w' Z A m c (ks.filter fun x => !dl x) ∧ Below Z w0 w' := by
  have HO := Lib.hid h; have HL := Lib.hid h.len; have HB0 := Lib.hid hB; have HDD := Lib.hid HD; have HZZ := Lib.hid (Nat.le_trans hZ hB.size)
  have HIX := Lib.hid (ix_any Z w0 hZ Bl Bi dl HD w hB h hn)
  have HZL := Lib.hid (encPt_len default)
  unfold ofV at HIX ⊢
  clear h HD hB
  go_enter Tryz.func56, Tryz.ntmps56
  go_wp2_with fail
  refine HIX.out.mono ?_
  rintro e w1 ⟨r, rfl, hr, hb1⟩
  have HB1 := Lib.hid (HB0.out.trans (hb1.mono HZZ.out))
  have HO1 := Lib.hid (HO.out.call hb1)
  clear hb1 HIX HB0 HO
  rcases hr with ⟨rfl, hall⟩ | ⟨i0, x0, rfl, hx0, hd0, hpre⟩
  · have HF := Lib.hid (show ks.filter (fun x => !dl x) = ks from List.filter_eq_self.2 fun x hx => by rw [hall x hx]; rfl)
    clear hall
    go_wp2_with fail
    go_ret
    exact ⟨n, rfl, by rw [HF.out]; exact HO1.out, HB1.out⟩
  · have hi0 : i0 < n := by have := (List.getElem?_eq_some_iff.1 hx0).1; have := HL.out; omega
    obtain ⟨g, cur0, rfl, hg1, hg2, hnc, hcm, -⟩ := HO1.out.form (by omega)
    have HS0 := Lib.hid (show ks.take i0 = (ks.take (i0 + 1)).filter fun x => !dl x by
      rw [List.take_add_one, hx0, List.filter_append, show (some x0).toList.filter (fun x => !dl x) = [] from by simp [hd0], List.append_nil]
      exact (List.filter_eq_self.2 fun x hx => by rw [hpre x hx]; rfl).symm)
    have hc63 : c ≤ 9223372036854775807 := by unfold maxLen at hcm; omega
    have q0 : ((i0 : Int) == -1) = false := beq_eq_false_iff_ne.2 (by omega)
    have HGZ := Lib.hid hg1
    clear hx0 hd0 hpre hg1 hcm hg2
    go_wp2_with fail
    go_loopw [5, 6] (fun s5 iv wr => ∃ i j : Nat, i < j ∧ j ≤ n ∧ s5 = .int .i64 i ∧ iv = .int .i64 j ∧ Hid (∃ ys, OwnP wr Z (some ⟨g, 0, none⟩) n c ys ∧ ys.take i = (ks.take j).filter (fun x => !dl x) ∧ ys.drop j = ks.drop j ∧ Below Z w0 wr ∧ g < wr.heap.size)) (fun _ iv _ => n - (intOf iv).toNat)
    case atStart => exact ⟨i0, i0 + 1, by omega, by omega, rfl, by go_num, Lib.hid ⟨ks, HO1.out, HS0.out, rfl, HB1.out, by obtain ⟨g', _, hA, _, hlt, _⟩ := HO1.out.form (by omega); injection hA with hA; injection hA with hA; subst hA; exact hlt⟩⟩
    case round =>
      obtain ⟨i, j, hij, hj, rfl, rfl, hI⟩ := hrel
      clear HB1 HO1 HS0
      obtain ⟨ys, hO, hT, hD, hB, hG⟩ := hI.out
      have HO := Lib.hid hO; have HT := Lib.hid hT; have HD := Lib.hid hD; have HB := Lib.hid hB; have HG := Lib.hid hG
      clear hI hO hT hD hB hG
      by_cases hlt : j < n
      · have hyl := HO.out.len
        have hkk : ks[j]? = some (ks[j]'(by have := HL.out; omega)) := List.getElem?_eq_getElem _
        obtain ⟨x, hx⟩ : ∃ x, x = ks[j]'(by have := HL.out; omega) := ⟨_, rfl⟩
        rw [← hx] at hkk
        have hyk : ys[j]? = some x := by
          have h1 : (ys.drop j)[0]? = (ks.drop j)[0]? := by rw [HD.out]
          rw [List.getElem?_drop, List.getElem?_drop, Nat.add_zero] at h1
          rw [h1]; exact hkk
        have HKK := Lib.hid hkk
        have HCE := Lib.hid (HO.out.at_ hyk)
        have HXL := Lib.hid (encPt_len x); have HX1 := Lib.hid (encPt_one x)
        have HYL := Lib.hid hyl
        obtain ⟨xs, hxs⟩ : ∃ q, q = encPt x := ⟨_, rfl⟩
        have HXE := Lib.hid hxs
        rw [← hxs] at HCE HXL HX1
        clear hkk hx hyk hxs hyl
        go_wp2_with (first | (with_reducible refine wpl_loadm (o := ⟨some 25, _, _, _, _, _⟩) rfl rfl row_point HCE.out rfl HXL.out ?_) | (with_reducible refine wpl_alloc (o := ⟨some 7, _, _, _, _, _⟩) rfl rfl zero_ptz ?_))
        intro w2 hb2 hbw2 hsz2
        have HV2 := Lib.hid hb2
        have HO2 := Lib.hid (HO.out.call hbw2)
        have HB2 := Lib.hid (HB.out.trans (hbw2.mono (Nat.le_trans hZ HB.out.size)))
        have HGN := Lib.hid (show g ≠ wr.heap.size ∧ Z ≤ wr.heap.size from ⟨by have := HG.out; omega, Nat.le_trans hZ HB.out.size⟩)
        have HG2 := Lib.hid (show g < w2.heap.size by have := HG.out; omega)
        clear hb2 hbw2 hsz2 HO HB HG HCE
        obtain ⟨gv, hgv⟩ : ∃ q, q = wr.heap.size := ⟨_, rfl⟩
        rw [← hgv] at HV2 HGN ⊢
        clear hgv
        go_wp2_with (first | (with_reducible refine wpl_storeb (o := ⟨none, .store _ _ _, _, _, _, _⟩) rfl rfl row_point HV2.out rfl rfl HZL.out HXL.out HX1.out ?_))
        intro w3 hb3 hg3 hs3
        have HV3 := Lib.hid hb3
        have HO3 := Lib.hid (own_of_block HO2.out (w' := w3) fun q hq => by
          have : q = g := by simpa using hq.symm
          subst this
          exact hg3.block q HG2.out (by have := HGN.out.1; simpa using this))
        have HB3 := Lib.hid (HB2.out.grown hg3 (Nat.le_trans hZ HB2.out.size) (fun q hq => by cases hq; exact HGN.out.2))
        have HG3 := Lib.hid (show g < w3.heap.size by rw [hs3]; exact HG2.out)
        clear hb3 hg3 hs3 HV2 HO2 HB2 HG2
        have HCL := Lib.hid (HDD.out w3 HB3.out x)
        rw [show ptA x.1 = .agg (encPt x).toArray from rfl, ← HXE.out] at HCL
        obtain ⟨r, hr⟩ : ∃ r, r = dl x := ⟨_, rfl⟩
        rw [← hr] at HCL
        have HRX := Lib.hid hr
        clear hr
        go_wp2_with (first | (with_reducible refine wpl_loadb (o := ⟨some 27, _, _, _, _, _⟩) rfl rfl row_point HV3.out rfl HXL.out ?_))
        refine HCL.out.mono ?_
        rintro e w4 ⟨rfl, hb4⟩
        have HV4 := Lib.hid (HV3.out.call hb4)
        have HO4 := Lib.hid (OwnP.call HO3.out hb4)
        have HB4 := Lib.hid (HB3.out.trans (hb4.mono (Nat.le_trans hZ HB3.out.size)))
        have HG4 := Lib.hid (Nat.lt_of_lt_of_le HG3.out hb4.size)
        clear hb4 HV3 HO3 HB3 HG3 HCL
        have HDN := Lib.hid (show ys.drop (j + 1) = ks.drop (j + 1) by
          have h1 := congrArg (List.drop 1) HD.out
          rw [List.drop_drop, List.drop_drop] at h1; exact h1)
        cases r with
        | true =>
          have HTN := Lib.hid (show ys.take i = (ks.take (j + 1)).filter (fun x => !dl x) by
            rw [List.take_add_one, HKK.out, List.filter_append, show (some x).toList.filter (fun x => !dl x) = [] from by simp [← HRX.out], List.append_nil]; exact HT.out)
          go_wp2_with fail
          go_roundw
          case rel => exact ⟨i, j + 1, by omega, by omega, rfl, by go_num, Lib.hid ⟨ys, HO4.out, HTN.out, HDN.out, HB4.out, HG4.out⟩⟩
          case measure => simp [intOf]; omega
        | false =>
          have HTN := Lib.hid (show (ys.set i x).take (i + 1) = (ks.take (j + 1)).filter (fun x => !dl x) by
            have hl := HYL.out
            rw [List.take_add_one (l := ks), HKK.out, List.filter_append, show (some x).toList.filter (fun x => !dl x) = [x] from by simp [← HRX.out], List.take_add_one, List.getElem?_set_self (by omega), List.take_set_of_le (Nat.le_refl _), HT.out]; rfl)
          have HDS := Lib.hid (show (ys.set i x).drop (j + 1) = ks.drop (j + 1) by rw [List.drop_set, if_pos (by omega)]; exact HDN.out)
          obtain ⟨g', cur, hA, hZg, _, _, _, hblk, hcl, _⟩ := HO4.out.form (by omega)
          injection hA with hA; injection hA with hA; subst hA
          have HBK := Lib.hid hblk
          have HCL2 := Lib.hid (show i * 33 + 33 ≤ cur.length by rw [hcl]; omega)
          have hin : i < n := by omega
          clear hblk hcl
          go_wp2_with (first | (with_reducible refine wpl_loadb (o := ⟨some 32, _, _, _, _, _⟩) rfl rfl row_point HV4.out rfl HXL.out ?_) | (with_reducible refine wpl_storep (o := ⟨none, .store _ _ _, _, _, _, _⟩) rfl rfl row_point HBK.out rfl rfl HXL.out HCL2.out HX1.out ?_))
          intro w5 hb5 hg5 hs5
          rw [HXE.out] at hb5
          have HO5 := Lib.hid (HO4.out.set_ hin HBK.out x hb5)
          have HB5 := Lib.hid (HB4.out.grown hg5 (Nat.le_trans hZ HB4.out.size) (fun q hq => by cases hq; exact hZg))
          have HG5 := Lib.hid (show g < w5.heap.size by rw [hs5]; exact HG4.out)
          clear hb5 hg5 hs5
          go_wp2_with fail
          go_roundw
          case rel => exact ⟨i + 1, j + 1, by omega, by omega, by go_num, by go_num, Lib.hid ⟨ys.set i x, HO5.out, HTN.out, HDS.out, HB5.out, HG5.out⟩⟩
          case measure => simp [intOf]; omega
      · obtain rfl : j = n := by omega
        have HFL := Lib.hid (show ys.take i = ks.filter (fun x => !dl x) by
          have h1 := HT.out
          rw [List.take_of_length_le (l := ks) (i := j) (by have := HL.out; omega)] at h1; exact h1)
        have HTK := Lib.hid (own_take (i := i) HO.out (by omega))
        obtain ⟨g', cur, hA, hZg, _, hjc, _, _, _, _⟩ := HO.out.form (by omega)
        injection hA with hA; injection hA with hA; subst hA
        obtain ⟨w5, hr5, ho5, hg5, hs5⟩ := run_clear_own (ty := 0) (m := j - i) (c2 := c - i) el_pt zero_ptz (encPt_one default) HTK.out (by omega)
        have HO5 := Lib.hid (show OwnP w5 Z (some ⟨g, 0, none⟩) i c (ks.filter fun x => !dl x) by rw [pf_take, HFL.out] at ho5; exact ho5)
        have HB5 := Lib.hid (HB.out.grown hg5 (Nat.le_trans hZ HB.out.size) (fun q hq => by cases hq; exact hZg))
        have HR5 := Lib.hid hr5
        have q1 : i ≤ j := by omega
        have q2 : (i : Int) ≤ (j : Int) := by omega
        have q3 : i ≤ c := by omega
        have q4 : (i : Int) ≤ (c : Int) := by omega
        have q5 : ¬ ((i : Int) = (c : Int)) := by omega
        have q6 : ((i : Int) == (c : Int)) = false := beq_eq_false_iff_ne.2 q5
        have q7 : ¬ (c = i) := by omega
        clear ho5 hg5 hs5 hr5
        go_wp2_with (first | (refine wpl_clear_run (o := ⟨none, .call _, _, _, _, _⟩) rfl rfl (by first | rfl | (go_simp; done)) HR5.out ?_))
        go_ret
        exact ⟨i, rfl, HO5.out, HB5.out⟩
end Go.Proofs.YtnnjjbkdjkjnpaaGreatDoor
/- The contract of locks.Of. -/
namespace Go.Proofs.YtnnjjbkdjkjnpaaGreatDoor
open Go.RowKit Go.Sort
set_option linter.unusedVariables false
theorem lookL_mem {L : LocksL} {e : PtK × LockV} (h : e ∈ L) (hd : (L.map (·.1)).Nodup) : lookL L e.1 = some e.2 := by
  unfold lookL
  induction L with
  | nil => cases h
  | cons x L ih =>
    rw [List.map_cons, List.nodup_cons] at hd
    by_cases hx : (x.1 == e.1) = true
    · rw [List.find?_cons_of_pos (by exact hx)]
      rcases List.mem_cons.1 h with rfl | h2
      · rfl
      · exact absurd (List.mem_map_of_mem (f := fun x : PtK × LockV => x.1) h2) (by show e.1 ∉ _; rw [← eq_of_beq hx]; exact hd.1)
    · rw [List.find?_cons_of_neg (by simpa using hx)]
      rcases List.mem_cons.1 h with rfl | h2
      · simp at hx
      · exact ih h2 hd.2
def heldFor (L : LocksL) (id : List UInt8) (p : PtK) : Bool := decide (((lookL L p).getD noLock).2 = id)
theorem held_perm {L : LocksL} {ks : List PtS} {id : List UInt8} (hp : (ks.map (·.1)).Perm (L.map (·.1))) (hd : (L.map (·.1)).Nodup) :
    ((ks.filter fun x => heldFor L id x.1).map (·.1)).Perm ((L.filter fun e => decide (e.2.2 = id)).map (·.1)) := by
  have e1 : (ks.filter fun x => heldFor L id x.1).map (·.1) = (ks.map (·.1)).filter (heldFor L id) := by rw [List.filter_map]; rfl
  have e2 : (L.filter fun e => decide (e.2.2 = id)).map (·.1) = (L.map (·.1)).filter (heldFor L id) := by
    rw [List.filter_map]
    congr 1
    refine List.filter_congr fun e he => ?_
    show _ = decide (((lookL L e.1).getD noLock).2 = id)
    rw [lookL_mem he hd]; rfl
  rw [e1, e2]
  exact hp.filter _
set_option maxRecDepth 100000 in
set_option maxHeartbeats 2000000 in
theorem kof_any (g b : Nat) (L : LocksL) (s : Int) (id : List UInt8) (w : World) (h : LocksAt w g b L s) (hi : id.length = 32) (hn : L.length ≤ 1000000) :
    Calls Tryz.prog 25 #[.pointer (some ⟨g, 0, none⟩), .agg (id.map B).toArray] w fun e w' => ∃ A n c ss, ∃ ks : List PtS, e = .returned (.slice A n c) ∧ OwnP w' w.heap.size A n c ks ∧ ks = (sortP ss).filter (fun x => heldFor L id x.1) ∧ ((sortP ss).map (·.1)).Perm (L.map (·.1)) ∧ (ks.map (·.1)).Perm ((L.filter fun e => decide (e.2.2 = id)).map (·.1)) ∧ Below w.heap.size w w' := by
  have HH := Lib.hid h; have HI := Lib.hid hi; have HN := Lib.hid hn
  have HIL := Lib.hid (show (id.map B).length = 32 by rw [List.length_map, hi])
  obtain ⟨is, his⟩ : ∃ q, q = id.map B := ⟨_, rfl⟩
  have HIE := Lib.hid his
  rw [← his] at HIL ⊢
  obtain ⟨z, hz⟩ : ∃ z, z = w.heap.size := ⟨_, rfl⟩
  have hg : g < z := by rw [hz]; exact h.ltg
  have hb : b < z := by rw [hz]; exact h.ltb
  have HZ := Lib.hid hz
  rw [← hz]
  clear h hi hn his hz
  go_enter Tryz.func25, Tryz.ntmps25
  go_wp2_with (first | (with_reducible refine wpl_box (o := ⟨some 3, _, _, _, _, _⟩) rfl rfl rfl ?_))
  intro w2 hb2 hbw2 hsz2
  have HC2 := Lib.hid (show (w.alloc (.cells #[.pointer (some ⟨g, 0, none⟩)] 31)).cell? ⟨z, 0, none⟩ = some (.pointer (some ⟨g, 0, none⟩)) by rw [HZ.out]; unfold World.cell?; rw [heap_alloc_new]; rfl)
  have HBA := Lib.hid (show Below z w (w.alloc (.cells #[.pointer (some ⟨g, 0, none⟩)] 31)) from by rw [HZ.out]; exact (Below.refl _ w).alloc (Nat.le_refl _) _)
  have HSA := Lib.hid (show (w.alloc (.cells #[.pointer (some ⟨g, 0, none⟩)] 31)).heap.size = z + 1 by rw [HZ.out]; simp)
  generalize w.alloc (.cells #[.pointer (some ⟨g, 0, none⟩)] 31) = wa at *
  rw [← HZ.out] at hb2 hbw2 hsz2 ⊢
  have HL2 := Lib.hid ((HH.out.below HBA.out hg hb).below hbw2 (by omega) (by omega))
  have HBL2 := Lib.hid ((hbw2.cell (p := ⟨z, 0, none⟩) (show z < z + 1 by omega)).trans HC2.out)
  have HBI2 := Lib.hid hb2
  have HB2 := Lib.hid (HBA.out.trans (hbw2.mono (by omega)))
  have HS2 := Lib.hid (show w2.heap.size = z + 2 by omega)
  clear hb2 hbw2 hsz2 HC2 HBA HSA
  try clear wa
  have c1 := HBL2.out
  have HZZ := Lib.hid HZ.out
  go_wp2_with fail
  refine (kall_any g b L s w2 HL2.out HN.out).mono ?_
  rintro e w3 ⟨v, ks0, rfl, hp, ⟨ss, hss⟩, hrow, hb3⟩
  have HB3 := Lib.hid (HB2.out.trans (hb3.mono (by have := HS2.out; omega)))
  obtain ⟨A, n, c, rfl, hnk⟩ : ∃ A n c, v = .slice A n c ∧ n = ks0.length := by
    rcases hrow.2 with ⟨rfl, h0⟩ | ⟨gb, cap, cur, rfl, _⟩
    · exact ⟨none, 0, 0, rfl, h0.symm⟩
    · exact ⟨_, _, _, rfl, rfl⟩
  rw [← hnk] at hrow
  have HO3 := Lib.hid (show OwnP w3 w2.heap.size A n c ks0 from hrow)
  have HNK := Lib.hid (show n ≤ 1000000 by have h1 := hp.length_eq; rw [List.length_map, List.length_map] at h1; have := HN.out; omega)
  have HD := Lib.hid (show ∀ w', Below w2.heap.size w2 w' → ∀ x : PtS, Calls Tryz.prog 58 #[ptA x.1, .pointer (some ⟨z, 0, none⟩), .pointer (some ⟨z + 1, 0, none⟩)] w' fun e w'' => e = .returned (.bool ((fun x : PtS => !heldFor L id x.1) x)) ∧ Below w'.heap.size w' w'' from fun w' hb' x =>
    of1_any g b L s x.1 id z (z + 1) w' (HL2.out.call hb') x.2 HI.out (bcell hb' HBL2.out) (by rw [← HIE.out]; exact HBI2.out.call hb'))
  have HDE := Lib.hid (delf_any w2.heap.size w2 (Nat.le_refl _) z (z + 1) (fun x => !heldFor L id x.1) HD.out w3 hb3 HO3.out HNK.out)
  have HPP := Lib.hid hp; have HSS := Lib.hid hss
  have HB23 := Lib.hid hb3
  clear hp hss hrow hb3 hnk c1 HD HNK
  unfold ofV at HDE
  go_wp2_with fail
  refine HDE.out.mono ?_
  rintro e w4 ⟨m, rfl, ho4, hb4⟩
  have HO4 := Lib.hid ho4
  have HB4 := Lib.hid (HB2.out.trans (hb4.mono (by have := HS2.out; omega)))
  clear ho4 hb4 HDE
  go_wp2_with fail
  go_ret
  have hf : ks0.filter (fun x => !(!heldFor L id x.1)) = ks0.filter (fun x => heldFor L id x.1) := by simp
  have ho := HO4.out
  rw [hf] at ho
  refine ⟨A, m, c, ss, _, rfl, ?_, by rw [HSS.out], by rw [← HSS.out]; exact HPP.out, held_perm HPP.out HL2.out.ok.2, HB4.out⟩
  have := ho
  exact ⟨this.1, this.2.imp (fun h => h) (fun ⟨a, b', c', h1, h2, h3⟩ => ⟨a, b', c', h1, Nat.le_trans (by have := HS2.out; omega) h2, h3⟩)⟩
end Go.Proofs.YtnnjjbkdjkjnpaaGreatDoor
/- The document's locks: Of; the law's own points. Printed by mkrle.py. -/
namespace Go.Proofs.YtnnjjbkdjkjnpaaGreatDoor
open Go.RowKit Go.Maps Go.Sort Go.Shelf
set_option linter.unusedVariables false
/-- A row of outputs. -/
def RowPt (w : World) (A : Option Addr) (n : Nat) (l : List PtK) : Prop := Sl w w.heap.size 33 A n (l.flatMap ptV) ∧ (∀ p ∈ l, PtOK p) ∧ l.length = n
theorem RowPt.grow {w w' : World} {A : Option Addr} {n : Nat} {l : List PtK} (h : RowPt w A n l) (hb : Below w.heap.size w w') : RowPt w' A n l := ⟨(h.1.below hb).more hb.size, h.2⟩
theorem RowPt.at_ {w : World} {A : Option Addr} {n : Nat} {l : List PtK} (h : RowPt w A n l) {k : Nat} (hk : k < n) :
    ∃ b off p, A = some ⟨b, off, none⟩ ∧ b < w.heap.size ∧ l[k]? = some p ∧ PtOK p ∧ ∀ j u, (ptV p)[j]? = some u → w.cell? ⟨b, off + k * 33 + j, none⟩ = some u := by
  obtain ⟨hs, ho, hl⟩ := h
  obtain ⟨b, off, e, hb, hc⟩ := hs.2 (by omega)
  have hk2 : k < l.length := by omega
  refine ⟨b, off, l[k], e, hb, List.getElem?_eq_getElem hk2, ho _ (List.getElem_mem hk2), fun j u hu => ?_⟩
  have h2 := hc (k * 33 + j) u (fm_at3 ptV 33 l k j _ u (fun y hy => ptV_length (ho y hy).1) (List.getElem?_eq_getElem hk2) hu)
  rw [← Nat.add_assoc] at h2; exact h2
theorem fmPt (ks : List PtS) : (ks.map (·.1)).flatMap ptV = ks.flatMap encPt := by rw [List.flatMap_map]; rfl
theorem OwnP.rowPt {w : World} {base n c : Nat} {A : Option Addr} {ys : List PtS} (h : OwnP w base A n c ys) : RowPt w A n (ys.map (·.1)) :=
  ⟨by rw [fmPt]; exact Sl.of_own h, fun p hp => by obtain ⟨x, _, rfl⟩ := List.mem_map.1 hp; exact x.2, by rw [List.length_map]; exact h.len⟩
def ofK (X : LocksL) (id : List UInt8) : List PtK := (X.filter fun e => decide (e.2.2 = id)).map (·.1)
theorem RelK.of_eq {X L : LocksL} {s : Int} (h : RelK X L s) {ks ss : List PtS} {id : List UInt8} (hk : ks = (sortP ss).filter (fun x => heldFor L id x.1)) (hp : ((sortP ss).map (·.1)).Perm (L.map (·.1))) : ks.map (·.1) = ofK X id := by
  have h1 := h.all hp rfl
  have e1 : ks.map (·.1) = ((sortP ss).map (·.1)).filter (heldFor L id) := by rw [hk, List.filter_map]; rfl
  rw [e1, h1]
  unfold ofK
  rw [List.filter_map]
  congr 1
  refine List.filter_congr fun e he => ?_
  show heldFor L id e.1 = decide (e.2.2 = id)
  unfold heldFor
  rw [lookL_mem (h.perm.mem_iff.1 he) h.ok.2]; rfl
theorem aidV_cl {d : List UInt8} (h : d.length = 32) : Cl 32 (d.map B) := ⟨by rw [List.length_map, h], mapB_one d⟩
end Go.Proofs.YtnnjjbkdjkjnpaaGreatDoor

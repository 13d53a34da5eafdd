/- The contract of locks.Free. Printed by mklock.py. -/
import Derived.Test.YtolbbhbfbpiljaaLockC
import Derived.Test.YtolbbhbfbpiljaaCoinD
namespace Go.Proofs.Ytolbbhbfbpiljaa
open Go.RowKit
set_option linter.unusedVariables false
def dropL (L : LocksL) (p : PtK) : LocksL := L.eraseP (fun e => e.1 == p)

/-- The phases of 'delete(m, p)'. -/
def delK (w0 : World) (g b : Nat) (es es' : Array MapEntry) (clock : Nat) (s : Int) (k : Nat) (w : World) : Prop :=
  Touched [g, b] w0 w ∧ w.heap.size = w0.heap.size ∧ w.heap[b]? = some (.map (if k = 0 then es else es') clock) ∧ Blk w g 120 [.map (some b), .int .u64 s]
/-- The phases of 'sum = ..'. -/
def sumK (w0 : World) (g b : Nat) (es : Array MapEntry) (clock : Nat) (s s2 : Int) (k : Nat) (w : World) : Prop :=
  Touched [g, b] w0 w ∧ w.heap.size = w0.heap.size ∧ w.heap[b]? = some (.map es clock) ∧ Blk w g 120 [.map (some b), .int .u64 (if k = 0 then s else s2)]

theorem free_map {w : World} {g b : Nat} {L : LocksL} {s : Int} (h : LocksAt w g b L s) {p : PtK} (hp : PtOK p) : ∃ es es' clock, w.heap[b]? = some (.map es clock) ∧ MapOK Try.prog 52 es' clock ∧ kvs es' = encL (dropL L p) ∧ LKOK (dropL L p) ∧
    ∀ w' ty, w'.heap[b]? = some (.map es clock) → (Builtin.delete_ #[118, 52] ty #[.map (some b), ptA p]).run Try.prog w' = .ok (.tuple #[]) (withBlk w' b (.map es' clock)) := by
  obtain ⟨hb1, ⟨es, clock, h3, h4, h5⟩, ⟨h6, h6'⟩, h7⟩ := h
  obtain ⟨lx, hx⟩ := keyOf_pt p hp
  have hlo : LKOK (dropL L p) := ⟨fun e he => h6 e (List.mem_of_mem_eraseP he), h6'.sublist ((List.eraseP_sublist).map _)⟩
  cases hf : L.findIdx? (fun e => e.1 == p) with
  | none =>
    have hd : dropL L p = L := by
      unfold dropL
      rw [List.eraseP_eq_eraseIdx, hf]
    have hno : ∀ q ∈ kvs es, q.1 ≠ ptA p := by
      intro q hq e
      rw [h5] at hq
      obtain ⟨en, hen, rfl⟩ := List.mem_map.1 hq
      have := List.findIdx?_eq_none_iff.1 hf en hen
      rw [ptA_inj (h6 en hen).1.1 hp.1 e] at this
      simp at this
    refine ⟨es, es, clock, h3, h4, by rw [hd, h5], hlo, fun w' ty hw => ?_⟩
    rw [withBlk_same hw]
    exact run_delete_no kl_point Try.underlying118 hw h4 hx hno
  | some j =>
    have hd : dropL L p = L.eraseIdx j := by
      unfold dropL
      rw [List.eraseP_eq_eraseIdx, hf]
    obtain ⟨hj, hjk, _⟩ := List.findIdx?_eq_some_iff_getElem.1 hf
    have hkey : L[j].1 = p := by simpa using hjk
    have e1 : (kvs es)[j]? = some (ptA p, lockA L[j].2) := by rw [h5]; unfold encL; rw [List.getElem?_map, List.getElem?_eq_getElem hj]; simp [hkey]
    unfold kvs at e1
    rw [List.getElem?_map] at e1
    obtain ⟨me, hme, hmm⟩ := Option.map_eq_some_iff.1 e1
    simp only [Prod.mk.injEq] at hmm
    refine ⟨es, es.eraseIdxIfInBounds j, clock, h3, h4.erase j, ?_, hlo, fun w' ty hw => ?_⟩
    · rw [kvs_erase, h5, hd]; unfold encL; rw [map_erase]
    · exact run_delete_yes kl_point Try.underlying118 hw h4 hx (j := j) (en := me) (by simpa using hme) hmm.1

set_option maxRecDepth 100000 in
set_option maxHeartbeats 2000000 in
theorem kfree_any (g b : Nat) (L : LocksL) (s : Int) (p : PtK) (w : World) (h : LocksAt w g b L s) (hp : PtOK p) (hs : s ≤ 18446744073709551615) (hle : ((lookL L p).getD noLock).1.2 ≤ s) :
    Calls Try.prog 24 #[.pointer (some ⟨g, 0, none⟩), ptA p] w fun e w' => e = .returned (.tuple #[coinA ((lookL L p).getD noLock).1, .bool (lookL L p).isSome]) ∧ Touched [g, b] w w' ∧ LocksAt w' g b (dropL L p) (s - ((lookL L p).getD noLock).1.2) := by
  obtain ⟨c, hc, hce, -⟩ := h.look hp
  rw [← hce] at hle ⊢
  obtain ⟨ok, hok⟩ : ∃ ok, ok = (lookL L p).isSome := ⟨_, rfl⟩
  rw [← hok]
  have hlk : ∀ w', LocksAt w' g b L s → (Instr.lookup 118 (.map (some b)) (ptA p) true).run Try.prog w' = .ok (.tuple #[lockA c, .bool ok]) w' := by
    intro w' h'
    obtain ⟨c', _, e, h2⟩ := h'.look hp
    rw [hce, ← e, hok]; exact h2
  obtain ⟨es, es', clock, t1, t2, t3, t4, t5⟩ := free_map h hp
  obtain ⟨L2, hL2⟩ : ∃ L2, L2 = dropL L p := ⟨_, rfl⟩
  rw [← hL2] at t3 t4 ⊢
  have HT1 := Lib.hid t1; have HT2 := Lib.hid t2; have HT3 := Lib.hid t3; have HT4 := Lib.hid t4; have HT5 := Lib.hid t5
  have HLK := Lib.hid hlk
  have HC := Lib.hid h
  have HX := Lib.hid (ptV_length hp.1)
  have HCL := Lib.hid (lockV_length hc)
  have HC1 := Lib.hid (lockV_one c)
  have HCI := Lib.hid (show (lockV c)[32]? = some (.int .u64 c.1.2) by
    have h1 : (coinV c.1)[32]? = some (.int .u64 c.1.2) := by unfold coinV; rw [List.getElem?_append_right (by simp [hc.1.1])]; simp [hc.1.1]
    have := lock_coin (x := c) (j := 32) h1
    simpa using this)
  have HKL := Lib.hid (coinV_length hc.1); have HK1 := Lib.hid (coinV_one c.1)
  have HPC := Lib.hid (fun j u => lock_coin (x := c) (j := j) (u := u))
  have hc0 := hc.1.2.1
  have HWR := Lib.hid (u64_in (s - c.1.2) ⟨by omega, by omega⟩)
  clear hok hce hc hp hlk t1 t2 t3 t4 t5 hL2
  obtain ⟨xs, hxs⟩ : ∃ xs, xs = ptV p := ⟨_, rfl⟩
  obtain ⟨cs, hcs⟩ : ∃ cs, cs = lockV c := ⟨_, rfl⟩
  obtain ⟨ci, hci⟩ : ∃ ci, ci = c.1.2 := ⟨_, rfl⟩
  rw [← hci] at hc0 hle HCI HWR ⊢
  obtain ⟨ks, hks⟩ : ∃ ks, ks = coinV c.1 := ⟨_, rfl⟩
  rw [coinA, ← hks]
  rw [← hks] at HKL HK1
  rw [← hcs, ← hks] at HPC
  rw [lockA, ← hcs] at HLK
  rw [← hcs] at HCL HC1 HCI
  rw [ptA, ← hxs]
  rw [ptA, ← hxs] at HLK HT5
  rw [← hxs] at HX
  clear hxs hcs hci hks
  obtain ⟨z, hz⟩ : ∃ z, z = w.heap.size := ⟨_, rfl⟩
  have hg : g < z := by rw [hz]; exact h.ltg
  have hb : b < z := by rw [hz]; exact h.ltb
  have HZ := Lib.hid hz
  have hgb := h.ne
  have HGB := Lib.hid hgb
  clear h hz hgb
  go_enter Try.func24, Try.ntmps24
  go_wp2_with (first | (with_reducible refine wpl_box (o := ⟨some 3, _, _, _, _, _⟩) rfl rfl rfl ?_))
  intro w1 hb1 hbw1 hsz1
  rw [← HZ.out] at hb1 hbw1 hsz1 ⊢
  go_wp2_with (first | (with_reducible refine wpl_alloc (o := ⟨some 4, _, _, _, _, _⟩) rfl rfl zero_coin ?_))
  intro w2 hb2 hbw2 hsz2
  have HB1 := Lib.hid (hb1.below hbw2 (by omega))
  have HB2 := Lib.hid hb2
  have HBW := Lib.hid (hbw1.trans (hbw2.mono (by omega)))
  have HSZ := Lib.hid hsz2
  have HC2 := Lib.hid (HC.out.below HBW.out hg hb)
  have HT12 := Lib.hid ((HBW.out.block b hb).trans HT1.out)
  clear hb1 hb2 hbw1 hbw2 hsz1 hsz2
  repeat' (first | (with_reducible refine wp_phase (id := 1) (newC w2 122 (lockV noLock) cs) [9, 10] [(0,2),(0,2),(0,2),(0,2),(0,2),(0,2),(0,2),(0,2),(0,2),(0,0),(1,1),(0,2)] (by kernel_rfl) (by kernel_rfl) ?_ ?_) | go_values | go_skip | go_guarded | go_step | go_upon | go_back)
  · exact newC.start
  have HF := Lib.hid (show ∀ k w', newC w2 122 (lockV noLock) cs k w' → w'.cell? ⟨g, 0, none⟩ = some (.map (some b)) from fun k w' h => (HC2.out.call (newC.low k w' h)).blk.at_ rfl)
  have HL := Lib.hid (show ∀ k w', newC w2 122 (lockV noLock) cs k w' → (Instr.lookup 118 (.map (some b)) (.agg xs.toArray) true).run Try.prog w' = .ok (.tuple #[.agg cs.toArray, .bool ok]) w' from fun k w' h => HLK.out w' (HC2.out.call (newC.low k w' h)))
  have HX1 := Lib.hid (show ∀ k w', newC w2 122 (lockV noLock) cs k w' → Blk w' z 52 xs from fun k w' h => HB1.out.call (newC.low k w' h))
  refine ph_value rfl (by first | rfl | go_simp) (fun k_ _ _ w_ hC_ => by first | (go_simp; rfl) | (go_simp; done) | rfl) (fun K hK => ?_)
  go_simp
  refine hK _ ?_
  clear hK K
  refine ph_value rfl (by first | rfl | go_simp) (fun k_ _ _ w_ hC_ => by first | (go_simp; rfl) | (go_simp; done) | rfl) (fun K hK => ?_)
  go_simp
  refine hK _ ?_
  clear hK K
  refine ph_value rfl (by first | rfl | go_simp) (fun k_ _ _ w_ hC_ => by first | (go_simp; rfl) | (go_simp; done) | rfl) (fun K hK => ?_)
  go_simp
  refine hK _ ?_
  clear hK K
  refine ph_value rfl (by first | rfl | go_simp) (fun k_ _ _ w_ hC_ => by have c1 := HF.out _ _ hC_; first | (go_simp; rfl) | (go_simp; done) | rfl) (fun K hK => ?_)
  go_simp
  refine hK _ ?_
  clear hK K
  refine ph_load rfl rfl rfl row_point (fun k _ _ w h => HX1.out k w h) rfl HX.out ?_
  (intro K hK; go_simp; refine hK _ ?_; clear hK K)
  refine ph_value rfl (by first | rfl | go_simp) (fun k_ _ _ w_ hC_ => by have c1 := HL.out _ _ hC_; first | (go_simp; rfl) | (go_simp; done) | rfl) (fun K hK => ?_)
  go_simp
  refine hK _ ?_
  clear hK K
  refine ph_value rfl (by first | rfl | go_simp) (fun k_ _ _ w_ hC_ => by first | (go_simp; rfl) | (go_simp; done) | rfl) (fun K hK => ?_)
  go_simp
  refine hK _ ?_
  clear hK K
  refine ph_value rfl (by first | rfl | go_simp) (fun k_ _ _ w_ hC_ => by first | (go_simp; rfl) | (go_simp; done) | rfl) (fun K hK => ?_)
  go_simp
  refine hK _ ?_
  clear hK K
  refine ph_value rfl (by first | rfl | go_simp) (fun k_ _ _ w_ hC_ => by first | (go_simp; rfl) | (go_simp; done) | rfl) (fun K hK => ?_)
  go_simp
  refine hK _ ?_
  clear hK K
  refine ph_alloc 0 rfl rfl rfl rfl rfl zero_lock newC.lay ?_
  (intro K hK; go_simp; refine hK _ ?_; clear hK K)
  refine ph_store 1 rfl rfl rfl rfl rfl row_lock rfl rfl HCL.out HC1.out (newC.put (lockV_length noLock_ok)) ?_
  (intro K hK; go_simp; refine hK _ ?_; clear hK K)
  refine ph_value rfl (by first | rfl | go_simp) (fun k_ _ _ w_ hC_ => by first | (go_simp; rfl) | (go_simp; done) | rfl) (fun K hK => ?_)
  go_simp
  refine hK _ ?_
  clear hK K
  refine ph_nil ?_
  intro w3 ⟨hl3, hs3, hx3⟩
  have H3X := Lib.hid hx3
  have H3R := Lib.hid (HB2.out.call hl3)
  have H3P := Lib.hid (HB1.out.call hl3)
  have HC3 := Lib.hid (HC2.out.call hl3)
  have HT13 := Lib.hid ((hl3.block b (by rw [HSZ.out]; omega)).trans HT12.out)
  have HL3 := Lib.hid (Touched.of_below (l := [g, b]) (by rw [← HZ.out]; exact HBW.out.trans (hl3.mono (by rw [HSZ.out]; omega))))
  have HS3 := Lib.hid (show z + 3 = w3.heap.size by rw [hs3, HSZ.out])
  rw [HSZ.out] at H3X ⊢
  clear hl3 hs3 hx3 HF HL HX1 HC2 HB1 HB2 HBW HLK HT12
  generalize hz1 : z + 1 = z1 at *
  have HZ1 := Lib.hid hz1; clear hz1
  generalize hz2 : z1 + 1 = z2 at *
  have HZ2 := Lib.hid hz2; clear hz2
  have h2z : z2 = z + 2 := by have := HZ1.out; have := HZ2.out; omega
  have H2Z := Lib.hid h2z; clear h2z
  repeat' (first | (with_reducible refine wp_phase (id := 2) (delK w3 g b es es' clock s) [5] [(0,1),(0,1),(0,1),(0,1),(0,1),(0,0)] (by kernel_rfl) (by kernel_rfl) ?_ ?_) | go_values | go_skip | go_guarded | go_step | go_upon | go_back)
  · exact ⟨Touched.of_below (Drawn.all (Drawn.one w3)), rfl, HT13.out, HC3.out.blk⟩
  have HF := Lib.hid (show ∀ k w', delK w3 g b es es' clock s k w' → w'.cell? ⟨g, 0, none⟩ = some (.map (some b)) from fun k w' h => h.2.2.2.at_ rfl)
  have HX1 := Lib.hid (show ∀ k w', delK w3 g b es es' clock s k w' → Blk w' z 52 xs from fun k w' h => (h.1.block z H3P.out.lt (by simp; omega)).trans H3P.out)
  refine ph_value rfl (by first | rfl | go_simp) (fun k_ _ _ w_ hC_ => by first | (go_simp; rfl) | (go_simp; done) | rfl) (fun K hK => ?_)
  go_simp
  refine hK _ ?_
  clear hK K
  refine ph_value rfl (by first | rfl | go_simp) (fun k_ _ _ w_ hC_ => by first | (go_simp; rfl) | (go_simp; done) | rfl) (fun K hK => ?_)
  go_simp
  refine hK _ ?_
  clear hK K
  refine ph_value rfl (by first | rfl | go_simp) (fun k_ _ _ w_ hC_ => by first | (go_simp; rfl) | (go_simp; done) | rfl) (fun K hK => ?_)
  go_simp
  refine hK _ ?_
  clear hK K
  refine ph_value rfl (by first | rfl | go_simp) (fun k_ _ _ w_ hC_ => by have c1 := HF.out _ _ hC_; first | (go_simp; rfl) | (go_simp; done) | rfl) (fun K hK => ?_)
  go_simp
  refine hK _ ?_
  clear hK K
  refine ph_load rfl rfl rfl row_point (fun k _ _ w h => HX1.out k w h) rfl HX.out ?_
  (intro K hK; go_simp; refine hK _ ?_; clear hK K)
  refine ph_run 0 rfl rfl rfl (by first | rfl | go_simp) (fun w' hC => ⟨_, by (have hrun := fun ty => HT5.out w' ty hC.2.2.1); first | (go_simp; rfl) | (go_simp; exact ⟨rfl, rfl⟩) | go_simp, ⟨hC.1.grown (withBlk_grown _ _ _) (.inl (by simp)), by rw [withBlk_size, hC.2.1], withBlk_heap hC.2.2.1, hC.2.2.2.grown (withBlk_grown _ _ _) (by simpa using HGB.out)⟩⟩) ?_
  (intro K hK; go_simp; refine hK _ ?_; clear hK K)
  refine ph_nil ?_
  intro w4 hC4
  have H4X := Lib.hid (show Blk w4 z2 122 cs from (hC4.1.block z2 H3X.out.lt (by have := H2Z.out; simp; omega)).trans H3X.out)
  have H4R := Lib.hid (show Blk w4 z1 54 (coinV noCoin) from (hC4.1.block z1 H3R.out.lt (by have := HZ1.out; simp; omega)).trans H3R.out)
  have HC4 := Lib.hid hC4
  have HL4 := Lib.hid (HL3.out.trans hC4.1)
  clear hC4 HF HX1
  repeat' (first | (with_reducible refine wp_phase (id := 3) (sumK w4 g b es' clock s (s - ci)) [10] [(0,1),(0,1),(0,1),(0,0),(0,1),(0,1),(0,1),(0,1),(0,1),(0,1),(0,0)] (by kernel_rfl) (by kernel_rfl) ?_ ?_) | go_values | go_skip | go_guarded | go_step | go_upon | go_back)
  · exact ⟨Touched.of_below (Drawn.all (Drawn.one w4)), rfl, HC4.out.2.2.1, HC4.out.2.2.2⟩
  have HF := Lib.hid (show ∀ w', sumK w4 g b es' clock s (s - ci) 0 w' → w'.cell? ⟨g, 1, none⟩ = some (.int .u64 s) from fun w' h => h.2.2.2.at_ rfl)
  have HX2 := Lib.hid (show ∀ k w', sumK w4 g b es' clock s (s - ci) k w' → w'.cell? ⟨z2, 32, none⟩ = some (.int .u64 ci) from fun k w' h => Blk.at_ (show Blk w' z2 122 cs from (h.1.block z2 H4X.out.lt (by have := H2Z.out; simp; omega)).trans H4X.out) HCI.out)
  refine ph_value rfl (by first | rfl | go_simp) (fun k_ _ _ w_ hC_ => by first | (go_simp; rfl) | (go_simp; done) | rfl) (fun K hK => ?_)
  go_simp
  refine hK _ ?_
  clear hK K
  refine ph_value rfl (by first | rfl | go_simp) (fun k_ _ _ w_ hC_ => by first | (go_simp; rfl) | (go_simp; done) | rfl) (fun K hK => ?_)
  go_simp
  refine hK _ ?_
  clear hK K
  refine ph_value rfl (by first | rfl | go_simp) (fun k_ _ _ w_ hC_ => by first | (go_simp; rfl) | (go_simp; done) | rfl) (fun K hK => ?_)
  go_simp
  refine hK _ ?_
  clear hK K
  refine ph_value rfl (by first | rfl | go_simp) (fun k_ h1_ h2_ w_ hC_ => by (obtain rfl : k_ = 0 := Nat.le_zero.1 h2_); (have c1 := HF.out _ hC_); first | rfl | (go_simp; rfl) | go_simp) (fun K hK => ?_)
  go_simp
  refine hK _ ?_
  clear hK K
  refine ph_value rfl (by first | rfl | go_simp) (fun k_ _ _ w_ hC_ => by first | (go_simp; rfl) | (go_simp; done) | rfl) (fun K hK => ?_)
  go_simp
  refine hK _ ?_
  clear hK K
  refine ph_value rfl (by first | rfl | go_simp) (fun k_ _ _ w_ hC_ => by first | (go_simp; rfl) | (go_simp; done) | rfl) (fun K hK => ?_)
  go_simp
  refine hK _ ?_
  clear hK K
  refine ph_value rfl (by first | rfl | go_simp) (fun k_ _ _ w_ hC_ => by have c1 := HX2.out _ _ hC_; first | (go_simp; rfl) | (go_simp; done) | rfl) (fun K hK => ?_)
  go_simp
  refine hK _ ?_
  clear hK K
  refine ph_value rfl (by first | rfl | go_simp) (fun k_ _ _ w_ hC_ => by have c9 := HWR.out; first | (go_simp; rfl) | (go_simp; done) | rfl) (fun K hK => ?_)
  go_simp
  refine hK _ ?_
  clear hK K
  refine ph_value rfl (by first | rfl | go_simp) (fun k_ _ _ w_ hC_ => by first | (go_simp; rfl) | (go_simp; done) | rfl) (fun K hK => ?_)
  go_simp
  refine hK _ ?_
  clear hK K
  refine ph_value rfl (by first | rfl | go_simp) (fun k_ _ _ w_ hC_ => by first | (go_simp; rfl) | (go_simp; done) | rfl) (fun K hK => ?_)
  go_simp
  refine hK _ ?_
  clear hK K
  refine ph_runs 0 rfl rfl rfl (by first | rfl | go_simp) (fun w' hC => ⟨_, by (have hcl := hC.2.2.2.at_ (i := 1) rfl); (have hfz := hC.2.2.2.frozen 1); first | (go_simp; rfl) | (go_simp; exact ⟨rfl, rfl⟩) | go_simp, ⟨hC.1.grown (grown_set w' g 1 _) (.inl (by simp)), by simpa using hC.2.1, ((grown_set w' g 1 (.int .u64 (s - ci))).block b (Array.getElem?_eq_some_iff.1 hC.2.2.1).1 (by simpa using fun e => HGB.out e.symm)).trans hC.2.2.1, hC.2.2.2.set_ 1 (.int .u64 (s - ci))⟩⟩) ?_
  (intro K hK; go_simp; refine hK _ ?_; clear hK K)
  refine ph_nil ?_
  intro w5 hC5
  have H5X := Lib.hid (show Blk w5 z2 122 cs from (hC5.1.block z2 H4X.out.lt (by have := H2Z.out; simp; omega)).trans H4X.out)
  have H5R := Lib.hid (show Blk w5 z1 54 (coinV noCoin) from (hC5.1.block z1 H4R.out.lt (by have := HZ1.out; simp; omega)).trans H4R.out)
  have HL5 := Lib.hid (HL4.out.trans hC5.1)
  have HC5 := Lib.hid (show LocksAt w5 g b L2 (s - ci) from ⟨hC5.2.2.2, ⟨es', clock, hC5.2.2.1, HT2.out, HT3.out⟩, HT4.out, HGB.out⟩)
  clear hC5 HF HX2
  have HMK := Lib.hid (fun j u (hu : ks[j]? = some u) => H5X.out.at_ (HPC.out j u hu))
  go_wp2_with (first | (with_reducible refine wpl_loadm (o := ⟨some 33, _, _, _, _, _⟩) rfl rfl row_coin HMK.out rfl HKL.out ?_) | (with_reducible refine wpl_storeb (o := ⟨none, .store _ _ _, _, _, _, _⟩) rfl rfl row_coin H5R.out rfl rfl (coinV_length noCoin_ok) HKL.out HK1.out ?_))
  intro w6 hb6 hg6 hs6
  have H6R := Lib.hid hb6
  have HL6 := Lib.hid (HL5.out.grown hg6 (.inr (by have := HZ1.out; have := HZ.out; omega)))
  have HC6 := Lib.hid (show LocksAt w6 g b L2 (s - ci) from by
    obtain ⟨q1, ⟨e1, c1, q2, q3, q4⟩, q5, q6⟩ := HC5.out
    exact ⟨q1.grown hg6 (by have := HZ1.out; simp; omega), ⟨e1, c1, (hg6.block b (Array.getElem?_eq_some_iff.1 q2).1 (by have := HZ1.out; simp; omega)).trans q2, q3, q4⟩, q5, q6⟩)
  clear hb6 hg6 hs6
  go_wp2_with fail
  refine ret_cell_tmp rfl row_coin H6R.out rfl HKL.out rfl rfl ?_
  exact ⟨rfl, HL6.out, HC6.out⟩
end Go.Proofs.Ytolbbhbfbpiljaa

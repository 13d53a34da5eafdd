/- The contract of locks.Free. Printed by mklock.py. -/
import Derived.Test.YtolbbhbfbpiljaaLocksPlayB7
import Derived.Test.YtolbbhbfbpiljaaLocksPlayB5
import Derived.Test.YtolbbhbfbpiljaaLocksPlayB2
import Derived.Test.YtolbbhbfbpiljaaLocksPlayB3
import Derived.OpenShut
import Derived.Test.YtolbbhbfbpiljaaLocksPlayB6
set_option linter.unusedSimpArgs false
/- The contract of locks.Free. Printed by mklock.py. -/
namespace Go.Proofs.Ytolbbhbfbpiljaa
open Go.RowKit
set_option linter.unusedVariables false
def dropL (L : LocksL) (p : PtK) : LocksL := L.eraseP (fun e => e.1 == p)

/-- The phases of 'delete(m, p)'. -/
def delK (w0 : World) (g b : Nat) (es es' : Array MapEntry) (clock : Nat) (s : Int) (k : Nat) (w : World) : Prop :=
  Touched [g, b] w0 w ∧ w.heap.size = w0.heap.size ∧ w.heap[b]? = some (.map (if k = 0 then es else es') clock) ∧ Blk w g 120 [.map (some b), .int .u64 s]
/-- The phases of 'sum = ..'. -/
def sumK (w0 : World) (g b : Nat) (es : Array MapEntry) (clock : Nat) (s s2 : Int) (k : Nat) (w : World) : Prop :=
  Touched [g, b] w0 w ∧ w.heap.size = w0.heap.size ∧ w.heap[b]? = some (.map es clock) ∧ Blk w g 120 [.map (some b), .int .u64 (if k = 0 then s else s2)]

theorem free_map {w : World} {g b : Nat} {L : LocksL} {s : Int} (h : LocksAt w g b L s) {p : PtK} (hp : PtOK p) : ∃ es es' clock, w.heap[b]? = some (.map es clock) ∧ MapOK Try.prog 52 es' clock ∧ kvs es' = encL (dropL L p) ∧ LKOK (dropL L p) ∧
    ∀ w' ty, w'.heap[b]? = some (.map es clock) → (Builtin.delete_ #[118, 52] ty #[.map (some b), ptA p]).run Try.prog w' = .ok (.tuple #[]) (withBlk w' b (.map es' clock)) := by
  obtain ⟨hb1, ⟨es, clock, h3, h4, h5⟩, ⟨h6, h6'⟩, h7⟩ := h
  obtain ⟨lx, hx⟩ := keyOf_pt p hp
  have hlo : LKOK (dropL L p) := ⟨fun e he => h6 e (List.mem_of_mem_eraseP he), h6'.sublist ((List.eraseP_sublist).map _)⟩
  cases hf : L.findIdx? (fun e => e.1 == p) with
  | none =>
    have hd : dropL L p = L := by
      unfold dropL
      rw [List.eraseP_eq_eraseIdx, hf]
    have hno : ∀ q ∈ kvs es, q.1 ≠ ptA p := by
      intro q hq e
      rw [h5] at hq
      obtain ⟨en, hen, rfl⟩ := List.mem_map.1 hq
      have := List.findIdx?_eq_none_iff.1 hf en hen
      rw [ptA_inj (h6 en hen).1.1 hp.1 e] at this
      simp at this
    refine ⟨es, es, clock, h3, h4, by rw [hd, h5], hlo, fun w' ty hw => ?_⟩
    rw [withBlk_same hw]
    exact run_delete_no kl_point Try.underlying118 hw h4 hx hno
  | some j =>
    have hd : dropL L p = L.eraseIdx j := by
      unfold dropL
      rw [List.eraseP_eq_eraseIdx, hf]
    obtain ⟨hj, hjk, _⟩ := List.findIdx?_eq_some_iff_getElem.1 hf
    have hkey : L[j].1 = p := by simpa using hjk
    have e1 : (kvs es)[j]? = some (ptA p, lockA L[j].2) := by rw [h5]; unfold encL; rw [List.getElem?_map, List.getElem?_eq_getElem hj]; simp [hkey]
    unfold kvs at e1
    rw [List.getElem?_map] at e1
    obtain ⟨me, hme, hmm⟩ := Option.map_eq_some_iff.1 e1
    simp only [Prod.mk.injEq] at hmm
    refine ⟨es, es.eraseIdxIfInBounds j, clock, h3, h4.erase j, ?_, hlo, fun w' ty hw => ?_⟩
    · rw [kvs_erase, h5, hd]; unfold encL; rw [map_erase]
    · exact run_delete_yes kl_point Try.underlying118 hw h4 hx (j := j) (en := me) (by simpa using hme) hmm.1

set_option maxRecDepth 100000 in
set_option maxHeartbeats 2000000 in
theorem kfree_any (g b : Nat) (L : LocksL) (s : Int) (p : PtK) (w : World) (h : LocksAt w g b L s) (hp : PtOK p) (hs : s ≤ 18446744073709551615) (hle : ((lookL L p).getD noLock).1.2 ≤ s) :
    Calls Try.prog 24 #[.pointer (some ⟨g, 0, none⟩), ptA p] w fun e w' => e = .returned (.tuple #[coinA ((lookL L p).getD noLock).1, .bool (lookL L p).isSome]) ∧ Touched [g, b] w w' ∧ LocksAt w' g b (dropL L p) (s - ((lookL L p).getD noLock).1.2) := by
  obtain ⟨c, hc, hce, -⟩ := h.look hp
  rw [← hce] at hle ⊢
  obtain ⟨ok, hok⟩ : ∃ ok, ok = (lookL L p).isSome := ⟨_, rfl⟩
  rw [← hok]
  have hlk : ∀ w', LocksAt w' g b L s → (Instr.lookup 118 (.map (some b)) (ptA p) true).run Try.prog w' = .ok (.tuple #[lockA c, .bool ok]) w' := by
    intro w' h'
    obtain ⟨c', _, e, h2⟩ := h'.look hp
    rw [hce, ← e, hok]; exact h2
  obtain ⟨es, es', clock, t1, t2, t3, t4, t5⟩ := free_map h hp
  obtain ⟨L2, hL2⟩ : ∃ L2, L2 = dropL L p := ⟨_, rfl⟩
  rw [← hL2] at t3 t4 ⊢
  have HT1 := Lib.hid t1; have HT2 := Lib.hid t2; have HT3 := Lib.hid t3; have HT4 := Lib.hid t4; have HT5 := Lib.hid t5
  have HLK := Lib.hid hlk
  have HC := Lib.hid h
  have HX := Lib.hid (ptV_length hp.1)
  have HCL := Lib.hid (lockV_length hc)
  have HC1 := Lib.hid (lockV_one c)
  have HCI := Lib.hid (show (lockV c)[32]? = some (.int .u64 c.1.2) by
    have h1 : (coinV c.1)[32]? = some (.int .u64 c.1.2) := by unfold coinV; rw [List.getElem?_append_right (by simp [hc.1.1])]; simp [hc.1.1]
    have := lock_coin (x := c) (j := 32) h1
    simpa using this)
  have HKL := Lib.hid (coinV_length hc.1); have HK1 := Lib.hid (coinV_one c.1)
  have HPC := Lib.hid (fun j u => lock_coin (x := c) (j := j) (u := u))
  have hc0 := hc.1.2.1
  have HWR := Lib.hid (u64_in (s - c.1.2) ⟨by omega, by omega⟩)
  clear hok hce hc hp hlk t1 t2 t3 t4 t5 hL2
  obtain ⟨xs, hxs⟩ : ∃ xs, xs = ptV p := ⟨_, rfl⟩
  obtain ⟨cs, hcs⟩ : ∃ cs, cs = lockV c := ⟨_, rfl⟩
  obtain ⟨ci, hci⟩ : ∃ ci, ci = c.1.2 := ⟨_, rfl⟩
  rw [← hci] at hc0 hle HCI HWR ⊢
  obtain ⟨ks, hks⟩ : ∃ ks, ks = coinV c.1 := ⟨_, rfl⟩
  rw [coinA, ← hks]
  rw [← hks] at HKL HK1
  rw [← hcs, ← hks] at HPC
  rw [lockA, ← hcs] at HLK
  rw [← hcs] at HCL HC1 HCI
  rw [ptA, ← hxs]
  rw [ptA, ← hxs] at HLK HT5
  rw [← hxs] at HX
  clear hxs hcs hci hks
  obtain ⟨z, hz⟩ : ∃ z, z = w.heap.size := ⟨_, rfl⟩
  have hg : g < z := by rw [hz]; exact h.ltg
  have hb : b < z := by rw [hz]; exact h.ltb
  have HZ := Lib.hid hz
  have hgb := h.ne
  have HGB := Lib.hid hgb
  clear h hz hgb
  go_enter Try.func24, Try.ntmps24
  go_wp2_with (first | (with_reducible refine wpl_box (o := ⟨some 3, _, _, _, _, _⟩) rfl rfl rfl ?_))
  intro w1 hb1 hbw1 hsz1
  rw [← HZ.out] at hb1 hbw1 hsz1 ⊢
  go_wp2_with (first | (with_reducible refine wpl_alloc (o := ⟨some 4, _, _, _, _, _⟩) rfl rfl zero_coin ?_))
  intro w2 hb2 hbw2 hsz2
  have HB1 := Lib.hid (hb1.below hbw2 (by omega))
  have HB2 := Lib.hid hb2
  have HBW := Lib.hid (hbw1.trans (hbw2.mono (by omega)))
  have HSZ := Lib.hid hsz2
  have HC2 := Lib.hid (HC.out.below HBW.out hg hb)
  have HT12 := Lib.hid ((HBW.out.block b hb).trans HT1.out)
  clear hb1 hb2 hbw1 hbw2 hsz1 hsz2
  repeat' (first | (with_reducible refine wp_phase (id := 1) (newC w2 122 (lockV noLock) cs) [9, 10] [(0,2),(0,2),(0,2),(0,2),(0,2),(0,2),(0,2),(0,2),(0,2),(0,0),(1,1),(0,2)] (by kernel_rfl) (by kernel_rfl) ?_ ?_) | go_values | go_skip | go_guarded | go_step | go_upon | go_back)
  · exact newC.start
  have HF := Lib.hid (show ∀ k w', newC w2 122 (lockV noLock) cs k w' → w'.cell? ⟨g, 0, none⟩ = some (.map (some b)) from fun k w' h => (HC2.out.call (newC.low k w' h)).blk.at_ rfl)
  have HL := Lib.hid (show ∀ k w', newC w2 122 (lockV noLock) cs k w' → (Instr.lookup 118 (.map (some b)) (.agg xs.toArray) true).run Try.prog w' = .ok (.tuple #[.agg cs.toArray, .bool ok]) w' from fun k w' h => HLK.out w' (HC2.out.call (newC.low k w' h)))
  have HX1 := Lib.hid (show ∀ k w', newC w2 122 (lockV noLock) cs k w' → Blk w' z 52 xs from fun k w' h => HB1.out.call (newC.low k w' h))
  refine ph_value rfl (by first | rfl | go_simp) (fun k_ _ _ w_ hC_ => by first | (go_simp; rfl) | (go_simp; done) | rfl) (fun K hK => ?_)
  go_simp
  refine hK _ ?_
  clear hK K
  refine ph_value rfl (by first | rfl | go_simp) (fun k_ _ _ w_ hC_ => by first | (go_simp; rfl) | (go_simp; done) | rfl) (fun K hK => ?_)
  go_simp
  refine hK _ ?_
  clear hK K
  refine ph_value rfl (by first | rfl | go_simp) (fun k_ _ _ w_ hC_ => by first | (go_simp; rfl) | (go_simp; done) | rfl) (fun K hK => ?_)
  go_simp
  refine hK _ ?_
  clear hK K
  refine ph_value rfl (by first | rfl | go_simp) (fun k_ _ _ w_ hC_ => by have c1 := HF.out _ _ hC_; first | (go_simp; rfl) | (go_simp; done) | rfl) (fun K hK => ?_)
  go_simp
  refine hK _ ?_
  clear hK K
  refine ph_load rfl rfl rfl row_point (fun k _ _ w h => HX1.out k w h) rfl HX.out ?_
  (intro K hK; go_simp; refine hK _ ?_; clear hK K)
  refine ph_value rfl (by first | rfl | go_simp) (fun k_ _ _ w_ hC_ => by have c1 := HL.out _ _ hC_; first | (go_simp; rfl) | (go_simp; done) | rfl) (fun K hK => ?_)
  go_simp
  refine hK _ ?_
  clear hK K
  refine ph_value rfl (by first | rfl | go_simp) (fun k_ _ _ w_ hC_ => by first | (go_simp; rfl) | (go_simp; done) | rfl) (fun K hK => ?_)
  go_simp
  refine hK _ ?_
  clear hK K
  refine ph_value rfl (by first | rfl | go_simp) (fun k_ _ _ w_ hC_ => by first | (go_simp; rfl) | (go_simp; done) | rfl) (fun K hK => ?_)
  go_simp
  refine hK _ ?_
  clear hK K
  refine ph_value rfl (by first | rfl | go_simp) (fun k_ _ _ w_ hC_ => by first | (go_simp; rfl) | (go_simp; done) | rfl) (fun K hK => ?_)
  go_simp
  refine hK _ ?_
  clear hK K
  refine ph_alloc 0 rfl rfl rfl rfl rfl zero_lock newC.lay ?_
  (intro K hK; go_simp; refine hK _ ?_; clear hK K)
  refine ph_store 1 rfl rfl rfl rfl rfl row_lock rfl rfl HCL.out HC1.out (newC.put (lockV_length noLock_ok)) ?_
  (intro K hK; go_simp; refine hK _ ?_; clear hK K)
  refine ph_value rfl (by first | rfl | go_simp) (fun k_ _ _ w_ hC_ => by first | (go_simp; rfl) | (go_simp; done) | rfl) (fun K hK => ?_)
  go_simp
  refine hK _ ?_
  clear hK K
  refine ph_nil ?_
  intro w3 ⟨hl3, hs3, hx3⟩
  have H3X := Lib.hid hx3
  have H3R := Lib.hid (HB2.out.call hl3)
  have H3P := Lib.hid (HB1.out.call hl3)
  have HC3 := Lib.hid (HC2.out.call hl3)
  have HT13 := Lib.hid ((hl3.block b (by rw [HSZ.out]; omega)).trans HT12.out)
  have HL3 := Lib.hid (Touched.of_below (l := [g, b]) (by rw [← HZ.out]; exact HBW.out.trans (hl3.mono (by rw [HSZ.out]; omega))))
  have HS3 := Lib.hid (show z + 3 = w3.heap.size by rw [hs3, HSZ.out])
  rw [HSZ.out] at H3X ⊢
  clear hl3 hs3 hx3 HF HL HX1 HC2 HB1 HB2 HBW HLK HT12
  generalize hz1 : z + 1 = z1 at *
  have HZ1 := Lib.hid hz1; clear hz1
  generalize hz2 : z1 + 1 = z2 at *
  have HZ2 := Lib.hid hz2; clear hz2
  have h2z : z2 = z + 2 := by have := HZ1.out; have := HZ2.out; omega
  have H2Z := Lib.hid h2z; clear h2z
  repeat' (first | (with_reducible refine wp_phase (id := 2) (delK w3 g b es es' clock s) [5] [(0,1),(0,1),(0,1),(0,1),(0,1),(0,0)] (by kernel_rfl) (by kernel_rfl) ?_ ?_) | go_values | go_skip | go_guarded | go_step | go_upon | go_back)
  · exact ⟨Touched.of_below (Drawn.all (Drawn.one w3)), rfl, HT13.out, HC3.out.blk⟩
  have HF := Lib.hid (show ∀ k w', delK w3 g b es es' clock s k w' → w'.cell? ⟨g, 0, none⟩ = some (.map (some b)) from fun k w' h => h.2.2.2.at_ rfl)
  have HX1 := Lib.hid (show ∀ k w', delK w3 g b es es' clock s k w' → Blk w' z 52 xs from fun k w' h => (h.1.block z H3P.out.lt (by simp; omega)).trans H3P.out)
  refine ph_value rfl (by first | rfl | go_simp) (fun k_ _ _ w_ hC_ => by first | (go_simp; rfl) | (go_simp; done) | rfl) (fun K hK => ?_)
  go_simp
  refine hK _ ?_
  clear hK K
  refine ph_value rfl (by first | rfl | go_simp) (fun k_ _ _ w_ hC_ => by first | (go_simp; rfl) | (go_simp; done) | rfl) (fun K hK => ?_)
  go_simp
  refine hK _ ?_
  clear hK K
  refine ph_value rfl (by first | rfl | go_simp) (fun k_ _ _ w_ hC_ => by first | (go_simp; rfl) | (go_simp; done) | rfl) (fun K hK => ?_)
  go_simp
  refine hK _ ?_
  clear hK K
  refine ph_value rfl (by first | rfl | go_simp) (fun k_ _ _ w_ hC_ => by have c1 := HF.out _ _ hC_; first | (go_simp; rfl) | (go_simp; done) | rfl) (fun K hK => ?_)
  go_simp
  refine hK _ ?_
  clear hK K
  refine ph_load rfl rfl rfl row_point (fun k _ _ w h => HX1.out k w h) rfl HX.out ?_
  (intro K hK; go_simp; refine hK _ ?_; clear hK K)
  refine ph_run 0 rfl rfl rfl (by first | rfl | go_simp) (fun w' hC => ⟨_, by (have hrun := fun ty => HT5.out w' ty hC.2.2.1); first | (go_simp; rfl) | (go_simp; exact ⟨rfl, rfl⟩) | go_simp, ⟨hC.1.grown (withBlk_grown _ _ _) (.inl (by simp)), by rw [withBlk_size, hC.2.1], withBlk_heap hC.2.2.1, hC.2.2.2.grown (withBlk_grown _ _ _) (by simpa using HGB.out)⟩⟩) ?_
  (intro K hK; go_simp; refine hK _ ?_; clear hK K)
  refine ph_nil ?_
  intro w4 hC4
  have H4X := Lib.hid (show Blk w4 z2 122 cs from (hC4.1.block z2 H3X.out.lt (by have := H2Z.out; simp; omega)).trans H3X.out)
  have H4R := Lib.hid (show Blk w4 z1 54 (coinV noCoin) from (hC4.1.block z1 H3R.out.lt (by have := HZ1.out; simp; omega)).trans H3R.out)
  have HC4 := Lib.hid hC4
  have HL4 := Lib.hid (HL3.out.trans hC4.1)
  clear hC4 HF HX1
  repeat' (first | (with_reducible refine wp_phase (id := 3) (sumK w4 g b es' clock s (s - ci)) [10] [(0,1),(0,1),(0,1),(0,0),(0,1),(0,1),(0,1),(0,1),(0,1),(0,1),(0,0)] (by kernel_rfl) (by kernel_rfl) ?_ ?_) | go_values | go_skip | go_guarded | go_step | go_upon | go_back)
  · exact ⟨Touched.of_below (Drawn.all (Drawn.one w4)), rfl, HC4.out.2.2.1, HC4.out.2.2.2⟩
  have HF := Lib.hid (show ∀ w', sumK w4 g b es' clock s (s - ci) 0 w' → w'.cell? ⟨g, 1, none⟩ = some (.int .u64 s) from fun w' h => h.2.2.2.at_ rfl)
  have HX2 := Lib.hid (show ∀ k w', sumK w4 g b es' clock s (s - ci) k w' → w'.cell? ⟨z2, 32, none⟩ = some (.int .u64 ci) from fun k w' h => Blk.at_ (show Blk w' z2 122 cs from (h.1.block z2 H4X.out.lt (by have := H2Z.out; simp; omega)).trans H4X.out) HCI.out)
  refine ph_value rfl (by first | rfl | go_simp) (fun k_ _ _ w_ hC_ => by first | (go_simp; rfl) | (go_simp; done) | rfl) (fun K hK => ?_)
  go_simp
  refine hK _ ?_
  clear hK K
  refine ph_value rfl (by first | rfl | go_simp) (fun k_ _ _ w_ hC_ => by first | (go_simp; rfl) | (go_simp; done) | rfl) (fun K hK => ?_)
  go_simp
  refine hK _ ?_
  clear hK K
  refine ph_value rfl (by first | rfl | go_simp) (fun k_ _ _ w_ hC_ => by first | (go_simp; rfl) | (go_simp; done) | rfl) (fun K hK => ?_)
  go_simp
  refine hK _ ?_
  clear hK K
  refine ph_value rfl (by first | rfl | go_simp) (fun k_ h1_ h2_ w_ hC_ => by (obtain rfl : k_ = 0 := Nat.le_zero.1 h2_); (have c1 := HF.out _ hC_); first | rfl | (go_simp; rfl) | go_simp) (fun K hK => ?_)
  go_simp
  refine hK _ ?_
  clear hK K
  refine ph_value rfl (by first | rfl | go_simp) (fun k_ _ _ w_ hC_ => by first | (go_simp; rfl) | (go_simp; done) | rfl) (fun K hK => ?_)
  go_simp
  refine hK _ ?_
  clear hK K
  refine ph_value rfl (by first | rfl | go_simp) (fun k_ _ _ w_ hC_ => by first | (go_simp; rfl) | (go_simp; done) | rfl) (fun K hK => ?_)
  go_simp
  refine hK _ ?_
  clear hK K
  refine ph_value rfl (by first | rfl | go_simp) (fun k_ _ _ w_ hC_ => by have c1 := HX2.out _ _ hC_; first | (go_simp; rfl) | (go_simp; done) | rfl) (fun K hK => ?_)
  go_simp
  refine hK _ ?_
  clear hK K
  refine ph_value rfl (by first | rfl | go_simp) (fun k_ _ _ w_ hC_ => by have c9 := HWR.out; first | (go_simp; rfl) | (go_simp; done) | rfl) (fun K hK => ?_)
  go_simp
  refine hK _ ?_
  clear hK K
  refine ph_value rfl (by first | rfl | go_simp) (fun k_ _ _ w_ hC_ => by first | (go_simp; rfl) | (go_simp; done) | rfl) (fun K hK => ?_)
  go_simp
  refine hK _ ?_
  clear hK K
  refine ph_value rfl (by first | rfl | go_simp) (fun k_ _ _ w_ hC_ => by first | (go_simp; rfl) | (go_simp; done) | rfl) (fun K hK => ?_)
  go_simp
  refine hK _ ?_
  clear hK K
  refine ph_runs 0 rfl rfl rfl (by first | rfl | go_simp) (fun w' hC => ⟨_, by (have hcl := hC.2.2.2.at_ (i := 1) rfl); (have hfz := hC.2.2.2.frozen 1); first | (go_simp; rfl) | (go_simp; exact ⟨rfl, rfl⟩) | go_simp, ⟨hC.1.grown (grown_set w' g 1 _) (.inl (by simp)), by simpa using hC.2.1, ((grown_set w' g 1 (.int .u64 (s - ci))).block b (Array.getElem?_eq_some_iff.1 hC.2.2.1).1 (by simpa using fun e => HGB.out e.symm)).trans hC.2.2.1, hC.2.2.2.set_ 1 (.int .u64 (s - ci))⟩⟩) ?_
  (intro K hK; go_simp; refine hK _ ?_; clear hK K)
  refine ph_nil ?_
  intro w5 hC5
  have H5X := Lib.hid (show Blk w5 z2 122 cs from (hC5.1.block z2 H4X.out.lt (by have := H2Z.out; simp; omega)).trans H4X.out)
  have H5R := Lib.hid (show Blk w5 z1 54 (coinV noCoin) from (hC5.1.block z1 H4R.out.lt (by have := HZ1.out; simp; omega)).trans H4R.out)
  have HL5 := Lib.hid (HL4.out.trans hC5.1)
  have HC5 := Lib.hid (show LocksAt w5 g b L2 (s - ci) from ⟨hC5.2.2.2, ⟨es', clock, hC5.2.2.1, HT2.out, HT3.out⟩, HT4.out, HGB.out⟩)
  clear hC5 HF HX2
  have HMK := Lib.hid (fun j u (hu : ks[j]? = some u) => H5X.out.at_ (HPC.out j u hu))
  go_wp2_with (first | (with_reducible refine wpl_loadm (o := ⟨some 33, _, _, _, _, _⟩) rfl rfl row_coin HMK.out rfl HKL.out ?_) | (with_reducible refine wpl_storeb (o := ⟨none, .store _ _ _, _, _, _, _⟩) rfl rfl row_coin H5R.out rfl rfl (coinV_length noCoin_ok) HKL.out HK1.out ?_))
  intro w6 hb6 hg6 hs6
  have H6R := Lib.hid hb6
  have HL6 := Lib.hid (HL5.out.grown hg6 (.inr (by have := HZ1.out; have := HZ.out; omega)))
  have HC6 := Lib.hid (show LocksAt w6 g b L2 (s - ci) from by
    obtain ⟨q1, ⟨e1, c1, q2, q3, q4⟩, q5, q6⟩ := HC5.out
    exact ⟨q1.grown hg6 (by have := HZ1.out; simp; omega), ⟨e1, c1, (hg6.block b (Array.getElem?_eq_some_iff.1 q2).1 (by have := HZ1.out; simp; omega)).trans q2, q3, q4⟩, q5, q6⟩)
  clear hb6 hg6 hs6
  go_wp2_with fail
  refine ret_cell_tmp rfl row_coin H6R.out rfl HKL.out rfl rfl ?_
  exact ⟨rfl, HL6.out, HC6.out⟩
end Go.Proofs.Ytolbbhbfbpiljaa

/- Deep keys and deep equality: structs of integers and byte arrays. No program in sight. -/
namespace Go.Proofs.Ytolbbhbfbpiljaa
open Go.RowKit
open Go.WideMaps (KeyLaw)
set_option linter.unusedVariables false
set_option linter.unusedSimpArgs false
section
variable {P : Program}

theorem kl_int {t : TypeId} {k : IntKind} (ht : P.underlying t = some (.int k)) (d : Nat) (z : Int) (h : (Lit.int k z).wf = true) : ∃ l, P.keyLits (d + 1) t [.int k z] = some l := by
  unfold Program.keyLits
  rw [ht]
  refine ⟨[.int k z], ?_⟩
  show (if k = k ∧ (Lit.int k z).wf = true then some [Lit.int k z] else none) = _
  rw [if_pos ⟨rfl, h⟩]
theorem mapM_ex {α β : Type} (f : α → Option β) : ∀ (l : List α), (∀ x ∈ l, ∃ y, f x = some y) → ∃ r, l.mapM f = some r
  | [], _ => ⟨[], rfl⟩
  | x :: l, h => by
    obtain ⟨y, hy⟩ := h x (by simp)
    obtain ⟨r, hr⟩ := mapM_ex f l (fun z hz => h z (by simp [hz]))
    exact ⟨y :: r, by rw [List.mapM_cons, hy, hr]; rfl⟩
theorem kl_struct {t : TypeId} {fs : Array Field} (ht : P.underlying t = some (.struct fs)) (d : Nat) (cs : List Value) (hl : cs.length = P.cellsOf t) (hn : fs.all (·.name != "_") = true)
    (h : ∀ f ∈ fs.toList, ∃ l, P.keyLits d f.type ((cs.drop f.offset).take (P.cellsOf f.type)) = some l) : ∃ l, P.keyLits (d + 1) t cs = some l := by
  unfold Program.keyLits
  rw [ht]
  obtain ⟨r, hr⟩ := mapM_ex _ fs.toList h
  simp only
  rw [if_pos ⟨hl, hn⟩, hr]
  exact ⟨_, rfl⟩
theorem kl_bytes {t e : TypeId} {n : Nat} (ht : P.underlying t = some (.array n e)) (he : P.underlying e = some (.int .u8)) (hce : P.cellsOf e = 1) (hct : P.cellsOf t = n) (d : Nat) (ds : List UInt8) (h : ds.length = n) : ∃ l, P.keyLits (d + 2) t (ds.map B) = some l := by
  unfold Program.keyLits
  rw [ht]
  simp only [List.length_map, h, hct, if_true, hce, Nat.mul_one]
  obtain ⟨r, hr⟩ := mapM_ex (fun i => P.keyLits (d + 1) e (List.take 1 (List.drop i (ds.map B)))) (List.range n) (fun i hi => by
    have hi : i < n := by simpa using hi
    have e1 : List.take 1 (List.drop i (ds.map B)) = [B (ds[i]?.getD 0)] := by
      rw [List.take_one, List.head?_drop, List.getElem?_map, List.getElem?_eq_getElem (by omega)]; rfl
    rw [e1]
    exact kl_int he d (b8 (ds[i]?.getD 0)) (by have := b8_range (ds[i]?.getD 0); simp [Lit.wf, IntKind.min, IntKind.max, IntKind.signed, IntKind.bits]; omega))
  rw [hr]
  exact ⟨_, rfl⟩
theorem keyOf_wide {t : TypeId} (hw : (match P.underlying t with | some (.array _ _) | some (.struct _) => true | _ => false) = true) (hk : P.keyType t = true) (cs : List Value) (hf : (Value.agg cs.toArray).formed P t = true) :
    keyOf P t (.agg cs.toArray) = (P.keyLits (P.types.size + 1) t cs).map fun ls => .string (keyBytes ls) := by
  unfold keyOf
  revert hw
  cases hu : P.underlying t with
  | none => intro h; cases h
  | some d =>
    cases d
    case array => intro _; simp [hk, hf, Value.cells]
    case struct => intro _; simp [hk, hf, Value.cells]
    all_goals (intro h; cases h)
theorem formed_wide {t : TypeId} (hw : (match P.underlying t with | some (.array _ _) | some (.struct _) => true | _ => false) = true) (cs : List Value) (hl : cs.length = P.cellsOf t) : (Value.agg cs.toArray).formed P t = true := by
  unfold Value.formed
  revert hw
  cases hu : P.underlying t with
  | none => simp
  | some d => cases d <;> simp [hl]
/-- From the cells' literals to the key. -/
theorem keyOf_ex {t : TypeId} (hw : (match P.underlying t with | some (.array _ _) | some (.struct _) => true | _ => false) = true) (hk : P.keyType t = true) (cs : List Value) (hl : cs.length = P.cellsOf t)
    (h : ∃ l, P.keyLits (P.types.size + 1) t cs = some l) : ∃ l, keyOf P t (.agg cs.toArray) = some l := by
  obtain ⟨l, hl2⟩ := h
  rw [keyOf_wide hw hk cs (formed_wide hw cs hl), hl2]
  exact ⟨_, rfl⟩
/-- '==' on two values of such a type. -/
theorem eql_deep {t : TypeId} (K : KeyLaw P t) {m : Nat} (hm : m ≤ 10000) (hd : P.keyTypeAt m t = true) (hw : (match P.underlying t with | some (.array _ _) | some (.struct _) => true | _ => false) = true) (hk : P.keyType t = true)
    (x y : List Value) (hx : x.length = P.cellsOf t) (hy : y.length = P.cellsOf t) (kx : ∃ l, P.keyLits (P.types.size + 1) t x = some l) (ky : ∃ l, P.keyLits (P.types.size + 1) t y = some l) :
    ∃ r : Bool, (r = true ↔ x = y) ∧ ∀ w, (Op.equalIn 10000 t (.agg x.toArray) (.agg y.toArray)).run P w = .ok r w := by
  obtain ⟨lx, hlx⟩ := keyOf_ex hw hk x hx kx
  obtain ⟨ly, hly⟩ := keyOf_ex hw hk y hy ky
  have hf := fun cs hl => formed_wide (P := P) (t := t) hw cs hl
  obtain ⟨l1, e1⟩ := kx
  obtain ⟨l2, e2⟩ := ky
  have hall : ∀ w, ∃ r : Bool, (Op.equalIn 10000 t (.agg x.toArray) (.agg y.toArray)).run P w = .ok r w ∧ (r = true ↔ l1 = l2) := by
    intro w
    have := run_equalIn_deep (P := P) (10000 - m) m t hd w _ _ (.agg x.toArray) (.agg y.toArray) l1 l2 (hf x hx) (hf y hy) (by simpa [Value.cells] using e1) (by simpa [Value.cells] using e2)
    rwa [show 10000 - m + m = 10000 by omega] at this
  have hxy : l1 = l2 ↔ x = y := by
    constructor
    · intro h
      subst h
      have k1 : keyOf P t (.agg x.toArray) = keyOf P t (.agg y.toArray) := by
        rw [keyOf_wide hw hk x (hf x hx), keyOf_wide hw hk y (hf y hy), e1, e2]
      have := K.inj hlx (k1 ▸ hlx)
      simpa using this
    · intro h
      subst h
      rw [e1] at e2; cases e2; rfl
  by_cases h : x = y
  · refine ⟨true, by simp [h], fun w => ?_⟩
    obtain ⟨r, h1, h2⟩ := hall w
    have : r = true := h2.2 (hxy.2 h)
    rw [h1, this]
  · refine ⟨false, by simp [h], fun w => ?_⟩
    obtain ⟨r, h1, h2⟩ := hall w
    have : r = false := by
      cases r with
      | false => rfl
      | true => exact absurd (hxy.1 (h2.1 rfl)) h
    rw [h1, this]
end
end Go.Proofs.Ytolbbhbfbpiljaa

/- The contracts of locks.all and of the function that locks.Of hands on. -/
namespace Go.Proofs.Ytolbbhbfbpiljaa
open Go.RowKit Go.Maps Go.Sort Go.Shelf
set_option linter.unusedVariables false
theorem decP_pt {k : PtK} (h : PtOK k) : (decP (ptA k)).1 = k := by
  have : ptA k = encPV ⟨k, h⟩ := rfl
  rw [this, decP_enc]
theorem kvs_pts {es : Array MapEntry} {L : LocksL} (h : kvs es = encL L) (hl : LKOK L) : (es.toList.map dkP).map (·.1) = L.map (·.1) := by
  have e1 : (es.toList.map dkP).map (·.1) = (kvs es).map (fun p => (decP p.1).1) := by unfold kvs; rw [List.map_map, List.map_map]; rfl
  rw [e1, h]; unfold encL; rw [List.map_map]
  refine List.map_congr_left fun e he => ?_
  exact decP_pt (hl.1 e he).1
theorem kvs_encP {es : Array MapEntry} {L : LocksL} (h : kvs es = encL L) (hl : LKOK L) : ∀ en ∈ es.toList, ∃ p : PtS, en.key = encPV p := by
  intro en hen
  have : (en.key, en.val) ∈ kvs es := List.mem_map.2 ⟨en, hen, rfl⟩
  rw [h] at this
  obtain ⟨e, he, hee⟩ := List.mem_map.1 this
  exact ⟨⟨e.1, (hl.1 e he).1⟩, by simp only [Prod.mk.injEq] at hee; exact hee.1.symm⟩
set_option maxRecDepth 100000 in
set_option maxHeartbeats 1000000 in
theorem kall_any (g b : Nat) (L : LocksL) (s : Int) (w : World) (h : LocksAt w g b L s) (hn : L.length ≤ 1000000) :
    Calls Try.prog 55 #[.pointer (some ⟨g, 0, none⟩)] w fun e w' => ∃ (v : Value) (ks : List PtS), e = .returned v ∧ (ks.map (·.1)).Perm (L.map (·.1)) ∧ (∃ ss, ks = sortP ss) ∧ w'.ownsRow w.heap.size 52 33 v ks.length (ks.flatMap encPt) ∧ Below w.heap.size w w' := by
  have HH := Lib.hid h
  have c1 := h.blk.at_ (i := 0) rfl
  clear h
  go_enter Try.func55, Try.ntmps55
  go_wp2_with fail
  refine (kkL_any (some b) w).mono ?_
  rintro e w1 ⟨rfl, hm, hb, hlt⟩
  have HM := Lib.hid hm; have HB := Lib.hid hb; have HLT := Lib.hid hlt
  have HH1 := Lib.hid (HH.out.call hb)
  clear hm hb hlt c1
  obtain ⟨es, clock, h3, h4, h5⟩ := HH1.out.map
  have HP := Lib.hid (kvs_pts h5 HH1.out.ok)
  have hsz : es.size = L.length := by rw [← kvs_length, h5]; simp [encL]
  have HS := Lib.hid (sfdP_any 112 #[.pointer (some ⟨w.heap.size, 0, none⟩)] (enters_of Try.func112 (by kernel_rfl) rfl) _ es.size (by omega) w1 (kkL_gives 1 (by omega) w.heap.size b clock es (kvs_encP h5 HH1.out.ok) h4 w1 HLT.out HM.out h3))
  clear h3 h4 h5 hsz
  obtain ⟨zz, hzz⟩ : ∃ z, z = w.heap.size := ⟨_, rfl⟩
  rw [← hzz] at HS HB ⊢
  have HZ := Lib.hid hzz
  clear hzz
  go_wp2_with fail
  refine HS.out.mono ?_
  rintro e w2 ⟨v, ss, rfl, hS, hrow, hnil, hb2⟩
  have HR2 := Lib.hid hrow; have HB2 := Lib.hid hb2; have HS2 := Lib.hid hS
  clear hS hrow hnil hb2 HS
  go_wp2_with fail
  go_ret
  refine ⟨v, sortP ss, rfl, ?_, ⟨ss, rfl⟩, ?_, ?_⟩
  · rw [← HP.out]; exact ((sortP_perm ss).trans HS2.out).map _
  · rw [sortP_len]
    have := HR2.out
    exact ⟨this.1, this.2.imp id (fun ⟨a, b', c, h1, h2, h3⟩ => ⟨a, b', c, h1, Nat.le_trans HB.out.size h2, h3⟩)⟩
  · have hq := HB.out.trans (HB2.out.mono (by rw [HZ.out]; exact HB.out.size))
    rw [HZ.out] at hq; exact hq
theorem key_idk : WideMaps.KeyLaw Try.prog 29 := deep_law_laid laid_out (m := 3) (by omega) (of_decide_eq_true (by kernel_rfl)) (by kernel_rfl) (by kernel_rfl)
theorem idk_eq (a b : List UInt8) (ha : a.length = 32) (hb : b.length = 32) : ∀ w, (Op.equalIn 10000 29 (.agg (a.map B).toArray) (.agg (b.map B).toArray)).run Try.prog w = .ok (decide (a = b)) w := by
  obtain ⟨n, hn⟩ : ∃ n, Try.prog.types.size = n + 3 := ⟨Try.prog.types.size - 3, by kernel_rfl⟩
  obtain ⟨r, hr, hq⟩ := eql_deep key_idk (m := 3) (by omega) (by kernel_rfl) (by kernel_rfl) (by kernel_rfl) (a.map B) (b.map B) (by rw [List.length_map, ha, cells_id]) (by rw [List.length_map, hb, cells_id]) (by rw [hn]; exact keyLits_id _ _ ha) (by rw [hn]; exact keyLits_id _ _ hb)
  have : r = decide (a = b) := by
    rw [Bool.eq_iff_iff, hr, decide_eq_true_eq]
    exact ⟨map_B_inj, fun h => by rw [h]⟩
  rw [← this]; exact hq
theorem lookup0_nok {P : Program} {w : World} {t k e : TypeId} {es : Array MapEntry} {clock b : Nat} {x : Value} {lx : Lit} (K : WideMaps.KeyLaw P k) (ht : P.underlying t = some (.map k e)) (hb : w.heap[b]? = some (.map es clock)) (h : MapOK P k es clock) (hx : keyOf P k x = some lx) (hno : ∀ p ∈ kvs es, p.1 ≠ x)
    {z : Value} (hz : ∀ w, (zeroValue e).run P w = .ok z w) : (Instr.lookup t (.map (some b)) x false).run P w = .ok z w := by
  simp [Instr.lookup, run_underlying ht, MapKept.run_getObj_map hb, K.check w _ hx, h.find_no K hx hno w, hz]
theorem lookup0_yesk {P : Program} {w : World} {t k e : TypeId} {es : Array MapEntry} {clock b : Nat} {x : Value} {lx : Lit} (K : WideMaps.KeyLaw P k) (ht : P.underlying t = some (.map k e)) (hb : w.heap[b]? = some (.map es clock)) (h : MapOK P k es clock) (hx : keyOf P k x = some lx) {j : Nat} {en : MapEntry} (hj : es[j]? = some en) (hk : en.key = x) :
    (Instr.lookup t (.map (some b)) x false).run P w = .ok en.val w := by
  simp [Instr.lookup, run_underlying ht, MapKept.run_getObj_map hb, K.check w _ hx, h.find_yes K hx hj hk w]
theorem LocksAt.look0 {w : World} {g b : Nat} {L : LocksL} {s : Int} (h : LocksAt w g b L s) {p : PtK} (hp : PtOK p) :
    ∃ c : LockV, LockOK c ∧ c = (lookL L p).getD noLock ∧ (Instr.lookup 118 (.map (some b)) (ptA p) false).run Try.prog w = .ok (lockA c) w := by
  obtain ⟨hb1, ⟨es, clock, h3, h4, h5⟩, ⟨h6, h6'⟩, h7⟩ := h
  obtain ⟨lx, hx⟩ := keyOf_pt p hp
  unfold lookL
  cases hf : L.find? (fun e => e.1 == p) with
  | none =>
    refine ⟨noLock, noLock_ok, rfl, ?_⟩
    refine lookup0_nok kl_point Try.underlying118 h3 h4 hx ?_ zeroV_lock
    intro q hq e
    rw [h5] at hq
    obtain ⟨en, hen, rfl⟩ := List.mem_map.1 hq
    have := List.find?_eq_none.1 hf en hen
    exact this (by simpa using ptA_inj (h6 en hen).1.1 hp.1 e)
  | some en =>
    have hmem := List.mem_of_find?_eq_some hf
    have hkey : en.1 = p := by simpa using List.find?_some hf
    refine ⟨en.2, (h6 en hmem).2, rfl, ?_⟩
    obtain ⟨j, hj, hje⟩ := List.getElem_of_mem hmem
    have e1 : (kvs es)[j]? = some (ptA en.1, lockA en.2) := by rw [h5]; unfold encL; rw [List.getElem?_map, List.getElem?_eq_getElem hj, hje]; rfl
    unfold kvs at e1
    rw [List.getElem?_map] at e1
    obtain ⟨me, hme, hmm⟩ := Option.map_eq_some_iff.1 e1
    simp only [Prod.mk.injEq] at hmm
    have := lookup0_yesk kl_point Try.underlying118 h3 h4 hx (j := j) (en := me) (by simpa using hme) (by rw [hmm.1, hkey])
    rw [hmm.2] at this
    exact this
theorem fld_lid {x : LockV} (h : LockOK x) (w : World) : (Instr.field 122 (.agg (lockV x).toArray) 1).run Try.prog w = .ok (.agg (x.2.map B).toArray) w := by
  unfold Instr.field
  rw [Sem.run_bind, run_underlying Try.underlying122]
  simp [part, asAgg, sizeOf, typeInfo]
  have hi : (Try.prog.info? 29).map (·.size) = some 32 := by kernel_rfl
  obtain ⟨i, h1, h2⟩ := Option.map_eq_some_iff.1 hi
  have l1 := coinV_length h.1
  have l2 : (x.2.map B).length = 32 := by rw [List.length_map, h.2]
  have e : List.take 32 (List.drop 33 (lockV x)) = x.2.map B := by
    unfold lockV
    rw [List.drop_append_of_le_length (by omega), List.drop_of_length_le (by omega), List.nil_append, List.take_of_length_le (by omega)]
  simp [h1, h2, e]
set_option maxRecDepth 100000 in
set_option maxHeartbeats 1000000 in
/-- The function that Of hands to DeleteFunc: is an output held for somebody else? -/
theorem of1_any (g b : Nat) (L : LocksL) (s : Int) (p : PtK) (id : List UInt8) (Bl Bi : Nat) (w : World) (h : LocksAt w g b L s) (hp : PtOK p) (hi : id.length = 32) (hbl : w.cell? ⟨Bl, 0, none⟩ = some (.pointer (some ⟨g, 0, none⟩))) (hbi : Blk w Bi 29 (id.map B)) :
    Calls Try.prog 56 #[ptA p, .pointer (some ⟨Bl, 0, none⟩), .pointer (some ⟨Bi, 0, none⟩)] w fun e w' => e = .returned (.bool !(decide (((lookL L p).getD noLock).2 = id))) ∧ Below w.heap.size w w' := by
  obtain ⟨c, hc, hce, -⟩ := h.look0 hp
  rw [← hce]
  have hlk : ∀ w', LocksAt w' g b L s → (Instr.lookup 118 (.map (some b)) (ptA p) false).run Try.prog w' = .ok (lockA c) w' := by
    intro w' h'
    obtain ⟨c', _, e, h2⟩ := h'.look0 hp
    rw [hce, ← e]; exact h2
  have HLK := Lib.hid hlk; have HC := Lib.hid h; have HX := Lib.hid (ptV_length hp.1); have HFD := Lib.hid (fun w => fld_lid hc w)
  have HEQ := Lib.hid (idk_eq c.2 id hc.2 hi)
  have HIL := Lib.hid (show (id.map B).length = 32 by rw [List.length_map, hi])
  have HBI := Lib.hid hbi; have HBL := Lib.hid hbl
  obtain ⟨r, hr⟩ : ∃ r, r = decide (c.2 = id) := ⟨_, rfl⟩
  rw [← hr] at HEQ ⊢
  clear hce hc hlk hi hbi hbl hr
  obtain ⟨xs, hxs⟩ : ∃ xs, xs = ptV p := ⟨_, rfl⟩
  obtain ⟨cs, hcs⟩ : ∃ cs, cs = lockV c := ⟨_, rfl⟩
  obtain ⟨is, his⟩ : ∃ is, is = c.2.map B := ⟨_, rfl⟩
  obtain ⟨js, hjs⟩ : ∃ js, js = id.map B := ⟨_, rfl⟩
  rw [lockA, ← hcs] at HLK
  rw [← hcs, ← his] at HFD
  rw [← his, ← hjs] at HEQ
  rw [← hjs] at HIL HBI
  rw [ptA, ← hxs]
  rw [ptA, ← hxs] at HLK
  rw [← hxs] at HX
  clear hxs hcs his hjs hp
  obtain ⟨z, hz⟩ : ∃ z, z = w.heap.size := ⟨_, rfl⟩
  have HZ := Lib.hid hz
  rw [← hz]
  clear h hz
  go_enter Try.func56, Try.ntmps56
  go_wp2_with (first | (with_reducible refine wpl_box (o := ⟨some 3, _, _, _, _, _⟩) rfl rfl rfl ?_))
  intro w1 hb1 hbw1 hsz1
  have HC1 := Lib.hid (HC.out.call hbw1)
  have HI1 := Lib.hid (HBI.out.call hbw1)
  have HL1 := Lib.hid (bcell hbw1 HBL.out)
  rw [← HZ.out] at hb1 hbw1 hsz1 ⊢
  have HB1 := Lib.hid hb1
  have HBW := Lib.hid hbw1
  have HS1 := Lib.hid (show z ≤ w1.heap.size by omega)
  clear hb1 hbw1 hsz1 HC HBI HBL
  go_wp2_with fail
  repeat' (first | (with_reducible refine wp_phase (id := 1) (fun (_ : Nat) w' => Below w1.heap.size w1 w') [] [(0,0),(0,0),(0,0),(0,0),(0,0),(0,0),(0,0),(0,0),(0,0),(0,0)] (by kernel_rfl) (by kernel_rfl) ?_ ?_) | go_values | go_skip | go_guarded | go_step | go_upon | go_back)
  · exact Drawn.all (Drawn.one w1)
  have HF0 := Lib.hid (show ∀ w', Below w1.heap.size w1 w' → w'.cell? ⟨Bl, 0, none⟩ = some (.pointer (some ⟨g, 0, none⟩)) from fun w' h => bcell h HL1.out)
  have HF := Lib.hid (show ∀ w', Below w1.heap.size w1 w' → w'.cell? ⟨g, 0, none⟩ = some (.map (some b)) from fun w' h => (HC1.out.call h).blk.at_ rfl)
  have HL := Lib.hid (show ∀ w', Below w1.heap.size w1 w' → (Instr.lookup 118 (.map (some b)) (.agg xs.toArray) false).run Try.prog w' = .ok (.agg cs.toArray) w' from fun w' h => HLK.out w' (HC1.out.call h))
  refine ph_value rfl (by first | rfl | go_simp) (fun k_ _ _ w_ hC_ => by have c1 := HF0.out _ hC_; first | (go_simp; rfl) | (go_simp; done) | rfl) (fun K hK => ?_)
  go_simp
  refine hK _ ?_
  clear hK K
  refine ph_value rfl (by first | rfl | go_simp) (fun k_ _ _ w_ hC_ => by first | (go_simp; rfl) | (go_simp; done) | rfl) (fun K hK => ?_)
  go_simp
  refine hK _ ?_
  clear hK K
  refine ph_value rfl (by first | rfl | go_simp) (fun k_ _ _ w_ hC_ => by first | (go_simp; rfl) | (go_simp; done) | rfl) (fun K hK => ?_)
  go_simp
  refine hK _ ?_
  clear hK K
  refine ph_value rfl (by first | rfl | go_simp) (fun k_ _ _ w_ hC_ => by have c1 := HF.out _ hC_; first | (go_simp; rfl) | (go_simp; done) | rfl) (fun K hK => ?_)
  go_simp
  refine hK _ ?_
  clear hK K
  refine ph_load rfl rfl rfl row_point (fun k _ _ w h => HB1.out.call h) rfl HX.out ?_
  (intro K hK; go_simp; refine hK _ ?_; clear hK K)
  refine ph_value rfl (by first | rfl | go_simp) (fun k_ _ _ w_ hC_ => by have c1 := HL.out _ hC_; first | (go_simp; rfl) | (go_simp; done) | rfl) (fun K hK => ?_)
  go_simp
  refine hK _ ?_
  clear hK K
  refine ph_value rfl (by first | rfl | go_simp) (fun k_ _ _ w_ hC_ => by have c1 := HFD.out w_; first | (go_simp; rfl) | (go_simp; done) | rfl) (fun K hK => ?_)
  go_simp
  refine hK _ ?_
  clear hK K
  refine ph_load rfl rfl rfl row_idk (fun k _ _ w h => HI1.out.call h) rfl HIL.out ?_
  (intro K hK; go_simp; refine hK _ ?_; clear hK K)
  refine ph_value rfl (by first | rfl | go_simp) (fun k_ _ _ w_ hC_ => by have c1 := HEQ.out w_; first | (go_simp; rfl) | (go_simp; done) | rfl) (fun K hK => ?_)
  go_simp
  refine hK _ ?_
  clear hK K
  refine ph_value rfl (by first | rfl | go_simp) (fun k_ _ _ w_ hC_ => by first | (go_simp; rfl) | (go_simp; done) | rfl) (fun K hK => ?_)
  go_simp
  refine hK _ ?_
  clear hK K
  refine ph_nil ?_
  intro w2 hl2
  have HB2 := Lib.hid (HBW.out.trans (hl2.mono HS1.out))
  clear hl2
  go_wp2_with fail
  go_ret
  exact ⟨rfl, HB2.out⟩
end Go.Proofs.Ytolbbhbfbpiljaa

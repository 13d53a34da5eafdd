/- The contracts of locks.all and of the function that locks.Of hands on. -/
import Derived.Test.YtolbbhbfbpiljaaKeyL
import Derived.Test.YtolbbhbfbpiljaaLockD
import Derived.Test.YtolbbhbfbpiljaaKey
namespace Go.Proofs.Ytolbbhbfbpiljaa
open Go.RowKit Go.Maps Go.Sort Go.Shelf
set_option linter.unusedVariables false
theorem decP_pt {k : PtK} (h : PtOK k) : (decP (ptA k)).1 = k := by
  have : ptA k = encPV ⟨k, h⟩ := rfl
  rw [this, decP_enc]
theorem kvs_pts {es : Array MapEntry} {L : LocksL} (h : kvs es = encL L) (hl : LKOK L) : (es.toList.map dkP).map (·.1) = L.map (·.1) := by
  have e1 : (es.toList.map dkP).map (·.1) = (kvs es).map (fun p => (decP p.1).1) := by unfold kvs; rw [List.map_map, List.map_map]; rfl
  rw [e1, h]; unfold encL; rw [List.map_map]
  refine List.map_congr_left fun e he => ?_
  exact decP_pt (hl.1 e he).1
theorem kvs_encP {es : Array MapEntry} {L : LocksL} (h : kvs es = encL L) (hl : LKOK L) : ∀ en ∈ es.toList, ∃ p : PtS, en.key = encPV p := by
  intro en hen
  have : (en.key, en.val) ∈ kvs es := List.mem_map.2 ⟨en, hen, rfl⟩
  rw [h] at this
  obtain ⟨e, he, hee⟩ := List.mem_map.1 this
  exact ⟨⟨e.1, (hl.1 e he).1⟩, by simp only [Prod.mk.injEq] at hee; exact hee.1.symm⟩
set_option maxRecDepth 100000 in
set_option maxHeartbeats 1000000 in
theorem kall_any (g b : Nat) (L : LocksL) (s : Int) (w : World) (h : LocksAt w g b L s) (hn : L.length ≤ 1000000) :
    Calls Try.prog 55 #[.pointer (some ⟨g, 0, none⟩)] w fun e w' => ∃ (v : Value) (ks : List PtS), e = .returned v ∧ (ks.map (·.1)).Perm (L.map (·.1)) ∧ (∃ ss, ks = sortP ss) ∧ w'.ownsRow w.heap.size 52 33 v ks.length (ks.flatMap encPt) ∧ Below w.heap.size w w' := by
  have HH := Lib.hid h
  have c1 := h.blk.at_ (i := 0) rfl
  clear h
  go_enter Try.func55, Try.ntmps55
  go_wp2_with fail
  refine (kkL_any (some b) w).mono ?_
  rintro e w1 ⟨rfl, hm, hb, hlt⟩
  have HM := Lib.hid hm; have HB := Lib.hid hb; have HLT := Lib.hid hlt
  have HH1 := Lib.hid (HH.out.call hb)
  clear hm hb hlt c1
  obtain ⟨es, clock, h3, h4, h5⟩ := HH1.out.map
  have HP := Lib.hid (kvs_pts h5 HH1.out.ok)
  have hsz : es.size = L.length := by rw [← kvs_length, h5]; simp [encL]
  have HS := Lib.hid (sfdP_any 112 #[.pointer (some ⟨w.heap.size, 0, none⟩)] (enters_of Try.func112 (by kernel_rfl) rfl) _ es.size (by omega) w1 (kkL_gives 1 (by omega) w.heap.size b clock es (kvs_encP h5 HH1.out.ok) h4 w1 HLT.out HM.out h3))
  clear h3 h4 h5 hsz
  obtain ⟨zz, hzz⟩ : ∃ z, z = w.heap.size := ⟨_, rfl⟩
  rw [← hzz] at HS HB ⊢
  have HZ := Lib.hid hzz
  clear hzz
  go_wp2_with fail
  refine HS.out.mono ?_
  rintro e w2 ⟨v, ss, rfl, hS, hrow, hnil, hb2⟩
  have HR2 := Lib.hid hrow; have HB2 := Lib.hid hb2; have HS2 := Lib.hid hS
  clear hS hrow hnil hb2 HS
  go_wp2_with fail
  go_ret
  refine ⟨v, sortP ss, rfl, ?_, ⟨ss, rfl⟩, ?_, ?_⟩
  · rw [← HP.out]; exact ((sortP_perm ss).trans HS2.out).map _
  · rw [sortP_len]
    have := HR2.out
    exact ⟨this.1, this.2.imp id (fun ⟨a, b', c, h1, h2, h3⟩ => ⟨a, b', c, h1, Nat.le_trans HB.out.size h2, h3⟩)⟩
  · have hq := HB.out.trans (HB2.out.mono (by rw [HZ.out]; exact HB.out.size))
    rw [HZ.out] at hq; exact hq
theorem key_idk : WideMaps.KeyLaw Try.prog 29 := deep_law_laid laid_out (m := 3) (by omega) (of_decide_eq_true (by kernel_rfl)) (by kernel_rfl) (by kernel_rfl)
theorem idk_eq (a b : List UInt8) (ha : a.length = 32) (hb : b.length = 32) : ∀ w, (Op.equalIn 10000 29 (.agg (a.map B).toArray) (.agg (b.map B).toArray)).run Try.prog w = .ok (decide (a = b)) w := by
  obtain ⟨n, hn⟩ : ∃ n, Try.prog.types.size = n + 3 := ⟨Try.prog.types.size - 3, by kernel_rfl⟩
  obtain ⟨r, hr, hq⟩ := eql_deep key_idk (m := 3) (by omega) (by kernel_rfl) (by kernel_rfl) (by kernel_rfl) (a.map B) (b.map B) (by rw [List.length_map, ha, cells_id]) (by rw [List.length_map, hb, cells_id]) (by rw [hn]; exact keyLits_id _ _ ha) (by rw [hn]; exact keyLits_id _ _ hb)
  have : r = decide (a = b) := by
    rw [Bool.eq_iff_iff, hr, decide_eq_true_eq]
    exact ⟨map_B_inj, fun h => by rw [h]⟩
  rw [← this]; exact hq
theorem lookup0_nok {P : Program} {w : World} {t k e : TypeId} {es : Array MapEntry} {clock b : Nat} {x : Value} {lx : Lit} (K : WideMaps.KeyLaw P k) (ht : P.underlying t = some (.map k e)) (hb : w.heap[b]? = some (.map es clock)) (h : MapOK P k es clock) (hx : keyOf P k x = some lx) (hno : ∀ p ∈ kvs es, p.1 ≠ x)
    {z : Value} (hz : ∀ w, (zeroValue e).run P w = .ok z w) : (Instr.lookup t (.map (some b)) x false).run P w = .ok z w := by
  simp [Instr.lookup, run_underlying ht, MapKept.run_getObj_map hb, K.check w _ hx, h.find_no K hx hno w, hz]
theorem lookup0_yesk {P : Program} {w : World} {t k e : TypeId} {es : Array MapEntry} {clock b : Nat} {x : Value} {lx : Lit} (K : WideMaps.KeyLaw P k) (ht : P.underlying t = some (.map k e)) (hb : w.heap[b]? = some (.map es clock)) (h : MapOK P k es clock) (hx : keyOf P k x = some lx) {j : Nat} {en : MapEntry} (hj : es[j]? = some en) (hk : en.key = x) :
    (Instr.lookup t (.map (some b)) x false).run P w = .ok en.val w := by
  simp [Instr.lookup, run_underlying ht, MapKept.run_getObj_map hb, K.check w _ hx, h.find_yes K hx hj hk w]
theorem LocksAt.look0 {w : World} {g b : Nat} {L : LocksL} {s : Int} (h : LocksAt w g b L s) {p : PtK} (hp : PtOK p) :
    ∃ c : LockV, LockOK c ∧ c = (lookL L p).getD noLock ∧ (Instr.lookup 118 (.map (some b)) (ptA p) false).run Try.prog w = .ok (lockA c) w := by
  obtain ⟨hb1, ⟨es, clock, h3, h4, h5⟩, ⟨h6, h6'⟩, h7⟩ := h
  obtain ⟨lx, hx⟩ := keyOf_pt p hp
  unfold lookL
  cases hf : L.find? (fun e => e.1 == p) with
  | none =>
    refine ⟨noLock, noLock_ok, rfl, ?_⟩
    refine lookup0_nok kl_point Try.underlying118 h3 h4 hx ?_ zeroV_lock
    intro q hq e
    rw [h5] at hq
    obtain ⟨en, hen, rfl⟩ := List.mem_map.1 hq
    have := List.find?_eq_none.1 hf en hen
    exact this (by simpa using ptA_inj (h6 en hen).1.1 hp.1 e)
  | some en =>
    have hmem := List.mem_of_find?_eq_some hf
    have hkey : en.1 = p := by simpa using List.find?_some hf
    refine ⟨en.2, (h6 en hmem).2, rfl, ?_⟩
    obtain ⟨j, hj, hje⟩ := List.getElem_of_mem hmem
    have e1 : (kvs es)[j]? = some (ptA en.1, lockA en.2) := by rw [h5]; unfold encL; rw [List.getElem?_map, List.getElem?_eq_getElem hj, hje]; rfl
    unfold kvs at e1
    rw [List.getElem?_map] at e1
    obtain ⟨me, hme, hmm⟩ := Option.map_eq_some_iff.1 e1
    simp only [Prod.mk.injEq] at hmm
    have := lookup0_yesk kl_point Try.underlying118 h3 h4 hx (j := j) (en := me) (by simpa using hme) (by rw [hmm.1, hkey])
    rw [hmm.2] at this
    exact this
theorem fld_lid {x : LockV} (h : LockOK x) (w : World) : (Instr.field 122 (.agg (lockV x).toArray) 1).run Try.prog w = .ok (.agg (x.2.map B).toArray) w := by
  unfold Instr.field
  rw [Sem.run_bind, run_underlying Try.underlying122]
  simp [part, asAgg, sizeOf, typeInfo]
  have hi : (Try.prog.info? 29).map (·.size) = some 32 := by kernel_rfl
  obtain ⟨i, h1, h2⟩ := Option.map_eq_some_iff.1 hi
  have l1 := coinV_length h.1
  have l2 : (x.2.map B).length = 32 := by rw [List.length_map, h.2]
  have e : List.take 32 (List.drop 33 (lockV x)) = x.2.map B := by
    unfold lockV
    rw [List.drop_append_of_le_length (by omega), List.drop_of_length_le (by omega), List.nil_append, List.take_of_length_le (by omega)]
  simp [h1, h2, e]
set_option maxRecDepth 100000 in
set_option maxHeartbeats 1000000 in
/-- The function that Of hands to DeleteFunc: is an output held for somebody else? -/
theorem of1_any (g b : Nat) (L : LocksL) (s : Int) (p : PtK) (id : List UInt8) (Bl Bi : Nat) (w : World) (h : LocksAt w g b L s) (hp : PtOK p) (hi : id.length = 32) (hbl : w.cell? ⟨Bl, 0, none⟩ = some (.pointer (some ⟨g, 0, none⟩))) (hbi : Blk w Bi 29 (id.map B)) :
    Calls Try.prog 56 #[ptA p, .pointer (some ⟨Bl, 0, none⟩), .pointer (some ⟨Bi, 0, none⟩)] w fun e w' => e = .returned (.bool !(decide (((lookL L p).getD noLock).2 = id))) ∧ Below w.heap.size w w' := by
  obtain ⟨c, hc, hce, -⟩ := h.look0 hp
  rw [← hce]
  have hlk : ∀ w', LocksAt w' g b L s → (Instr.lookup 118 (.map (some b)) (ptA p) false).run Try.prog w' = .ok (lockA c) w' := by
    intro w' h'
    obtain ⟨c', _, e, h2⟩ := h'.look0 hp
    rw [hce, ← e]; exact h2
  have HLK := Lib.hid hlk; have HC := Lib.hid h; have HX := Lib.hid (ptV_length hp.1); have HFD := Lib.hid (fun w => fld_lid hc w)
  have HEQ := Lib.hid (idk_eq c.2 id hc.2 hi)
  have HIL := Lib.hid (show (id.map B).length = 32 by rw [List.length_map, hi])
  have HBI := Lib.hid hbi; have HBL := Lib.hid hbl
  obtain ⟨r, hr⟩ : ∃ r, r = decide (c.2 = id) := ⟨_, rfl⟩
  rw [← hr] at HEQ ⊢
  clear hce hc hlk hi hbi hbl hr
  obtain ⟨xs, hxs⟩ : ∃ xs, xs = ptV p := ⟨_, rfl⟩
  obtain ⟨cs, hcs⟩ : ∃ cs, cs = lockV c := ⟨_, rfl⟩
  obtain ⟨is, his⟩ : ∃ is, is = c.2.map B := ⟨_, rfl⟩
  obtain ⟨js, hjs⟩ : ∃ js, js = id.map B := ⟨_, rfl⟩
  rw [lockA, ← hcs] at HLK
  rw [← hcs, ← his] at HFD
  rw [← his, ← hjs] at HEQ
  rw [← hjs] at HIL HBI
  rw [ptA, ← hxs]
  rw [ptA, ← hxs] at HLK
  rw [← hxs] at HX
  clear hxs hcs his hjs hp
  obtain ⟨z, hz⟩ : ∃ z, z = w.heap.size := ⟨_, rfl⟩
  have HZ := Lib.hid hz
  rw [← hz]
  clear h hz
  go_enter Try.func56, Try.ntmps56
  go_wp2_with (first | (with_reducible refine wpl_box (o := ⟨some 3, _, _, _, _, _⟩) rfl rfl rfl ?_))
  intro w1 hb1 hbw1 hsz1
  have HC1 := Lib.hid (HC.out.call hbw1)
  have HI1 := Lib.hid (HBI.out.call hbw1)
  have HL1 := Lib.hid (bcell hbw1 HBL.out)
  rw [← HZ.out] at hb1 hbw1 hsz1 ⊢
  have HB1 := Lib.hid hb1
  have HBW := Lib.hid hbw1
  have HS1 := Lib.hid (show z ≤ w1.heap.size by omega)
  clear hb1 hbw1 hsz1 HC HBI HBL
  go_wp2_with fail
  repeat' (first | (with_reducible refine wp_phase (id := 1) (fun (_ : Nat) w' => Below w1.heap.size w1 w') [] [(0,0),(0,0),(0,0),(0,0),(0,0),(0,0),(0,0),(0,0),(0,0),(0,0)] (by kernel_rfl) (by kernel_rfl) ?_ ?_) | go_values | go_skip | go_guarded | go_step | go_upon | go_back)
  · exact Drawn.all (Drawn.one w1)
  have HF0 := Lib.hid (show ∀ w', Below w1.heap.size w1 w' → w'.cell? ⟨Bl, 0, none⟩ = some (.pointer (some ⟨g, 0, none⟩)) from fun w' h => bcell h HL1.out)
  have HF := Lib.hid (show ∀ w', Below w1.heap.size w1 w' → w'.cell? ⟨g, 0, none⟩ = some (.map (some b)) from fun w' h => (HC1.out.call h).blk.at_ rfl)
  have HL := Lib.hid (show ∀ w', Below w1.heap.size w1 w' → (Instr.lookup 118 (.map (some b)) (.agg xs.toArray) false).run Try.prog w' = .ok (.agg cs.toArray) w' from fun w' h => HLK.out w' (HC1.out.call h))
  refine ph_value rfl (by first | rfl | go_simp) (fun k_ _ _ w_ hC_ => by have c1 := HF0.out _ hC_; first | (go_simp; rfl) | (go_simp; done) | rfl) (fun K hK => ?_)
  go_simp
  refine hK _ ?_
  clear hK K
  refine ph_value rfl (by first | rfl | go_simp) (fun k_ _ _ w_ hC_ => by first | (go_simp; rfl) | (go_simp; done) | rfl) (fun K hK => ?_)
  go_simp
  refine hK _ ?_
  clear hK K
  refine ph_value rfl (by first | rfl | go_simp) (fun k_ _ _ w_ hC_ => by first | (go_simp; rfl) | (go_simp; done) | rfl) (fun K hK => ?_)
  go_simp
  refine hK _ ?_
  clear hK K
  refine ph_value rfl (by first | rfl | go_simp) (fun k_ _ _ w_ hC_ => by have c1 := HF.out _ hC_; first | (go_simp; rfl) | (go_simp; done) | rfl) (fun K hK => ?_)
  go_simp
  refine hK _ ?_
  clear hK K
  refine ph_load rfl rfl rfl row_point (fun k _ _ w h => HB1.out.call h) rfl HX.out ?_
  (intro K hK; go_simp; refine hK _ ?_; clear hK K)
  refine ph_value rfl (by first | rfl | go_simp) (fun k_ _ _ w_ hC_ => by have c1 := HL.out _ hC_; first | (go_simp; rfl) | (go_simp; done) | rfl) (fun K hK => ?_)
  go_simp
  refine hK _ ?_
  clear hK K
  refine ph_value rfl (by first | rfl | go_simp) (fun k_ _ _ w_ hC_ => by have c1 := HFD.out w_; first | (go_simp; rfl) | (go_simp; done) | rfl) (fun K hK => ?_)
  go_simp
  refine hK _ ?_
  clear hK K
  refine ph_load rfl rfl rfl row_idk (fun k _ _ w h => HI1.out.call h) rfl HIL.out ?_
  (intro K hK; go_simp; refine hK _ ?_; clear hK K)
  refine ph_value rfl (by first | rfl | go_simp) (fun k_ _ _ w_ hC_ => by have c1 := HEQ.out w_; first | (go_simp; rfl) | (go_simp; done) | rfl) (fun K hK => ?_)
  go_simp
  refine hK _ ?_
  clear hK K
  refine ph_value rfl (by first | rfl | go_simp) (fun k_ _ _ w_ hC_ => by first | (go_simp; rfl) | (go_simp; done) | rfl) (fun K hK => ?_)
  go_simp
  refine hK _ ?_
  clear hK K
  refine ph_nil ?_
  intro w2 hl2
  have HB2 := Lib.hid (HBW.out.trans (hl2.mono HS1.out))
  clear hl2
  go_wp2_with fail
  go_ret
  exact ⟨rfl, HB2.out⟩
end Go.Proofs.Ytolbbhbfbpiljaa

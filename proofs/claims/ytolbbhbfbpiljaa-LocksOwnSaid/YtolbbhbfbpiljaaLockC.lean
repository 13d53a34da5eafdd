/- The contract of locks.Put. Printed by mklock.py. -/
import Derived.Test.YtolbbhbfbpiljaaLockB
import Derived.Test.YtolbbhbfbpiljaaCoinC
import Derived.Test.YtolbbhbfbpiljaaBuild
import Derived.OpenShut
namespace Go.Proofs.Ytolbbhbfbpiljaa
open Go.RowKit
set_option linter.unusedVariables false
def putQ (L : LocksL) (s : Int) (p : PtK) (c : CoinV) : Int :=
  if p.2 < 0 ∨ 16 ≤ p.2 ∨ c.2 = 0 ∨ 4611686018427387904 < c.2 then 5 else if (lookL L p).isSome then 24 else if 64 ≤ L.length then 18 else (addE s c.2).2
theorem lookL_none {L : LocksL} {p : PtK} (h : (lookL L p).isSome = false) : ∀ e ∈ L, e.1 ≠ p := by
  intro e he hk
  unfold lookL at h
  cases hf : L.find? (fun e => e.1 == p) with
  | none => exact List.find?_eq_none.1 hf e he (by simpa using hk)
  | some x => rw [hf] at h; simp at h
theorem built_lock0 (parts : List (Nat × Value)) : Try.prog.built 122 parts = Instr.fill (fun i => (#[(0, 33), (33, 32)] : Array (Nat × Nat))[i]?) (lockV noLock).toArray parts := by kernel_rfl
theorem built_lock {x : LockV} (h : LockOK x) : Try.prog.built 122 [(0, .agg (coinV x.1).toArray), (1, .agg (x.2.map B).toArray)] = some (lockV x).toArray := by
  have l0 := lockV_length noLock_ok
  have l1 := coinV_length h.1
  have l2 : (x.2.map B).length = 32 := by rw [List.length_map, h.2]
  rw [built_lock0, fill_cons (off := 0) (s := 33) (cs := coinV x.1) rfl rfl l1 (by rw [l0]; omega), fill_cons (off := 33) (s := 32) (cs := x.2.map B) rfl rfl l2 (by unfold splice; simp only [List.length_append, List.length_take, List.length_drop, l0, l1]; omega), fill_nil]
  refine congrArg (fun l : List Value => some l.toArray) ?_
  rw [show lockV x = coinV x.1 ++ x.2.map B from rfl]
  unfold splice
  rw [l1, l2]
  have l3 : (List.drop (0 + 33) (lockV noLock)).length = 32 := by rw [List.length_drop, l0]
  rw [List.take_zero, List.nil_append, List.take_append_of_le_length (by omega), List.take_of_length_le (by omega), List.drop_of_length_le (by simp only [List.length_append]; omega), List.append_nil]
/-- The phases of 'm[p], sum = x, s2': the entry laid, filled, the sum written. -/
def putK (w0 : World) (g b : Nat) (es : Array MapEntry) (clock : Nat) (p : PtK) (c : LockV) (s s2 : Int) (k : Nat) (w : World) : Prop :=
  Touched [g, b] w0 w ∧ w.heap.size = w0.heap.size ∧
  w.heap[b]? = some (if k = 0 then .map es clock else if k = 1 then .map (es.push { key := ptA p, val := lockA noLock, born := clock }) (clock + 1)
    else .map ((es.push { key := ptA p, val := lockA noLock, born := clock }).modify es.size fun e => { e with val := lockA c }) (clock + 1)) ∧
  Blk w g 120 [.map (some b), .int .u64 (if k = 3 then s2 else s)]

section
variable {w0 w : World} {g b : Nat} {es : Array MapEntry} {clock : Nat} {p : PtK} {c : LockV} {s s2 : Int} {lx : Lit}
theorem putK.start (h1 : w0.heap[b]? = some (.map es clock)) (h2 : Blk w0 g 120 [.map (some b), .int .u64 s]) : putK w0 g b es clock p c s s2 0 w0.drew :=
  ⟨Touched.of_below (Drawn.all (Drawn.one w0)), rfl, h1, h2⟩
theorem putK.entry (h : putK w0 g b es clock p c s s2 0 w) (hgb : g ≠ b) : putK w0 g b es clock p c s s2 1 (withBlk w b (.map (es.push { key := ptA p, val := lockA noLock, born := clock }) (clock + 1))) := by
  obtain ⟨h1, h2, h3, h4⟩ := h
  exact ⟨h1.grown (withBlk_grown _ _ _) (.inl (by simp)), by rw [withBlk_size, h2], withBlk_heap h3, h4.grown (withBlk_grown _ _ _) (by simpa using hgb)⟩
theorem putK.fill (h : putK w0 g b es clock p c s s2 1 w) (hgb : g ≠ b) : putK w0 g b es clock p c s s2 2 (withBlk w b (.map ((es.push { key := ptA p, val := lockA noLock, born := clock }).modify es.size fun e => { e with val := lockA c }) (clock + 1))) := by
  obtain ⟨h1, h2, h3, h4⟩ := h
  exact ⟨h1.grown (withBlk_grown _ _ _) (.inl (by simp)), by rw [withBlk_size, h2], withBlk_heap h3, h4.grown (withBlk_grown _ _ _) (by simpa using hgb)⟩
theorem putK.sum (h : putK w0 g b es clock p c s s2 2 w) (hgb : g ≠ b) : putK w0 g b es clock p c s s2 3 (w.setCell ⟨g, 1, none⟩ (.int .u64 s2)) := by
  obtain ⟨h1, h2, h3, h4⟩ := h
  exact ⟨h1.grown (grown_set w g 1 _) (.inl (by simp)), by simpa using h2, ((grown_set w g 1 (.int .u64 s2)).block b (Array.getElem?_eq_some_iff.1 h3).1 (by simpa using fun e => hgb e.symm)).trans h3, h4.set_ 1 (.int .u64 s2)⟩
theorem putK.run0 (h : putK w0 g b es clock p c s s2 0 w) (hm : MapOK Try.prog 52 es clock) (hx : keyOf Try.prog 52 (ptA p) = some lx) (hno : ∀ q ∈ kvs es, q.1 ≠ ptA p) :
    (Instr.mapEntry 118 (.map (some b)) (ptA p)).run Try.prog w = .ok (.tuple #[lockA noLock, goInt clock]) (withBlk w b (.map (es.push { key := ptA p, val := lockA noLock, born := clock }) (clock + 1))) :=
  run_mapEntry_no kl_point Try.underlying118 h.2.2.1 hm hx hno zeroV_lock
theorem putK.run1 (h : putK w0 g b es clock p c s s2 1 w) (hm : MapOK Try.prog 52 es clock) (hx : keyOf Try.prog 52 (ptA p) = some lx) (hno : ∀ q ∈ kvs es, q.1 ≠ ptA p) :
    (Instr.entryStore 118 (.map (some b)) (.int .i64 clock) (lockA c)).run Try.prog w = .ok () (withBlk w b (.map ((es.push { key := ptA p, val := lockA noLock, born := clock }).modify es.size fun e => { e with val := lockA c }) (clock + 1))) :=
  run_entryStore Try.underlying118 h.2.2.1 (hm.push hx hno _) (j := es.size) (en := { key := ptA p, val := lockA noLock, born := clock }) (by simp) (lockA c)
theorem putK.done {L : LocksL} (h : putK w0 g b es clock p c s s2 3 w) (hgb : g ≠ b) (hm : MapOK Try.prog 52 es clock) (hx : keyOf Try.prog 52 (ptA p) = some lx) (hno : ∀ q ∈ kvs es, q.1 ≠ ptA p) (hL : kvs es = encL L) (hLO : LKOK (L ++ [(p, c)])) :
    LocksAt w g b (L ++ [(p, c)]) s2 := by
  obtain ⟨h1, h2, h3, h4⟩ := h
  refine ⟨h4, ⟨_, _, h3, (hm.push hx hno _).modify _ _, ?_⟩, hLO, hgb⟩
  rw [kvs_modify (en := { key := ptA p, val := lockA noLock, born := clock }) (by simp), kvs_push, hL]
  have : es.size = (encL L).length := by rw [← hL, kvs_length]
  rw [this]
  simp [encL]
end


set_option maxRecDepth 100000 in
set_option maxHeartbeats 4000000 in
theorem kput_any (g b : Nat) (L : LocksL) (s : Int) (p : PtK) (id : List UInt8) (c : CoinV) (w : World) (h : LocksAt w g b L s) (hp : PtOK p) (hi : id.length = 32) (hc : CoinOK c) (hs0 : 0 ≤ s) (hs1 : s ≤ 4611686018427387904) :
    Calls Try.prog 19 #[.pointer (some ⟨g, 0, none⟩), ptA p, .agg (id.map B).toArray, coinA c] w fun e w' => e = .returned (.int .i64 (putQ L s p c)) ∧ Touched [g, b] w w' ∧
      (putQ L s p c = 0 → LocksAt w' g b (L ++ [(p, (c, id))]) (addE s c.2).1) ∧ (putQ L s p c ≠ 0 → LocksAt w' g b L s) := by
  obtain ⟨d, hd, hde, -⟩ := h.look hp
  obtain ⟨ok, hok⟩ : ∃ ok, ok = (lookL L p).isSome := ⟨_, rfl⟩
  have hlk : ∀ w', LocksAt w' g b L s → (Instr.lookup 118 (.map (some b)) (ptA p) true).run Try.prog w' = .ok (.tuple #[lockA d, .bool ok]) w' := by
    intro w' h'
    obtain ⟨c', _, e, h2⟩ := h'.look hp
    rw [hde, ← e, hok]; exact h2
  have HLK := Lib.hid hlk
  have HC := Lib.hid h
  have HP := Lib.hid hp
  obtain ⟨lk, hlkv⟩ : ∃ q : LockV, q = (c, id) := ⟨_, rfl⟩
  have hlo : LockOK lk := by rw [hlkv]; exact ⟨hc, hi⟩
  have HCO := Lib.hid hlo
  have HX := Lib.hid (ptV_length hp.1)
  have HY := Lib.hid (coinV_length hc)
  have HIL := Lib.hid (show (id.map B).length = 32 by rw [List.length_map, hi])
  have HLL := Lib.hid (lockV_length hlo); have HL1 := Lib.hid (lockV_one lk)
  have HBL := Lib.hid (show Try.prog.built 122 [(0, .agg (coinV c).toArray), (1, .agg (id.map B).toArray)] = some (lockV lk).toArray by have := built_lock hlo; rw [hlkv] at this ⊢; exact this)
  have HDL := Lib.hid (lockV_length hd)
  have HD1 := Lib.hid (lockV_one d)
  have HOK := Lib.hid hok
  have HPI := Lib.hid (ptV_ix hp.1)
  have HCI := Lib.hid (show (lockV lk)[32]? = some (.int .u64 c.2) by
    have h1 : (coinV c)[32]? = some (.int .u64 c.2) := by unfold coinV; rw [List.getElem?_append_right (by simp [hc.1])]; simp [hc.1]
    have := lock_coin (x := lk) (j := 32) (by rw [hlkv]; exact h1)
    simpa using this)
  have hpw := bounds_i64 hp.2
  have hc0 := hc.2.1
  have hc1 := hc.2.2
  obtain ⟨r, hr⟩ : ∃ r, r = putQ L s p c := ⟨_, rfl⟩
  rw [← hr]
  have HR := Lib.hid hr
  rw [← hlkv]
  clear hok hde hc hp hlk hd hr hi hlo hlkv
  obtain ⟨xs, hxs⟩ : ∃ xs, xs = ptV p := ⟨_, rfl⟩
  obtain ⟨ks, hks⟩ : ∃ ks, ks = coinV c := ⟨_, rfl⟩
  obtain ⟨is, his⟩ : ∃ is, is = id.map B := ⟨_, rfl⟩
  obtain ⟨ys, hys⟩ : ∃ ys, ys = lockV lk := ⟨_, rfl⟩
  obtain ⟨cs, hcs⟩ : ∃ cs, cs = lockV d := ⟨_, rfl⟩
  rw [lockA, ← hcs] at HLK
  rw [← hcs] at HDL HD1
  rw [ptA, ← hxs, coinA, ← hks, ← his]
  rw [ptA, ← hxs] at HLK
  rw [← hxs] at HX HPI
  rw [← hks] at HY
  rw [← his] at HIL
  rw [← hys] at HLL HL1 HCI
  rw [← hks, ← his, ← hys] at HBL
  have HXE := Lib.hid hxs
  have HYE := Lib.hid hys
  clear hxs hcs hys hks his
  obtain ⟨z, hz⟩ : ∃ z, z = w.heap.size := ⟨_, rfl⟩
  have hg : g < z := by rw [hz]; exact h.ltg
  have hb : b < z := by rw [hz]; exact h.ltb
  have HZ := Lib.hid hz
  have hal := addE_bd s c.2 hs0 hc0
  have ha := fun w => add_any s c.2 w hs0 hc0
  obtain ⟨ae, hae⟩ : ∃ ae, ae = addE s c.2 := ⟨_, rfl⟩
  rw [← hae] at hal ha ⊢
  have HAE := Lib.hid hae
  have HA := Lib.hid ha
  obtain ⟨pi, hpi⟩ : ∃ pi, pi = p.2 := ⟨_, rfl⟩
  obtain ⟨ci, hci⟩ : ∃ ci, ci = c.2 := ⟨_, rfl⟩
  rw [← hpi] at HPI hpw
  rw [← hci] at HCI hc0 hc1 HA
  have HPE := Lib.hid hpi
  have HCE := Lib.hid hci
  obtain ⟨s2, ec⟩ := ae
  simp only at HA hal
  clear h hz ha hae hpi hci
  go_enter Try.func19, Try.ntmps19
  go_wp2_with (first | (with_reducible refine wpl_box (o := ⟨some 5, _, _, _, _, _⟩) rfl rfl rfl ?_))
  intro w1 hb1 hbw1 hsz1
  rw [← HZ.out] at hb1 hbw1 hsz1 ⊢
  go_wp2_with (first | (with_reducible refine wpl_box (o := ⟨some 6, _, _, _, _, _⟩) rfl rfl rfl ?_))
  intro w2 hb2 hbw2 hsz2
  have HB1 := Lib.hid (hb1.below hbw2 (by omega))
  have HBW := Lib.hid (hbw1.trans (hbw2.mono (by omega)))
  go_wp2_with (first | (with_reducible refine wpl_box (o := ⟨some 7, _, _, _, _, _⟩) rfl rfl rfl ?_))
  intro w3 hb3 hbw3 hsz3
  have HB1' := Lib.hid (HB1.out.below hbw3 (by omega))
  have HB2 := Lib.hid (hb2.below hbw3 (by omega))
  have HB3 := Lib.hid hb3
  have HBW3 := Lib.hid (HBW.out.trans (hbw3.mono (by omega)))
  have HS3 := Lib.hid (show w3.heap.size = z + 3 by omega)
  have HC3 := Lib.hid (HC.out.below HBW3.out hg hb)
  clear hb1 hb2 hb3 hbw1 hbw2 hbw3 hsz1 hsz2 hsz3 HB1 HBW HC
  generalize hz1 : z + 1 = z1 at *
  generalize hz2 : z1 + 1 = z2 at *
  have HZ1 := Lib.hid (show z1 = z + 1 ∧ z2 = z + 2 by omega)
  clear hz1 hz2
  go_wp2_with (first | (with_reducible refine wpl_loadb (o := ⟨some 14, _, _, _, _, _⟩) rfl rfl row_coin HB3.out rfl HY.out ?_) | (with_reducible refine wpl_loadb (o := ⟨some 15, _, _, _, _, _⟩) rfl rfl row_idk HB2.out rfl HIL.out ?_) | (refine wpl_build (o := ⟨some 16, _, _, _, _, _⟩) rfl rfl HBL.out ?_) | (with_reducible refine wpl_alloc (o := ⟨some 9, _, _, _, _, _⟩) rfl rfl zero_lock ?_))
  intro w4 hb4 hbw4 hsz4
  have HB4 := Lib.hid hb4
  have HP4 := Lib.hid (HB1'.out.call hbw4)
  have HC4 := Lib.hid (HC3.out.call hbw4)
  have HBW4 := Lib.hid (HBW3.out.trans (hbw4.mono (by have := HS3.out; omega)))
  have HS4 := Lib.hid (show w4.heap.size = z + 4 by have := HS3.out; omega)
  clear hb4 hbw4 hsz4 HB1' HB2 HB3 HC3 HBW3
  generalize hz3 : w3.heap.size = z3 at *
  have HZ3 := Lib.hid (show z3 = z + 3 from HS3.out)
  clear hz3 HS3
  go_wp2_with (first | (with_reducible refine wpl_storeb (o := ⟨none, .store _ _ _, _, _, _, _⟩) rfl rfl row_lock HB4.out rfl rfl (lockV_length noLock_ok) HLL.out HL1.out ?_))
  intro w5 hb5 hg5 hs5
  have HX5 := Lib.hid hb5
  have HP5 := Lib.hid (HP4.out.grown hg5 (by have := HZ3.out; simp; omega))
  have HC5 := Lib.hid (show LocksAt w5 g b L s from by
    obtain ⟨q1, ⟨e1, c1, q2, q3, q4⟩, q5, q6⟩ := HC4.out
    have := HZ3.out
    exact ⟨q1.grown hg5 (by simp; omega), ⟨e1, c1, (hg5.block b (Array.getElem?_eq_some_iff.1 q2).1 (by simp; omega)).trans q2, q3, q4⟩, q5, q6⟩)
  have HL5 := Lib.hid (HBW4.out.grown hg5 (by have := HS4.out; omega) (fun k hk => by cases hk; have := HZ3.out; omega))
  have HS5 := Lib.hid (show w5.heap.size = z + 4 by rw [hs5]; exact HS4.out)
  have HT5 := Lib.hid (Touched.of_below (l := [g, b]) (show Below w.heap.size w w5 by rw [← HZ.out]; exact HL5.out))
  clear hb5 hg5 hs5 HB4 HP4 HC4 HBW4 HS4
  have c1 := HP5.out.at_ HPI.out
  have c2 := HX5.out.at_ HCI.out
  by_cases h1 : pi < 0
  · have e : r = 5 := by rw [HR.out, putQ, if_pos (.inl (by rw [← HPE.out]; exact h1))]
    have HE := Lib.hid e; clear e
    go_wp2_with fail
    go_ret
    exact ⟨ret_int HE.out.symm, HT5.out, fun h => by have := HE.out; omega, fun _ => HC5.out⟩
  by_cases h2 : 16 ≤ pi
  · have e : r = 5 := by rw [HR.out, putQ, if_pos (.inr (.inl (by rw [← HPE.out]; exact h2)))]
    have HE := Lib.hid e; clear e
    go_wp2_with fail
    go_ret
    exact ⟨ret_int HE.out.symm, HT5.out, fun h => by have := HE.out; omega, fun _ => HC5.out⟩
  by_cases h3 : ci = 0
  · have e : r = 5 := by rw [HR.out, putQ, if_pos (.inr (.inr (.inl (by rw [← HCE.out]; exact h3))))]
    have HE := Lib.hid e; clear e
    have hb3 : (ci == 0) = true := by simpa using h3
    clear h3
    go_wp2_with fail
    go_ret
    exact ⟨ret_int HE.out.symm, HT5.out, fun h => by have := HE.out; omega, fun _ => HC5.out⟩
  have hb3 : (ci == 0) = false := beq_eq_false_iff_ne.2 h3
  by_cases h4 : 4611686018427387904 < ci
  · have e : r = 5 := by rw [HR.out, putQ, if_pos (.inr (.inr (.inr (by rw [← HCE.out]; exact h4))))]
    have HE := Lib.hid e; clear e
    clear h3
    go_wp2_with fail
    go_ret
    exact ⟨ret_int HE.out.symm, HT5.out, fun h => by have := HE.out; omega, fun _ => HC5.out⟩
  have HN := Lib.hid (show ¬ (p.2 < 0 ∨ 16 ≤ p.2 ∨ c.2 = 0 ∨ 4611686018427387904 < c.2) by rw [← HPE.out, ← HCE.out]; omega)
  clear h3
  go_wp2_with fail
  repeat' (first | (with_reducible refine wp_phase (id := 4) (newC w5 122 (lockV noLock) cs) [9, 10] [(0,2),(0,2),(0,2),(0,2),(0,2),(0,2),(0,2),(0,2),(0,2),(0,0),(1,1),(0,2)] (by kernel_rfl) (by kernel_rfl) ?_ ?_) | go_values | go_skip | go_guarded | go_step | go_upon | go_back)
  · exact newC.start
  have HF := Lib.hid (show ∀ k w', newC w5 122 (lockV noLock) cs k w' → w'.cell? ⟨g, 0, none⟩ = some (.map (some b)) from fun k w' h => (HC5.out.call (newC.low k w' h)).blk.at_ rfl)
  have HL := Lib.hid (show ∀ k w', newC w5 122 (lockV noLock) cs k w' → (Instr.lookup 118 (.map (some b)) (.agg xs.toArray) true).run Try.prog w' = .ok (.tuple #[.agg cs.toArray, .bool ok]) w' from fun k w' h => HLK.out w' (HC5.out.call (newC.low k w' h)))
  have HX1 := Lib.hid (show ∀ k w', newC w5 122 (lockV noLock) cs k w' → Blk w' z 52 xs from fun k w' h => HP5.out.call (newC.low k w' h))
  clear c1 c2
  refine ph_value rfl (by first | rfl | go_simp) (fun k_ _ _ w_ hC_ => by first | (go_simp; rfl) | (go_simp; done) | rfl) (fun K hK => ?_)
  go_simp
  refine hK _ ?_
  clear hK K
  refine ph_value rfl (by first | rfl | go_simp) (fun k_ _ _ w_ hC_ => by first | (go_simp; rfl) | (go_simp; done) | rfl) (fun K hK => ?_)
  go_simp
  refine hK _ ?_
  clear hK K
  refine ph_value rfl (by first | rfl | go_simp) (fun k_ _ _ w_ hC_ => by first | (go_simp; rfl) | (go_simp; done) | rfl) (fun K hK => ?_)
  go_simp
  refine hK _ ?_
  clear hK K
  refine ph_value rfl (by first | rfl | go_simp) (fun k_ _ _ w_ hC_ => by have c1 := HF.out _ _ hC_; first | (go_simp; rfl) | (go_simp; done) | rfl) (fun K hK => ?_)
  go_simp
  refine hK _ ?_
  clear hK K
  refine ph_load rfl rfl rfl row_point (fun k _ _ w h => HX1.out k w h) rfl HX.out ?_
  (intro K hK; go_simp; refine hK _ ?_; clear hK K)
  refine ph_value rfl (by first | rfl | go_simp) (fun k_ _ _ w_ hC_ => by have c1 := HL.out _ _ hC_; first | (go_simp; rfl) | (go_simp; done) | rfl) (fun K hK => ?_)
  go_simp
  refine hK _ ?_
  clear hK K
  refine ph_value rfl (by first | rfl | go_simp) (fun k_ _ _ w_ hC_ => by first | (go_simp; rfl) | (go_simp; done) | rfl) (fun K hK => ?_)
  go_simp
  refine hK _ ?_
  clear hK K
  refine ph_value rfl (by first | rfl | go_simp) (fun k_ _ _ w_ hC_ => by first | (go_simp; rfl) | (go_simp; done) | rfl) (fun K hK => ?_)
  go_simp
  refine hK _ ?_
  clear hK K
  refine ph_value rfl (by first | rfl | go_simp) (fun k_ _ _ w_ hC_ => by first | (go_simp; rfl) | (go_simp; done) | rfl) (fun K hK => ?_)
  go_simp
  refine hK _ ?_
  clear hK K
  refine ph_alloc 0 rfl rfl rfl rfl rfl zero_lock newC.lay ?_
  (intro K hK; go_simp; refine hK _ ?_; clear hK K)
  refine ph_store 1 rfl rfl rfl rfl rfl row_lock rfl rfl HDL.out HD1.out (newC.put (lockV_length noLock_ok)) ?_
  (intro K hK; go_simp; refine hK _ ?_; clear hK K)
  refine ph_value rfl (by first | rfl | go_simp) (fun k_ _ _ w_ hC_ => by first | (go_simp; rfl) | (go_simp; done) | rfl) (fun K hK => ?_)
  go_simp
  refine hK _ ?_
  clear hK K
  refine ph_nil ?_
  intro w6 ⟨hl6, hs6, hx6⟩
  have HX6 := Lib.hid (HX5.out.call hl6)
  have HP6 := Lib.hid (HP5.out.call hl6)
  have HC6 := Lib.hid (HC5.out.call hl6)
  have HT6 := Lib.hid (HT5.out.step hl6)
  clear hl6 hs6 hx6 HF HL HX1 HX5 HP5 HC5 HT5 HLK
  generalize w5.heap.size = xa at *
  cases ok
  case true =>
    have e : r = 24 := by rw [HR.out, putQ, if_neg HN.out, ← HOK.out, if_pos rfl]
    have HE := Lib.hid e; clear e
    go_wp2_with fail
    go_ret
    exact ⟨ret_int HE.out.symm, HT6.out, fun h => by have := HE.out; omega, fun _ => HC6.out⟩
  case false =>
    have c3 : w6.cell? ⟨g, 0, none⟩ = some (.map (some b)) := HC6.out.blk.at_ rfl
    obtain ⟨es, clock, hm1, hm2, hm3⟩ := HC6.out.map
    have ee : es.size = L.length := by rw [← kvs_length, hm3]; simp [encL]
    have hl := fun ty => run_len_map w6 118 ty b es clock Try.underlying118 hm1
    simp only [ee] at hl
    obtain ⟨n, hn⟩ : ∃ n, n = L.length := ⟨_, rfl⟩
    rw [← hn] at hl
    have HNL := Lib.hid hn
    clear hm1 hm2 hm3 ee hn
    by_cases h5 : 64 ≤ n
    · have e : r = 18 := by rw [HR.out, putQ, if_neg HN.out, ← HOK.out, if_neg (by simp), ← HNL.out, if_pos h5]
      have HE := Lib.hid e; clear e
      go_wp2_with fail
      go_ret
      exact ⟨ret_int HE.out.symm, HT6.out, fun h => by have := HE.out; omega, fun _ => HC6.out⟩
    have e : r = ec := by rw [HR.out, putQ, if_neg HN.out, ← HOK.out, if_neg (by simp), ← HNL.out, if_neg h5, ← HAE.out]
    have HE := Lib.hid e; clear e
    go_wp2_with fail
    clear hl c3
    repeat' (first | (with_reducible refine wp_phase (id := 9) (fun (_ : Nat) w' => Below w6.heap.size w6 w') [] [(0,0),(0,0),(0,0),(0,0),(0,0),(0,0),(0,0),(0,0),(0,0),(0,0),(0,0),(0,0),(0,0)] (by kernel_rfl) (by kernel_rfl) ?_ ?_) | go_values | go_skip | go_guarded | go_step | go_upon | go_back)
    · exact Drawn.all (Drawn.one w6)
    have HF1 := Lib.hid (show ∀ w', Below w6.heap.size w6 w' → w'.cell? ⟨g, 1, none⟩ = some (.int .u64 s) from fun w' h => (HC6.out.call h).blk.at_ rfl)
    have HF2 := Lib.hid (show ∀ w', Below w6.heap.size w6 w' → w'.cell? ⟨z3, 32, none⟩ = some (.int .u64 ci) from fun w' h => (HX6.out.call h).at_ HCI.out)
    refine ph_value rfl (by first | rfl | go_simp) (fun k_ _ _ w_ hC_ => by first | (go_simp; rfl) | (go_simp; done) | rfl) (fun K hK => ?_)
    go_simp
    refine hK _ ?_
    clear hK K
    refine ph_value rfl (by first | rfl | go_simp) (fun k_ _ _ w_ hC_ => by first | (go_simp; rfl) | (go_simp; done) | rfl) (fun K hK => ?_)
    go_simp
    refine hK _ ?_
    clear hK K
    refine ph_value rfl (by first | rfl | go_simp) (fun k_ _ _ w_ hC_ => by first | (go_simp; rfl) | (go_simp; done) | rfl) (fun K hK => ?_)
    go_simp
    refine hK _ ?_
    clear hK K
    refine ph_value rfl (by first | rfl | go_simp) (fun k_ _ _ w_ hC_ => by have c1 := HF1.out _ hC_; first | (go_simp; rfl) | (go_simp; done) | rfl) (fun K hK => ?_)
    go_simp
    refine hK _ ?_
    clear hK K
    refine ph_value rfl (by first | rfl | go_simp) (fun k_ _ _ w_ hC_ => by first | (go_simp; rfl) | (go_simp; done) | rfl) (fun K hK => ?_)
    go_simp
    refine hK _ ?_
    clear hK K
    refine ph_value rfl (by first | rfl | go_simp) (fun k_ _ _ w_ hC_ => by first | (go_simp; rfl) | (go_simp; done) | rfl) (fun K hK => ?_)
    go_simp
    refine hK _ ?_
    clear hK K
    refine ph_value rfl (by first | rfl | go_simp) (fun k_ _ _ w_ hC_ => by have c1 := HF2.out _ hC_; first | (go_simp; rfl) | (go_simp; done) | rfl) (fun K hK => ?_)
    go_simp
    refine hK _ ?_
    clear hK K
    refine ph_call rfl (by first | rfl | go_simp) (fun w => by first | rfl | (go_simp; rfl) | go_simp) (fun k _ _ w h => (HA.out w).mono fun e w' ⟨he, hb⟩ => ⟨he, below_step h h.size hb⟩) ?_
    (intro K hK; go_simp; refine hK _ ?_; clear hK K)
    refine ph_value rfl (by first | rfl | go_simp) (fun k_ _ _ w_ hC_ => by first | (go_simp; rfl) | (go_simp; done) | rfl) (fun K hK => ?_)
    go_simp
    refine hK _ ?_
    clear hK K
    refine ph_value rfl (by first | rfl | go_simp) (fun k_ _ _ w_ hC_ => by first | (go_simp; rfl) | (go_simp; done) | rfl) (fun K hK => ?_)
    go_simp
    refine hK _ ?_
    clear hK K
    refine ph_value rfl (by first | rfl | go_simp) (fun k_ _ _ w_ hC_ => by first | (go_simp; rfl) | (go_simp; done) | rfl) (fun K hK => ?_)
    go_simp
    refine hK _ ?_
    clear hK K
    refine ph_value rfl (by first | rfl | go_simp) (fun k_ _ _ w_ hC_ => by first | (go_simp; rfl) | (go_simp; done) | rfl) (fun K hK => ?_)
    go_simp
    refine hK _ ?_
    clear hK K
    refine ph_value rfl (by first | rfl | go_simp) (fun k_ _ _ w_ hC_ => by first | (go_simp; rfl) | (go_simp; done) | rfl) (fun K hK => ?_)
    go_simp
    refine hK _ ?_
    clear hK K
    refine ph_nil ?_
    intro w7 hl7
    have HX7 := Lib.hid (HX6.out.call hl7)
    have HP7 := Lib.hid (HP6.out.call hl7)
    have HC7 := Lib.hid (HC6.out.call hl7)
    have HT7 := Lib.hid (HT6.out.step hl7)
    clear HF1 HF2 hl7 HX6 HP6 HC6 HT6
    by_cases h6 : ec = 0
    · have hb6 : (ec != 0) = false := bne_eq_false_iff_eq.2 h6
      have hb7 : (ec == 0) = true := by simpa using h6
      have H6 := Lib.hid h6
      clear h6
      obtain ⟨es, clock, hm1, hm2, hm3⟩ := HC7.out.map
      have HM1 := Lib.hid hm1; have HM2 := Lib.hid hm2; have HM3 := Lib.hid hm3
      clear hm1 hm2 hm3
      obtain ⟨lx, hx⟩ := keyOf_pt p HP.out
      have hno : ∀ q ∈ kvs es, q.1 ≠ ptA p := by
        intro q hq e
        rw [HM3.out] at hq
        obtain ⟨en, hen, rfl⟩ := List.mem_map.1 hq
        exact lookL_none HOK.out.symm en hen (ptA_inj (HC7.out.ok.1 en hen).1.1 HP.out.1 e)
      have hlo : LKOK (L ++ [(p, lk)]) := by
        refine ⟨fun e he => ?_, ?_⟩
        · rcases List.mem_append.1 he with he | he
          · exact HC7.out.ok.1 e he
          · have : e = (p, lk) := by simpa using he
            subst this; exact ⟨HP.out, HCO.out⟩
        · rw [List.map_append, List.nodup_append]
          refine ⟨HC7.out.ok.2, by simp, fun a ha b' hb' e => ?_⟩
          obtain ⟨en, hen, rfl⟩ := List.mem_map.1 ha
          have hb2 : b' = p := by simpa using hb'
          exact lookL_none HOK.out.symm en hen (e.trans hb2)
      have HXK := Lib.hid hx; have HNO := Lib.hid hno; have HLO := Lib.hid hlo
      clear hx hno hlo
      have HGB := Lib.hid HC7.out.ne
      go_wp2_with fail
      repeat' (first | (with_reducible refine wp_phase (id := 11) (putK w7 g b es clock p lk s s2) [8, 10, 13] [(0,3),(0,3),(0,3),(0,3),(0,3),(0,3),(0,3),(0,3),(0,0),(0,3),(1,1),(0,3),(0,3),(2,2)] (by kernel_rfl) (by kernel_rfl) ?_ ?_) | go_values | go_skip | go_guarded | go_step | go_upon | go_back)
      · exact putK.start HM1.out HC7.out.blk
      have HF := Lib.hid (show ∀ k w', putK w7 g b es clock p lk s s2 k w' → w'.cell? ⟨g, 0, none⟩ = some (.map (some b)) from fun k w' h => h.2.2.2.at_ rfl)
      have HX1 := Lib.hid (show ∀ k w', putK w7 g b es clock p lk s s2 k w' → Blk w' z 52 xs from fun k w' h => (h.1.block z HP7.out.lt (by simp; omega)).trans HP7.out)
      have HX2 := Lib.hid (show ∀ k w', putK w7 g b es clock p lk s s2 k w' → Blk w' z3 122 ys from fun k w' h => (h.1.block z3 HX7.out.lt (by have := HZ3.out; simp; omega)).trans HX7.out)
      have HR0 := Lib.hid (show ∀ w', putK w7 g b es clock p lk s s2 0 w' → (Instr.mapEntry 118 (.map (some b)) (.agg xs.toArray)).run Try.prog w' = .ok (.tuple #[lockA noLock, .int .i64 clock]) (withBlk w' b (.map (es.push { key := ptA p, val := lockA noLock, born := clock }) (clock + 1))) from fun w' h => by
        have := h.run0 HM2.out HXK.out HNO.out
        rw [HXE.out]; exact this)
      have HR1 := Lib.hid (show ∀ w', putK w7 g b es clock p lk s s2 1 w' → (Instr.entryStore 118 (.map (some b)) (.int .i64 clock) (.agg ys.toArray)).run Try.prog w' = .ok () (withBlk w' b (.map ((es.push { key := ptA p, val := lockA noLock, born := clock }).modify es.size fun e => { e with val := lockA lk }) (clock + 1))) from fun w' h => by
        have := h.run1 HM2.out HXK.out HNO.out
        rw [HYE.out]; exact this)
      refine ph_value rfl (by first | rfl | go_simp) (fun k_ _ _ w_ hC_ => by first | (go_simp; rfl) | (go_simp; done) | rfl) (fun K hK => ?_)
      go_simp
      refine hK _ ?_
      clear hK K
      refine ph_value rfl (by first | rfl | go_simp) (fun k_ _ _ w_ hC_ => by first | (go_simp; rfl) | (go_simp; done) | rfl) (fun K hK => ?_)
      go_simp
      refine hK _ ?_
      clear hK K
      refine ph_value rfl (by first | rfl | go_simp) (fun k_ _ _ w_ hC_ => by first | (go_simp; rfl) | (go_simp; done) | rfl) (fun K hK => ?_)
      go_simp
      refine hK _ ?_
      clear hK K
      refine ph_value rfl (by first | rfl | go_simp) (fun k_ _ _ w_ hC_ => by have c1 := HF.out _ _ hC_; first | (go_simp; rfl) | (go_simp; done) | rfl) (fun K hK => ?_)
      go_simp
      refine hK _ ?_
      clear hK K
      refine ph_load rfl rfl rfl row_point (fun k _ _ w h => HX1.out k w h) rfl HX.out ?_
      (intro K hK; go_simp; refine hK _ ?_; clear hK K)
      refine ph_value rfl (by first | rfl | go_simp) (fun k_ _ _ w_ hC_ => by first | (go_simp; rfl) | (go_simp; done) | rfl) (fun K hK => ?_)
      go_simp
      refine hK _ ?_
      clear hK K
      refine ph_load rfl rfl rfl row_lock (fun k _ _ w h => HX2.out k w h) rfl HLL.out ?_
      (intro K hK; go_simp; refine hK _ ?_; clear hK K)
      refine ph_value rfl (by first | rfl | go_simp) (fun k_ _ _ w_ hC_ => by first | (go_simp; rfl) | (go_simp; done) | rfl) (fun K hK => ?_)
      go_simp
      refine hK _ ?_
      clear hK K
      refine ph_run 0 rfl rfl rfl (by first | rfl | go_simp) (fun w' hC => ⟨_, by (have hrun := HR0.out w' hC); first | (go_simp; rfl) | (go_simp; exact ⟨rfl, rfl⟩) | go_simp, hC.entry HGB.out⟩) ?_
      (intro K hK; go_simp; refine hK _ ?_; clear hK K)
      refine ph_value rfl (by first | rfl | go_simp) (fun k_ _ _ w_ hC_ => by first | (go_simp; rfl) | (go_simp; done) | rfl) (fun K hK => ?_)
      go_simp
      refine hK _ ?_
      clear hK K
      refine ph_runs 1 rfl rfl rfl (by first | rfl | go_simp) (fun w' hC => ⟨_, by (have hrun := HR1.out w' hC); first | (go_simp; rfl) | (go_simp; exact ⟨rfl, rfl⟩) | go_simp, hC.fill HGB.out⟩) ?_
      (intro K hK; go_simp; refine hK _ ?_; clear hK K)
      refine ph_value rfl (by first | rfl | go_simp) (fun k_ _ _ w_ hC_ => by first | (go_simp; rfl) | (go_simp; done) | rfl) (fun K hK => ?_)
      go_simp
      refine hK _ ?_
      clear hK K
      refine ph_value rfl (by first | rfl | go_simp) (fun k_ _ _ w_ hC_ => by first | (go_simp; rfl) | (go_simp; done) | rfl) (fun K hK => ?_)
      go_simp
      refine hK _ ?_
      clear hK K
      refine ph_runs 2 rfl rfl rfl (by first | rfl | go_simp) (fun w' hC => ⟨_, by (have hcl := hC.2.2.2.at_ (i := 1) rfl); (have hfz := hC.2.2.2.frozen 1); first | (go_simp; rfl) | (go_simp; exact ⟨rfl, rfl⟩) | go_simp, hC.sum HGB.out⟩) ?_
      (intro K hK; go_simp; refine hK _ ?_; clear hK K)
      refine ph_nil ?_
      intro w8 hC8
      have HC8 := Lib.hid hC8
      clear hC8
      go_wp2_with fail
      go_ret
      refine ⟨ret_int HE.out.symm, HT7.out.trans HC8.out.1, fun _ => HC8.out.done HGB.out HM2.out HXK.out HNO.out HM3.out HLO.out, fun h => absurd (HE.out.trans H6.out) h⟩
    · have hb6 : (ec != 0) = true := bne_iff_ne.2 h6
      have hb7 : (ec == 0) = false := beq_eq_false_iff_ne.2 h6
      have H6 := Lib.hid h6
      clear h6
      go_wp2_with fail
      go_ret
      exact ⟨ret_int HE.out.symm, HT7.out, fun h => absurd (HE.out.symm.trans h) H6.out, fun _ => HC7.out⟩
end Go.Proofs.Ytolbbhbfbpiljaa

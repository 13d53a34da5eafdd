/- The contract of coins.Put. -/
import Derived.Test.YtolbbhbfbpiljaaCoinB
import Derived.Test.YtolbbhbfbpiljaaSumA
import Derived.OpenShut
namespace Go.Proofs.Ytolbbhbfbpiljaa
open Go.RowKit
set_option linter.unusedVariables false

def putR (L : CoinsL) (s : Int) (p : PtK) (c : CoinV) : Int :=
  if p.2 < 0 ∨ 16 ≤ p.2 ∨ c.2 = 0 ∨ 4611686018427387904 < c.2 then 5 else if (lookC L p).isSome then 24 else if 256 ≤ L.length then 18 else (addE s c.2).2

theorem addE_bd (a b : Int) (ha : 0 ≤ a) (hb : 0 ≤ b) : 0 ≤ (addE a b).1 ∧ (addE a b).1 ≤ 4611686018427387904 ∧ 0 ≤ (addE a b).2 ∧ (addE a b).2 ≤ 6 ∧ ((addE a b).2 = 0 → (addE a b).1 = a + b) := by
  unfold addE; split <;> simp <;> omega

theorem lookC_none {L : CoinsL} {p : PtK} (h : (lookC L p).isSome = false) : ∀ e ∈ L, e.1 ≠ p := by
  intro e he hk
  unfold lookC at h
  cases hf : L.find? (fun e => e.1 == p) with
  | none => exact List.find?_eq_none.1 hf e he (by simpa using hk)
  | some x => rw [hf] at h; simp at h

/-- The phases of 'm[p], sum = x, s2': the entry laid, filled, the sum written. -/
def putC (w0 : World) (g b : Nat) (es : Array MapEntry) (clock : Nat) (p : PtK) (c : CoinV) (s s2 : Int) (k : Nat) (w : World) : Prop :=
  Touched [g, b] w0 w ∧ w.heap.size = w0.heap.size ∧
  w.heap[b]? = some (if k = 0 then .map es clock else if k = 1 then .map (es.push { key := ptA p, val := coinA noCoin, born := clock }) (clock + 1)
    else .map ((es.push { key := ptA p, val := coinA noCoin, born := clock }).modify es.size fun e => { e with val := coinA c }) (clock + 1)) ∧
  Blk w g 132 [.map (some b), .int .u64 (if k = 3 then s2 else s)]

section
variable {w0 w : World} {g b : Nat} {es : Array MapEntry} {clock : Nat} {p : PtK} {c : CoinV} {s s2 : Int} {lx : Lit}
theorem putC.start (h1 : w0.heap[b]? = some (.map es clock)) (h2 : Blk w0 g 132 [.map (some b), .int .u64 s]) : putC w0 g b es clock p c s s2 0 w0.drew :=
  ⟨Touched.of_below (Drawn.all (Drawn.one w0)), rfl, h1, h2⟩
theorem putC.entry (h : putC w0 g b es clock p c s s2 0 w) (hgb : g ≠ b) : putC w0 g b es clock p c s s2 1 (withBlk w b (.map (es.push { key := ptA p, val := coinA noCoin, born := clock }) (clock + 1))) := by
  obtain ⟨h1, h2, h3, h4⟩ := h
  exact ⟨h1.grown (withBlk_grown _ _ _) (.inl (by simp)), by rw [withBlk_size, h2], withBlk_heap h3, h4.grown (withBlk_grown _ _ _) (by simpa using hgb)⟩
theorem putC.fill (h : putC w0 g b es clock p c s s2 1 w) (hgb : g ≠ b) : putC w0 g b es clock p c s s2 2 (withBlk w b (.map ((es.push { key := ptA p, val := coinA noCoin, born := clock }).modify es.size fun e => { e with val := coinA c }) (clock + 1))) := by
  obtain ⟨h1, h2, h3, h4⟩ := h
  exact ⟨h1.grown (withBlk_grown _ _ _) (.inl (by simp)), by rw [withBlk_size, h2], withBlk_heap h3, h4.grown (withBlk_grown _ _ _) (by simpa using hgb)⟩
theorem putC.sum (h : putC w0 g b es clock p c s s2 2 w) (hgb : g ≠ b) : putC w0 g b es clock p c s s2 3 (w.setCell ⟨g, 1, none⟩ (.int .u64 s2)) := by
  obtain ⟨h1, h2, h3, h4⟩ := h
  exact ⟨h1.grown (grown_set w g 1 _) (.inl (by simp)), by simpa using h2, ((grown_set w g 1 (.int .u64 s2)).block b (Array.getElem?_eq_some_iff.1 h3).1 (by simpa using fun e => hgb e.symm)).trans h3, h4.set_ 1 (.int .u64 s2)⟩
theorem putC.run0 (h : putC w0 g b es clock p c s s2 0 w) (hm : MapOK Try.prog 52 es clock) (hx : keyOf Try.prog 52 (ptA p) = some lx) (hno : ∀ q ∈ kvs es, q.1 ≠ ptA p) :
    (Instr.mapEntry 130 (.map (some b)) (ptA p)).run Try.prog w = .ok (.tuple #[coinA noCoin, goInt clock]) (withBlk w b (.map (es.push { key := ptA p, val := coinA noCoin, born := clock }) (clock + 1))) :=
  run_mapEntry_no kl_point Try.underlying130 h.2.2.1 hm hx hno zeroV_coin
theorem putC.run1 (h : putC w0 g b es clock p c s s2 1 w) (hm : MapOK Try.prog 52 es clock) (hx : keyOf Try.prog 52 (ptA p) = some lx) (hno : ∀ q ∈ kvs es, q.1 ≠ ptA p) :
    (Instr.entryStore 130 (.map (some b)) (.int .i64 clock) (coinA c)).run Try.prog w = .ok () (withBlk w b (.map ((es.push { key := ptA p, val := coinA noCoin, born := clock }).modify es.size fun e => { e with val := coinA c }) (clock + 1))) :=
  run_entryStore Try.underlying130 h.2.2.1 (hm.push hx hno _) (j := es.size) (en := { key := ptA p, val := coinA noCoin, born := clock }) (by simp) (coinA c)
theorem putC.done {L : CoinsL} (h : putC w0 g b es clock p c s s2 3 w) (hgb : g ≠ b) (hm : MapOK Try.prog 52 es clock) (hx : keyOf Try.prog 52 (ptA p) = some lx) (hno : ∀ q ∈ kvs es, q.1 ≠ ptA p) (hL : kvs es = encC L) (hLO : LOK (L ++ [(p, c)])) :
    CoinsAt w g b (L ++ [(p, c)]) s2 := by
  obtain ⟨h1, h2, h3, h4⟩ := h
  refine ⟨h4, ⟨_, _, h3, (hm.push hx hno _).modify _ _, ?_⟩, hLO, hgb⟩
  rw [kvs_modify (en := { key := ptA p, val := coinA noCoin, born := clock }) (by simp), kvs_push, hL]
  have : es.size = (encC L).length := by rw [← hL, kvs_length]
  rw [this]
  simp [encC]
end

set_option maxRecDepth 100000 in
set_option maxHeartbeats 4000000 in
theorem put_any (g b : Nat) (L : CoinsL) (s : Int) (p : PtK) (c : CoinV) (w : World) (h : CoinsAt w g b L s) (hp : PtOK p) (hc : CoinOK c) (hs0 : 0 ≤ s) (hs1 : s ≤ 4611686018427387904) :
    Calls Try.prog 30 #[.pointer (some ⟨g, 0, none⟩), ptA p, coinA c] w fun e w' => e = .returned (.int .i64 (putR L s p c)) ∧ Touched [g, b] w w' ∧
      (putR L s p c = 0 → CoinsAt w' g b (L ++ [(p, c)]) (addE s c.2).1) ∧ (putR L s p c ≠ 0 → CoinsAt w' g b L s) := by
  obtain ⟨d, hd, hde, -⟩ := h.look hp
  obtain ⟨ok, hok⟩ : ∃ ok, ok = (lookC L p).isSome := ⟨_, rfl⟩
  have hlk : ∀ w', CoinsAt w' g b L s → (Instr.lookup 130 (.map (some b)) (ptA p) true).run Try.prog w' = .ok (.tuple #[coinA d, .bool ok]) w' := by
    intro w' h'
    obtain ⟨c', _, e, h2⟩ := h'.look hp
    rw [hde, ← e, hok]; exact h2
  have HLK := Lib.hid hlk
  have HC := Lib.hid h
  have HP := Lib.hid hp; have HCO := Lib.hid hc
  have HX := Lib.hid (ptV_length hp.1)
  have HY := Lib.hid (coinV_length hc)
  have HDL := Lib.hid (coinV_length hd)
  have HD1 := Lib.hid (coinV_one d)
  have HOK := Lib.hid hok
  have HPI := Lib.hid (ptV_ix hp.1)
  have HCI := Lib.hid (show (coinV c)[32]? = some (.int .u64 c.2) by unfold coinV; rw [List.getElem?_append_right (by simp [hc.1])]; simp [hc.1])
  have hpw := bounds_i64 hp.2
  have hc0 := hc.2.1
  have hc1 := hc.2.2
  obtain ⟨r, hr⟩ : ∃ r, r = putR L s p c := ⟨_, rfl⟩
  rw [← hr]
  have HR := Lib.hid hr
  clear hok hde hc hp hlk hd hr
  obtain ⟨xs, hxs⟩ : ∃ xs, xs = ptV p := ⟨_, rfl⟩
  obtain ⟨ys, hys⟩ : ∃ ys, ys = coinV c := ⟨_, rfl⟩
  obtain ⟨cs, hcs⟩ : ∃ cs, cs = coinV d := ⟨_, rfl⟩
  rw [coinA, ← hcs] at HLK
  rw [← hcs] at HDL HD1
  rw [ptA, ← hxs, coinA, ← hys]
  rw [ptA, ← hxs] at HLK
  rw [← hxs] at HX HPI
  rw [← hys] at HY HCI
  have HXE := Lib.hid hxs
  have HYE := Lib.hid hys
  clear hxs hcs hys
  obtain ⟨z, hz⟩ : ∃ z, z = w.heap.size := ⟨_, rfl⟩
  have hg : g < z := by rw [hz]; exact h.ltg
  have hb : b < z := by rw [hz]; exact h.ltb
  have HZ := Lib.hid hz
  have hal := addE_bd s c.2 hs0 hc0
  have ha := fun w => add_any s c.2 w hs0 hc0
  obtain ⟨ae, hae⟩ : ∃ ae, ae = addE s c.2 := ⟨_, rfl⟩
  rw [← hae] at hal ha ⊢
  have HAE := Lib.hid hae
  have HA := Lib.hid ha
  obtain ⟨pi, hpi⟩ : ∃ pi, pi = p.2 := ⟨_, rfl⟩
  obtain ⟨ci, hci⟩ : ∃ ci, ci = c.2 := ⟨_, rfl⟩
  rw [← hpi] at HPI hpw
  rw [← hci] at HCI hc0 hc1 HA
  have HPE := Lib.hid hpi
  have HCE := Lib.hid hci
  obtain ⟨s2, ec⟩ := ae
  simp only at HA hal
  clear h hz ha hae hpi hci
  go_enter Try.func30, Try.ntmps30
  go_wp2_with (first | (with_reducible refine wpl_box (o := ⟨some 4, _, _, _, _, _⟩) rfl rfl rfl ?_))
  intro w1 hb1 hbw1 hsz1
  rw [← HZ.out] at hb1 hbw1 hsz1 ⊢
  go_wp2_with (first | (with_reducible refine wpl_box (o := ⟨some 5, _, _, _, _, _⟩) rfl rfl rfl ?_))
  intro w2 hb2 hbw2 hsz2
  have HB1 := Lib.hid (hb1.below hbw2 (by omega))
  have HB2 := Lib.hid hb2
  have HBW := Lib.hid (hbw1.trans (hbw2.mono (by omega)))
  have HSZ := Lib.hid hsz2
  have HC2 := Lib.hid (HC.out.below HBW.out hg hb)
  clear hb1 hb2 hbw1 hbw2 hsz1 hsz2
  repeat' (first | (with_reducible refine wp_phase (id := 1) (newC w2 54 (coinV noCoin) cs) [9, 10] [(0,2),(0,2),(0,2),(0,2),(0,2),(0,2),(0,2),(0,2),(0,2),(0,0),(1,1),(0,2)] (by kernel_rfl) (by kernel_rfl) ?_ ?_) | go_values | go_skip | go_guarded | go_step | go_upon | go_back)
  · exact newC.start
  have HF := Lib.hid (show ∀ k w', newC w2 54 (coinV noCoin) cs k w' → w'.cell? ⟨g, 0, none⟩ = some (.map (some b)) from fun k w' h => (HC2.out.call (newC.low k w' h)).blk.at_ rfl)
  have HL := Lib.hid (show ∀ k w', newC w2 54 (coinV noCoin) cs k w' → (Instr.lookup 130 (.map (some b)) (.agg xs.toArray) true).run Try.prog w' = .ok (.tuple #[.agg cs.toArray, .bool ok]) w' from fun k w' h => HLK.out w' (HC2.out.call (newC.low k w' h)))
  have HX1 := Lib.hid (show ∀ k w', newC w2 54 (coinV noCoin) cs k w' → Blk w' z 52 xs from fun k w' h => HB1.out.call (newC.low k w' h))
  refine ph_value rfl (by first | rfl | go_simp) (fun k_ _ _ w_ hC_ => by first | (go_simp; rfl) | (go_simp; done) | rfl) (fun K hK => ?_)
  go_simp
  refine hK _ ?_
  clear hK K
  refine ph_value rfl (by first | rfl | go_simp) (fun k_ _ _ w_ hC_ => by first | (go_simp; rfl) | (go_simp; done) | rfl) (fun K hK => ?_)
  go_simp
  refine hK _ ?_
  clear hK K
  refine ph_value rfl (by first | rfl | go_simp) (fun k_ _ _ w_ hC_ => by first | (go_simp; rfl) | (go_simp; done) | rfl) (fun K hK => ?_)
  go_simp
  refine hK _ ?_
  clear hK K
  refine ph_value rfl (by first | rfl | go_simp) (fun k_ _ _ w_ hC_ => by have c1 := HF.out _ _ hC_; first | (go_simp; rfl) | (go_simp; done) | rfl) (fun K hK => ?_)
  go_simp
  refine hK _ ?_
  clear hK K
  refine ph_load rfl rfl rfl row_point (fun k _ _ w h => HX1.out k w h) rfl HX.out ?_
  (intro K hK; go_simp; refine hK _ ?_; clear hK K)
  refine ph_value rfl (by first | rfl | go_simp) (fun k_ _ _ w_ hC_ => by have c1 := HL.out _ _ hC_; first | (go_simp; rfl) | (go_simp; done) | rfl) (fun K hK => ?_)
  go_simp
  refine hK _ ?_
  clear hK K
  refine ph_value rfl (by first | rfl | go_simp) (fun k_ _ _ w_ hC_ => by first | (go_simp; rfl) | (go_simp; done) | rfl) (fun K hK => ?_)
  go_simp
  refine hK _ ?_
  clear hK K
  refine ph_value rfl (by first | rfl | go_simp) (fun k_ _ _ w_ hC_ => by first | (go_simp; rfl) | (go_simp; done) | rfl) (fun K hK => ?_)
  go_simp
  refine hK _ ?_
  clear hK K
  refine ph_value rfl (by first | rfl | go_simp) (fun k_ _ _ w_ hC_ => by first | (go_simp; rfl) | (go_simp; done) | rfl) (fun K hK => ?_)
  go_simp
  refine hK _ ?_
  clear hK K
  refine ph_alloc 0 rfl rfl rfl rfl rfl zero_coin newC.lay ?_
  (intro K hK; go_simp; refine hK _ ?_; clear hK K)
  refine ph_store 1 rfl rfl rfl rfl rfl row_coin rfl rfl HDL.out HD1.out (newC.put (coinV_length noCoin_ok)) ?_
  (intro K hK; go_simp; refine hK _ ?_; clear hK K)
  refine ph_value rfl (by first | rfl | go_simp) (fun k_ _ _ w_ hC_ => by first | (go_simp; rfl) | (go_simp; done) | rfl) (fun K hK => ?_)
  go_simp
  refine hK _ ?_
  clear hK K
  refine ph_nil ?_
  intro w3 ⟨hl3, hs3, hx3⟩
  have HB1' := Lib.hid (HB1.out.call hl3)
  have HB2' := Lib.hid (HB2.out.call hl3)
  have HL3 := Lib.hid (HBW.out.trans (hl3.mono (by rw [HSZ.out]; omega)))
  have HS3 := Lib.hid (show z + 3 = w3.heap.size by rw [hs3, HSZ.out])
  have HC3 := Lib.hid (HC2.out.call hl3)
  clear hl3 hs3 hx3 HF HL HX1 HC2 HB1 HB2 HBW HLK
  generalize w2.heap.size = xa
  repeat' (first | (with_reducible refine wp_phase (id := 2) (fun (_ : Nat) w' => Below w3.heap.size w3 w') [] [(0,0),(0,0),(0,0),(0,0),(0,0),(0,0),(0,0),(0,0),(0,0),(0,0),(0,0),(0,0)] (by kernel_rfl) (by kernel_rfl) ?_ ?_) | go_values | go_skip | go_guarded | go_step | go_upon | go_back)
  · exact Drawn.all (Drawn.one w3)
  have HF1 := Lib.hid (show ∀ w', Below w3.heap.size w3 w' → w'.cell? ⟨g, 1, none⟩ = some (.int .u64 s) from fun w' h => (HC3.out.call h).blk.at_ rfl)
  have HF2 := Lib.hid (show ∀ w', Below w3.heap.size w3 w' → w'.cell? ⟨z + 1, 32, none⟩ = some (.int .u64 ci) from fun w' h => (HB2'.out.call h).at_ HCI.out)
  refine ph_value rfl (by first | rfl | go_simp) (fun k_ _ _ w_ hC_ => by first | (go_simp; rfl) | (go_simp; done) | rfl) (fun K hK => ?_)
  go_simp
  refine hK _ ?_
  clear hK K
  refine ph_value rfl (by first | rfl | go_simp) (fun k_ _ _ w_ hC_ => by first | (go_simp; rfl) | (go_simp; done) | rfl) (fun K hK => ?_)
  go_simp
  refine hK _ ?_
  clear hK K
  refine ph_value rfl (by first | rfl | go_simp) (fun k_ _ _ w_ hC_ => by first | (go_simp; rfl) | (go_simp; done) | rfl) (fun K hK => ?_)
  go_simp
  refine hK _ ?_
  clear hK K
  refine ph_value rfl (by first | rfl | go_simp) (fun k_ _ _ w_ hC_ => by have c1 := HF1.out _ hC_; first | (go_simp; rfl) | (go_simp; done) | rfl) (fun K hK => ?_)
  go_simp
  refine hK _ ?_
  clear hK K
  refine ph_value rfl (by first | rfl | go_simp) (fun k_ _ _ w_ hC_ => by first | (go_simp; rfl) | (go_simp; done) | rfl) (fun K hK => ?_)
  go_simp
  refine hK _ ?_
  clear hK K
  refine ph_value rfl (by first | rfl | go_simp) (fun k_ _ _ w_ hC_ => by have c1 := HF2.out _ hC_; first | (go_simp; rfl) | (go_simp; done) | rfl) (fun K hK => ?_)
  go_simp
  refine hK _ ?_
  clear hK K
  refine ph_call rfl (by first | rfl | go_simp) (fun w => by first | rfl | (go_simp; rfl) | go_simp) (fun k _ _ w h => (HA.out w).mono fun e w' ⟨he, hb⟩ => ⟨he, below_step h h.size hb⟩) ?_
  (intro K hK; go_simp; refine hK _ ?_; clear hK K)
  refine ph_value rfl (by first | rfl | go_simp) (fun k_ _ _ w_ hC_ => by first | (go_simp; rfl) | (go_simp; done) | rfl) (fun K hK => ?_)
  go_simp
  refine hK _ ?_
  clear hK K
  refine ph_value rfl (by first | rfl | go_simp) (fun k_ _ _ w_ hC_ => by first | (go_simp; rfl) | (go_simp; done) | rfl) (fun K hK => ?_)
  go_simp
  refine hK _ ?_
  clear hK K
  refine ph_value rfl (by first | rfl | go_simp) (fun k_ _ _ w_ hC_ => by first | (go_simp; rfl) | (go_simp; done) | rfl) (fun K hK => ?_)
  go_simp
  refine hK _ ?_
  clear hK K
  refine ph_value rfl (by first | rfl | go_simp) (fun k_ _ _ w_ hC_ => by first | (go_simp; rfl) | (go_simp; done) | rfl) (fun K hK => ?_)
  go_simp
  refine hK _ ?_
  clear hK K
  refine ph_value rfl (by first | rfl | go_simp) (fun k_ _ _ w_ hC_ => by first | (go_simp; rfl) | (go_simp; done) | rfl) (fun K hK => ?_)
  go_simp
  refine hK _ ?_
  clear hK K
  refine ph_nil ?_
  intro w4 hl4
  have c1 := (HB1'.out.call hl4).at_ HPI.out
  have c2 := (HB2'.out.call hl4).at_ HCI.out
  have H1 := Lib.hid (HB1'.out.call hl4)
  have H2 := Lib.hid (HB2'.out.call hl4)
  have HC4 := Lib.hid (HC3.out.call hl4)
  have HL4 := Lib.hid (HL3.out.trans (hl4.mono (by have := HS3.out; omega)))
  have HT4 := Lib.hid (Touched.of_below (l := [g, b]) (by rw [← HZ.out]; exact HL4.out))
  clear HF1 HF2 hl4 HB1' HB2' HL3 HS3 HC3
  generalize hz1 : z + 1 = z1 at *
  have HZ1 := Lib.hid hz1
  clear hz1
  by_cases h1 : pi < 0
  · have e : r = 5 := by rw [HR.out, putR, if_pos (.inl (by rw [← HPE.out]; exact h1))]
    have HE := Lib.hid e; clear e
    go_wp2_with fail
    go_ret
    exact ⟨ret_int HE.out.symm, HT4.out, fun h => by have := HE.out; omega, fun _ => HC4.out⟩
  by_cases h2 : 16 ≤ pi
  · have e : r = 5 := by rw [HR.out, putR, if_pos (.inr (.inl (by rw [← HPE.out]; exact h2)))]
    have HE := Lib.hid e; clear e
    go_wp2_with fail
    go_ret
    exact ⟨ret_int HE.out.symm, HT4.out, fun h => by have := HE.out; omega, fun _ => HC4.out⟩
  by_cases h3 : ci = 0
  · have e : r = 5 := by rw [HR.out, putR, if_pos (.inr (.inr (.inl (by rw [← HCE.out]; exact h3))))]
    have HE := Lib.hid e; clear e
    have hb3 : (ci == 0) = true := by simpa using h3
    clear h3
    go_wp2_with fail
    go_ret
    exact ⟨ret_int HE.out.symm, HT4.out, fun h => by have := HE.out; omega, fun _ => HC4.out⟩
  have hb3 : (ci == 0) = false := beq_eq_false_iff_ne.2 h3
  by_cases h4 : 4611686018427387904 < ci
  · have e : r = 5 := by rw [HR.out, putR, if_pos (.inr (.inr (.inr (by rw [← HCE.out]; exact h4))))]
    have HE := Lib.hid e; clear e
    clear h3
    go_wp2_with fail
    go_ret
    exact ⟨ret_int HE.out.symm, HT4.out, fun h => by have := HE.out; omega, fun _ => HC4.out⟩
  have HN := Lib.hid (show ¬ (p.2 < 0 ∨ 16 ≤ p.2 ∨ c.2 = 0 ∨ 4611686018427387904 < c.2) by rw [← HPE.out, ← HCE.out]; omega)
  clear h3
  cases ok
  case true =>
    have e : r = 24 := by rw [HR.out, putR, if_neg HN.out, ← HOK.out, if_pos rfl]
    have HE := Lib.hid e; clear e
    go_wp2_with fail
    go_ret
    exact ⟨ret_int HE.out.symm, HT4.out, fun h => by have := HE.out; omega, fun _ => HC4.out⟩
  case false =>
    have c3 : w4.cell? ⟨g, 0, none⟩ = some (.map (some b)) := HC4.out.blk.at_ rfl
    obtain ⟨es, clock, hm1, hm2, hm3⟩ := HC4.out.map
    have ee : es.size = L.length := by rw [← kvs_length, hm3]; simp [encC]
    have hl := fun ty => run_len_map w4 130 ty b es clock Try.underlying130 hm1
    simp only [ee] at hl
    obtain ⟨n, hn⟩ : ∃ n, n = L.length := ⟨_, rfl⟩
    rw [← hn] at hl
    have HM1 := Lib.hid hm1; have HM2 := Lib.hid hm2; have HM3 := Lib.hid hm3
    have HNL := Lib.hid hn
    clear hm1 hm2 hm3 ee hn
    by_cases h5 : 256 ≤ n
    · have e : r = 18 := by rw [HR.out, putR, if_neg HN.out, ← HOK.out, if_neg (by simp), ← HNL.out, if_pos h5]
      have HE := Lib.hid e; clear e
      go_wp2_with fail
      go_ret
      exact ⟨ret_int HE.out.symm, HT4.out, fun h => by have := HE.out; omega, fun _ => HC4.out⟩
    have e : r = ec := by rw [HR.out, putR, if_neg HN.out, ← HOK.out, if_neg (by simp), ← HNL.out, if_neg h5, ← HAE.out]
    have HE := Lib.hid e; clear e
    by_cases h6 : ec = 0
    · have hb6 : (ec != 0) = false := bne_eq_false_iff_eq.2 h6
      have H6 := Lib.hid h6
      clear h6
      obtain ⟨lx, hx⟩ := keyOf_pt p HP.out
      have hno : ∀ q ∈ kvs es, q.1 ≠ ptA p := by
        intro q hq e
        rw [HM3.out] at hq
        obtain ⟨en, hen, rfl⟩ := List.mem_map.1 hq
        exact lookC_none HOK.out.symm en hen (ptA_inj (HC4.out.ok.1 en hen).1.1 HP.out.1 e)
      have hlo : LOK (L ++ [(p, c)]) := by
        refine ⟨fun e he => ?_, ?_⟩
        · rcases List.mem_append.1 he with he | he
          · exact HC4.out.ok.1 e he
          · have : e = (p, c) := by simpa using he
            subst this; exact ⟨HP.out, HCO.out⟩
        · rw [List.map_append, List.nodup_append]
          refine ⟨HC4.out.ok.2, by simp, fun a ha b' hb' e => ?_⟩
          obtain ⟨en, hen, rfl⟩ := List.mem_map.1 ha
          have hb2 : b' = p := by simpa using hb'
          exact lookC_none HOK.out.symm en hen (e.trans hb2)
      have HXK := Lib.hid hx; have HNO := Lib.hid hno; have HLO := Lib.hid hlo
      clear hx hno hlo
      have hgb := HC4.out.ne
      have HGB := Lib.hid hgb
      clear hgb
      go_wp2_with fail
      clear hl c1 c2
      repeat' (first | (with_reducible refine wp_phase (id := 11) (putC w4 g b es clock p c s s2) [8, 10, 13] [(0,3),(0,3),(0,3),(0,3),(0,3),(0,3),(0,3),(0,3),(0,0),(0,3),(1,1),(0,3),(0,3),(2,2)] (by kernel_rfl) (by kernel_rfl) ?_ ?_) | go_values | go_skip | go_guarded | go_step | go_upon | go_back)
      · exact putC.start HM1.out HC4.out.blk
      clear c3
      have HF := Lib.hid (show ∀ k w', putC w4 g b es clock p c s s2 k w' → w'.cell? ⟨g, 0, none⟩ = some (.map (some b)) from fun k w' h => h.2.2.2.at_ rfl)
      have HX1 := Lib.hid (show ∀ k w', putC w4 g b es clock p c s s2 k w' → Blk w' z 52 xs from fun k w' h => (h.1.block z H1.out.lt (by simp; omega)).trans H1.out)
      have HX2 := Lib.hid (show ∀ k w', putC w4 g b es clock p c s s2 k w' → Blk w' z1 54 ys from fun k w' h => (h.1.block z1 H2.out.lt (by have := HZ1.out; simp; omega)).trans H2.out)
      have HR0 := Lib.hid (show ∀ w', putC w4 g b es clock p c s s2 0 w' → (Instr.mapEntry 130 (.map (some b)) (.agg xs.toArray)).run Try.prog w' = .ok (.tuple #[coinA noCoin, .int .i64 clock]) (withBlk w' b (.map (es.push { key := ptA p, val := coinA noCoin, born := clock }) (clock + 1))) from fun w' h => by
        have := h.run0 HM2.out HXK.out HNO.out
        rw [HXE.out]; exact this)
      have HR1 := Lib.hid (show ∀ w', putC w4 g b es clock p c s s2 1 w' → (Instr.entryStore 130 (.map (some b)) (.int .i64 clock) (.agg ys.toArray)).run Try.prog w' = .ok () (withBlk w' b (.map ((es.push { key := ptA p, val := coinA noCoin, born := clock }).modify es.size fun e => { e with val := coinA c }) (clock + 1))) from fun w' h => by
        have := h.run1 HM2.out HXK.out HNO.out
        rw [HYE.out]; exact this)
      refine ph_value rfl (by first | rfl | go_simp) (fun k_ _ _ w_ hC_ => by first | (go_simp; rfl) | (go_simp; done) | rfl) (fun K hK => ?_)
      go_simp
      refine hK _ ?_
      clear hK K
      refine ph_value rfl (by first | rfl | go_simp) (fun k_ _ _ w_ hC_ => by first | (go_simp; rfl) | (go_simp; done) | rfl) (fun K hK => ?_)
      go_simp
      refine hK _ ?_
      clear hK K
      refine ph_value rfl (by first | rfl | go_simp) (fun k_ _ _ w_ hC_ => by first | (go_simp; rfl) | (go_simp; done) | rfl) (fun K hK => ?_)
      go_simp
      refine hK _ ?_
      clear hK K
      refine ph_value rfl (by first | rfl | go_simp) (fun k_ _ _ w_ hC_ => by have c1 := HF.out _ _ hC_; first | (go_simp; rfl) | (go_simp; done) | rfl) (fun K hK => ?_)
      go_simp
      refine hK _ ?_
      clear hK K
      refine ph_load rfl rfl rfl row_point (fun k _ _ w h => HX1.out k w h) rfl HX.out ?_
      (intro K hK; go_simp; refine hK _ ?_; clear hK K)
      refine ph_value rfl (by first | rfl | go_simp) (fun k_ _ _ w_ hC_ => by first | (go_simp; rfl) | (go_simp; done) | rfl) (fun K hK => ?_)
      go_simp
      refine hK _ ?_
      clear hK K
      refine ph_load rfl rfl rfl row_coin (fun k _ _ w h => HX2.out k w h) rfl HY.out ?_
      (intro K hK; go_simp; refine hK _ ?_; clear hK K)
      refine ph_value rfl (by first | rfl | go_simp) (fun k_ _ _ w_ hC_ => by first | (go_simp; rfl) | (go_simp; done) | rfl) (fun K hK => ?_)
      go_simp
      refine hK _ ?_
      clear hK K
      refine ph_run 0 rfl rfl rfl (by first | rfl | go_simp) (fun w' hC => ⟨_, by (have hrun := HR0.out w' hC); first | (go_simp; rfl) | (go_simp; exact ⟨rfl, rfl⟩) | go_simp, hC.entry HGB.out⟩) ?_
      (intro K hK; go_simp; refine hK _ ?_; clear hK K)
      refine ph_value rfl (by first | rfl | go_simp) (fun k_ _ _ w_ hC_ => by first | (go_simp; rfl) | (go_simp; done) | rfl) (fun K hK => ?_)
      go_simp
      refine hK _ ?_
      clear hK K
      refine ph_runs 1 rfl rfl rfl (by first | rfl | go_simp) (fun w' hC => ⟨_, by (have hrun := HR1.out w' hC); first | (go_simp; rfl) | (go_simp; exact ⟨rfl, rfl⟩) | go_simp, hC.fill HGB.out⟩) ?_
      (intro K hK; go_simp; refine hK _ ?_; clear hK K)
      refine ph_value rfl (by first | rfl | go_simp) (fun k_ _ _ w_ hC_ => by first | (go_simp; rfl) | (go_simp; done) | rfl) (fun K hK => ?_)
      go_simp
      refine hK _ ?_
      clear hK K
      refine ph_value rfl (by first | rfl | go_simp) (fun k_ _ _ w_ hC_ => by first | (go_simp; rfl) | (go_simp; done) | rfl) (fun K hK => ?_)
      go_simp
      refine hK _ ?_
      clear hK K
      refine ph_runs 2 rfl rfl rfl (by first | rfl | go_simp) (fun w' hC => ⟨_, by (have hcl := hC.2.2.2.at_ (i := 1) rfl); (have hfz := hC.2.2.2.frozen 1); first | (go_simp; rfl) | (go_simp; exact ⟨rfl, rfl⟩) | go_simp, hC.sum HGB.out⟩) ?_
      (intro K hK; go_simp; refine hK _ ?_; clear hK K)
      refine ph_nil ?_
      intro w5 hC5
      have HC5 := Lib.hid hC5
      clear hC5
      go_wp2_with fail
      go_ret
      refine ⟨ret_int (HE.out.trans H6.out).symm, HT4.out.trans HC5.out.1, fun _ => HC5.out.done HGB.out HM2.out HXK.out HNO.out HM3.out HLO.out, fun h => absurd (HE.out.trans H6.out) h⟩
    · have hb6 : (ec != 0) = true := bne_iff_ne.2 h6
      have H6 := Lib.hid h6
      clear h6
      go_wp2_with fail
      go_ret
      exact ⟨ret_int HE.out.symm, HT4.out, fun h => absurd (HE.out.symm.trans h) H6.out, fun _ => HC4.out⟩
end Go.Proofs.Ytolbbhbfbpiljaa

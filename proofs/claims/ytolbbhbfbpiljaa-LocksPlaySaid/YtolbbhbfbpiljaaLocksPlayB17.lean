/- The contracts of coins.Copy and locks.Copy. -/
import Derived.Test.YtolbbhbfbpiljaaLocksPlayB16
import Derived.Test.YtolbbhbfbpiljaaLocksPlayB8
import Derived.Test.YtolbbhbfbpiljaaLocksPlayB15
import Derived.Test.YtolbbhbfbpiljaaLocksPlayB5
set_option linter.unusedSimpArgs false
/- The contracts of coins.Copy and locks.Copy. -/
namespace Go.Proofs.Ytolbbhbfbpiljaa
open Go.RowKit
set_option linter.unusedVariables false
section
variable {P : Program} {C : Nat → World → Prop} {M : List Nat} {R : List (Nat × Nat)} {ops : Array Oper} {Q : Act → Prop} {rest : List Oper} {i : Nat} {a : Act} {o : Oper}
/-- A call that writes: its one phase. -/
theorem ph_callx {v : Value} {f : FuncId} {args : Array Value} (j : Nat) (hM : M.contains i = true) (hl : phLo R i = j) (hh : phHi R i = j) (hw : Region.wanted o (yielded ops a.tmps) = true)
    (h : ∀ w, (execOp a.eval o).run P w = .ok (.enter f args) w)
    (hc : ∀ w, C j w → Calls P f args w fun e w' => e = .returned v ∧ C (j + 1) w')
    (hk : ∀ K : Act → Prop, (∀ a, wpPhase P C M R ops Q rest (i + 1) a → K a) → K (a.put o.dst v)) : wpPhase P C M R ops Q (o :: rest) i a := by
  refine ph_write j hM hl hh hw (fun w hC => ?_) hk
  unfold phAt
  rw [h w]
  exact hc w hC
end
/-- The phases of '&Coins{maps.Clone(m), sum}': nothing, the map laid, the struct laid. -/
def cpyC (w0 : World) (es : Array MapEntry) (clock : Nat) (t : TypeId) (s : Int) (k : Nat) (w : World) : Prop :=
  Below w0.heap.size w0 w ∧ w.heap.size = w0.heap.size + k ∧ (1 ≤ k → w.heap[w0.heap.size]? = some (.map es clock)) ∧ (2 ≤ k → Blk w (w0.heap.size + 1) t [.map (some w0.heap.size), .int .u64 s])
theorem cpyC.start {w0 : World} {es : Array MapEntry} {clock : Nat} {t : TypeId} {s : Int} : cpyC w0 es clock t s 0 w0.drew :=
  ⟨Drawn.all (Drawn.one w0), rfl, fun h => by omega, fun h => by omega⟩
theorem cpyC.map {w0 w : World} {es : Array MapEntry} {clock : Nat} {t : TypeId} {s : Int} (h : cpyC w0 es clock t s 0 w) : cpyC w0 es clock t s 1 (w.alloc (.map es clock)) := by
  obtain ⟨h1, h2, _, _⟩ := h
  refine ⟨h1.alloc h1.size _, by simp [h2], fun _ => ?_, fun h => by omega⟩
  have := heap_alloc_new w (.map es clock)
  rwa [h2] at this
theorem cpyC.box {w0 w : World} {es : Array MapEntry} {clock : Nat} {t : TypeId} {s : Int} (h : cpyC w0 es clock t s 1 w) : cpyC w0 es clock t s 2 (w.alloc (.cells #[.map (some w0.heap.size), .int .u64 s] t)) := by
  obtain ⟨h1, h2, h3, _⟩ := h
  refine ⟨h1.alloc h1.size _, by simp [h2], fun _ => (Below.heap_alloc _ _ _ (by omega)).trans (h3 (Nat.le_refl _)), fun _ => ?_⟩
  have := heap_alloc_new w (.cells #[.map (some w0.heap.size), .int .u64 s] t)
  rw [h2] at this
  exact this
set_option maxRecDepth 100000 in
set_option maxHeartbeats 1000000 in
theorem ccopy_any (g b : Nat) (L : CoinsL) (s : Int) (w : World) (h : CoinsAt w g b L s) :
    Calls Try.prog 34 #[.pointer (some ⟨g, 0, none⟩)] w fun e w' => ∃ g2 b2, e = .returned (.pointer (some ⟨g2, 0, none⟩)) ∧ CoinsAt w' g2 b2 L s ∧ w.heap.size ≤ g2 ∧ w.heap.size ≤ b2 ∧ Below w.heap.size w w' := by
  obtain ⟨es, clock, h3, h4, h5⟩ := h.map
  have HH := Lib.hid h; have H3 := Lib.hid h3; have H4 := Lib.hid h4; have H5 := Lib.hid h5
  clear h3 h4 h5 h
  go_enter Try.func34, Try.ntmps34
  go_wp2_with fail
  repeat' (first | (with_reducible refine wp_phase (id := 1) (cpyC w es clock 132 s) [4, 10] [(0,0),(0,0),(0,0),(0,0),(0,0),(0,1),(0,1),(0,1),(0,1),(1,1),(1,1),(2,2)] (by kernel_rfl) (by kernel_rfl) ?_ ?_) | go_values | go_skip | go_guarded | go_step | go_upon | go_back)
  · exact cpyC.start
  have HF := Lib.hid (show ∀ k w', cpyC w es clock 132 s k w' → w'.cell? ⟨g, 0, none⟩ = some (.map (some b)) from fun k w' h => (HH.out.call h.1).blk.at_ rfl)
  have HG := Lib.hid (show ∀ k w', cpyC w es clock 132 s k w' → w'.cell? ⟨g, 1, none⟩ = some (.int .u64 s) from fun k w' h => (HH.out.call h.1).blk.at_ rfl)
  have HCL := Lib.hid (show ∀ w', cpyC w es clock 132 s 0 w' → Calls Try.prog 62 #[.map (some b)] w' fun e w'' => e = .returned (.map (some w.heap.size)) ∧ cpyC w es clock 132 s 1 w'' from fun w' h => (cclone_any b es clock w' ((h.1.block b HH.out.ltb).trans H3.out)).mono fun e w'' ⟨he, hw⟩ => ⟨by rw [he, h.2.1]; rfl, by rw [hw]; exact h.map⟩)
  refine ph_value rfl (by first | rfl | go_simp) (fun k_ _ _ w_ hC_ => by first | (go_simp; rfl) | (go_simp; done) | rfl) (fun K hK => ?_)
  go_simp
  refine hK _ ?_
  clear hK K
  refine ph_value rfl (by first | rfl | go_simp) (fun k_ _ _ w_ hC_ => by first | (go_simp; rfl) | (go_simp; done) | rfl) (fun K hK => ?_)
  go_simp
  refine hK _ ?_
  clear hK K
  refine ph_value rfl (by first | rfl | go_simp) (fun k_ _ _ w_ hC_ => by first | (go_simp; rfl) | (go_simp; done) | rfl) (fun K hK => ?_)
  go_simp
  refine hK _ ?_
  clear hK K
  refine ph_value rfl (by first | rfl | go_simp) (fun k_ _ _ w_ hC_ => by have c1 := HF.out _ _ hC_; first | (go_simp; rfl) | (go_simp; done) | rfl) (fun K hK => ?_)
  go_simp
  refine hK _ ?_
  clear hK K
  refine ph_callx 0 rfl rfl rfl (by first | rfl | go_simp) (fun w => by first | rfl | (go_simp; rfl) | go_simp) (fun w h => HCL.out w h) ?_
  (intro K hK; go_simp; refine hK _ ?_; clear hK K)
  refine ph_value rfl (by first | rfl | go_simp) (fun k_ _ _ w_ hC_ => by first | (go_simp; rfl) | (go_simp; done) | rfl) (fun K hK => ?_)
  go_simp
  refine hK _ ?_
  clear hK K
  refine ph_value rfl (by first | rfl | go_simp) (fun k_ _ _ w_ hC_ => by first | (go_simp; rfl) | (go_simp; done) | rfl) (fun K hK => ?_)
  go_simp
  refine hK _ ?_
  clear hK K
  refine ph_value rfl (by first | rfl | go_simp) (fun k_ _ _ w_ hC_ => by first | (go_simp; rfl) | (go_simp; done) | rfl) (fun K hK => ?_)
  go_simp
  refine hK _ ?_
  clear hK K
  refine ph_value rfl (by first | rfl | go_simp) (fun k_ _ _ w_ hC_ => by have c1 := HG.out _ _ hC_; first | (go_simp; rfl) | (go_simp; done) | rfl) (fun K hK => ?_)
  go_simp
  refine hK _ ?_
  clear hK K
  refine ph_value rfl (by first | rfl | go_simp) (fun k_ _ _ w_ hC_ => by first | (go_simp; rfl) | (go_simp; done) | rfl) (fun K hK => ?_)
  go_simp
  refine hK _ ?_
  clear hK K
  refine ph_run 1 rfl rfl rfl (by first | rfl | go_simp) (fun w' hC => ⟨_, by (have hz := hC.2.1); first | (go_simp; exact ⟨⟨rfl, rfl⟩, rfl⟩) | (go_simp; rfl) | go_simp, hC.box⟩) ?_
  (intro K hK; go_simp; refine hK _ ?_; clear hK K)
  refine ph_value rfl (by first | rfl | go_simp) (fun k_ _ _ w_ hC_ => by first | (go_simp; rfl) | (go_simp; done) | rfl) (fun K hK => ?_)
  go_simp
  refine hK _ ?_
  clear hK K
  refine ph_nil ?_
  intro w2 hC2
  go_wp2_with fail
  go_ret
  refine ⟨w.heap.size + 1, w.heap.size, rfl, ⟨hC2.2.2.2 (Nat.le_refl _), ⟨es, clock, hC2.2.2.1 (by decide), H4.out, H5.out⟩, HH.out.ok, by omega⟩, by omega, Nat.le_refl _, hC2.1⟩
set_option maxRecDepth 100000 in
set_option maxHeartbeats 1000000 in
theorem kcopy_any (g b : Nat) (L : LocksL) (s : Int) (w : World) (h : LocksAt w g b L s) :
    Calls Try.prog 41 #[.pointer (some ⟨g, 0, none⟩)] w fun e w' => ∃ g2 b2, e = .returned (.pointer (some ⟨g2, 0, none⟩)) ∧ LocksAt w' g2 b2 L s ∧ w.heap.size ≤ g2 ∧ w.heap.size ≤ b2 ∧ Below w.heap.size w w' := by
  obtain ⟨es, clock, h3, h4, h5⟩ := h.map
  have HH := Lib.hid h; have H3 := Lib.hid h3; have H4 := Lib.hid h4; have H5 := Lib.hid h5
  clear h3 h4 h5 h
  go_enter Try.func41, Try.ntmps41
  go_wp2_with fail
  repeat' (first | (with_reducible refine wp_phase (id := 1) (cpyC w es clock 120 s) [4, 10] [(0,0),(0,0),(0,0),(0,0),(0,0),(0,1),(0,1),(0,1),(0,1),(1,1),(1,1),(2,2)] (by kernel_rfl) (by kernel_rfl) ?_ ?_) | go_values | go_skip | go_guarded | go_step | go_upon | go_back)
  · exact cpyC.start
  have HF := Lib.hid (show ∀ k w', cpyC w es clock 120 s k w' → w'.cell? ⟨g, 0, none⟩ = some (.map (some b)) from fun k w' h => (HH.out.call h.1).blk.at_ rfl)
  have HG := Lib.hid (show ∀ k w', cpyC w es clock 120 s k w' → w'.cell? ⟨g, 1, none⟩ = some (.int .u64 s) from fun k w' h => (HH.out.call h.1).blk.at_ rfl)
  have HCL := Lib.hid (show ∀ w', cpyC w es clock 120 s 0 w' → Calls Try.prog 69 #[.map (some b)] w' fun e w'' => e = .returned (.map (some w.heap.size)) ∧ cpyC w es clock 120 s 1 w'' from fun w' h => (kclone_any b es clock w' ((h.1.block b HH.out.ltb).trans H3.out)).mono fun e w'' ⟨he, hw⟩ => ⟨by rw [he, h.2.1]; rfl, by rw [hw]; exact h.map⟩)
  refine ph_value rfl (by first | rfl | go_simp) (fun k_ _ _ w_ hC_ => by first | (go_simp; rfl) | (go_simp; done) | rfl) (fun K hK => ?_)
  go_simp
  refine hK _ ?_
  clear hK K
  refine ph_value rfl (by first | rfl | go_simp) (fun k_ _ _ w_ hC_ => by first | (go_simp; rfl) | (go_simp; done) | rfl) (fun K hK => ?_)
  go_simp
  refine hK _ ?_
  clear hK K
  refine ph_value rfl (by first | rfl | go_simp) (fun k_ _ _ w_ hC_ => by first | (go_simp; rfl) | (go_simp; done) | rfl) (fun K hK => ?_)
  go_simp
  refine hK _ ?_
  clear hK K
  refine ph_value rfl (by first | rfl | go_simp) (fun k_ _ _ w_ hC_ => by have c1 := HF.out _ _ hC_; first | (go_simp; rfl) | (go_simp; done) | rfl) (fun K hK => ?_)
  go_simp
  refine hK _ ?_
  clear hK K
  refine ph_callx 0 rfl rfl rfl (by first | rfl | go_simp) (fun w => by first | rfl | (go_simp; rfl) | go_simp) (fun w h => HCL.out w h) ?_
  (intro K hK; go_simp; refine hK _ ?_; clear hK K)
  refine ph_value rfl (by first | rfl | go_simp) (fun k_ _ _ w_ hC_ => by first | (go_simp; rfl) | (go_simp; done) | rfl) (fun K hK => ?_)
  go_simp
  refine hK _ ?_
  clear hK K
  refine ph_value rfl (by first | rfl | go_simp) (fun k_ _ _ w_ hC_ => by first | (go_simp; rfl) | (go_simp; done) | rfl) (fun K hK => ?_)
  go_simp
  refine hK _ ?_
  clear hK K
  refine ph_value rfl (by first | rfl | go_simp) (fun k_ _ _ w_ hC_ => by first | (go_simp; rfl) | (go_simp; done) | rfl) (fun K hK => ?_)
  go_simp
  refine hK _ ?_
  clear hK K
  refine ph_value rfl (by first | rfl | go_simp) (fun k_ _ _ w_ hC_ => by have c1 := HG.out _ _ hC_; first | (go_simp; rfl) | (go_simp; done) | rfl) (fun K hK => ?_)
  go_simp
  refine hK _ ?_
  clear hK K
  refine ph_value rfl (by first | rfl | go_simp) (fun k_ _ _ w_ hC_ => by first | (go_simp; rfl) | (go_simp; done) | rfl) (fun K hK => ?_)
  go_simp
  refine hK _ ?_
  clear hK K
  refine ph_run 1 rfl rfl rfl (by first | rfl | go_simp) (fun w' hC => ⟨_, by (have hz := hC.2.1); first | (go_simp; exact ⟨⟨rfl, rfl⟩, rfl⟩) | (go_simp; rfl) | go_simp, hC.box⟩) ?_
  (intro K hK; go_simp; refine hK _ ?_; clear hK K)
  refine ph_value rfl (by first | rfl | go_simp) (fun k_ _ _ w_ hC_ => by first | (go_simp; rfl) | (go_simp; done) | rfl) (fun K hK => ?_)
  go_simp
  refine hK _ ?_
  clear hK K
  refine ph_nil ?_
  intro w2 hC2
  go_wp2_with fail
  go_ret
  refine ⟨w.heap.size + 1, w.heap.size, rfl, ⟨hC2.2.2.2 (Nat.le_refl _), ⟨es, clock, hC2.2.2.1 (by decide), H4.out, H5.out⟩, HH.out.ok, by omega⟩, by omega, Nat.le_refl _, hC2.1⟩
end Go.Proofs.Ytolbbhbfbpiljaa

/- seisinlaw21.awake. -/
namespace Go.Proofs.Ytolbbhbfbpiljaa
open Go.RowKit Go.Sort
set_option linter.unusedVariables false
/-- A digest whose first byte is x, and its value in the laws' words. -/
def idx (x : Nat) : List UInt8 := UInt8.ofNat x :: List.replicate 31 0
def idxV (x : Int) : Value := .agg (.int .u8 x :: List.replicate 31 (.int .u8 0)).toArray
theorem b8_ofNatL {x : Nat} (h : x < 256) : b8 (UInt8.ofNat x) = x := by unfold b8; rw [UInt8.toNat_ofNat']; omega
theorem idxV_eq {x : Nat} (h : x < 256) : Value.agg ((idx x).map B).toArray = idxV x := by
  unfold idx idxV
  simp only [List.map_cons, List.map_replicate, B, b8_ofNatL h]
  rfl
theorem idx_len (x : Nat) : (idx x).length = 32 := by simp [idx]
theorem kput2 (g b : Nat) (L : LocksL) (s : Int) (p : PtK) (x : Nat) (a : Int) (w : World) (h : LocksAt w g b L s) (hp : PtOK p) (hx : x < 256) (ha : 0 ≤ a) (ha2 : a ≤ 18446744073709551615) (hs0 : 0 ≤ s) (hs1 : s ≤ 4611686018427387904) (r : Int) (hr : putQ L s p (cn a) = r) :
    Calls Try.prog 19 #[.pointer (some ⟨g, 0, none⟩), ptA p, idxV x, coinA (cn a)] w fun e w' => e = .returned (.int .i64 r) ∧ Touched [g, b] w w' ∧
      (r = 0 → LocksAt w' g b (L ++ [(p, (cn a, idx x))]) (addE s a).1) ∧ (r ≠ 0 → LocksAt w' g b L s) := by
  have := kput_any g b L s p (idx x) (cn a) w h hp (idx_len x) (cn_ok a ha ha2) hs0 hs1
  rw [idxV_eq hx, hr] at this
  exact this
theorem of2 (g b : Nat) (L : LocksL) (s : Int) (x : Nat) (w : World) (h : LocksAt w g b L s) (hx : x < 256) (hn : L.length ≤ 1000000) :
    Calls Try.prog 23 #[.pointer (some ⟨g, 0, none⟩), idxV x] w fun e w' => ∃ A c, ∃ ks : List PtS, e = .returned (.slice A ks.length c) ∧ OwnP w' w.heap.size A ks.length c ks ∧ (ks.map (·.1)).Perm ((L.filter fun e => decide (e.2.2 = idx x)).map (·.1)) ∧ Below w.heap.size w w' := by
  have := kof_any g b L s (idx x) w h (idx_len x) hn
  rw [idxV_eq hx] at this
  refine this.mono ?_
  rintro e w' ⟨A, n, c, ss, ks, rfl, ho, _, _, hp, hb⟩
  obtain rfl := ho.len
  exact ⟨A, c, ks, rfl, ho, hp, hb⟩
theorem LocksAt.grown {w w' : World} {g b : Nat} {L : LocksL} {s : Int} {row : Option Nat} (h : LocksAt w g b L s) (hg : w.grownBy w' row) (h1 : some g ≠ row) (h2 : some b ≠ row) : LocksAt w' g b L s := by
  obtain ⟨q1, ⟨e1, c1, q2, q3, q4⟩, q5, q6⟩ := h
  exact ⟨q1.grown hg h1, ⟨e1, c1, (hg.block b (Array.getElem?_eq_some_iff.1 q2).1 h2).trans q2, q3, q4⟩, q5, q6⟩
theorem wpl_buildk {P : Program} {ops : Array Oper} {rest : List Oper} {o : Oper} {a : Act} {w : World} {Q : Exit → Act → World → Prop} (hw : Region.wanted o (yielded ops a.tmps) = true) {t : TypeId} {parts : Array (Nat × Operand)} (ho : o.op = .build t parts) {cells : List Value} (h : P.built t (parts.toList.map fun (i, x) => (i, a.eval x)) = some cells.toArray)
    (hk : wpList P ops Q rest (a.put o.dst (.agg cells.toArray)) w) : wpList P ops Q (o :: rest) a w := by
  refine wpl_wanted hw fun K hK => ?_
  unfold Oper.wp
  rw [exec_build ho h w]
  exact hK _ _ hk
def P1k : PtK := pt 1
def L1k : LocksL := [(P1k, (cn 4, idx 8))]
set_option maxRecDepth 100000 in
set_option maxHeartbeats 2000000 in
theorem awake21_any (w : World) : Calls Try.prog 22 #[] w fun e w' => e = .returned (.bool true) ∧ Below w.heap.size w w' := by
  have E1 := Lib.hid (show putQ [] 0 P1k (cn 4) = 0 by decide +kernel)
  have E2 := Lib.hid (show addE 0 4 = (4, 0) by decide +kernel)
  have E3 := Lib.hid (show lookL L1k P1k = some (cn 4, idx 8) by decide +kernel)
  have E4 := Lib.hid (show (L1k.filter fun e => decide (e.2.2 = idx 8)).length = 1 by decide +kernel)
  have HPO := Lib.hid (show PtOK P1k from pt_ok 1 (by decide))
  have HOF1 := Lib.hid (fun g b w (h : LocksAt w g b [] 0) => of2 g b [] 0 1 w h (by omega) (by simp))
  have HPUT := Lib.hid (fun g b w (h : LocksAt w g b [] 0) => kput2 g b [] 0 P1k 8 4 w h HPO.out (by omega) (by omega) (by omega) (by omega) (by omega) 0 E1.out)
  have HOF8 := Lib.hid (fun g b w (h : LocksAt w g b L1k 4) => of2 g b L1k 4 8 w h (by omega) (by simp [L1k]))
  have HGET := Lib.hid (fun g b w (h : LocksAt w g b L1k 4) => kget_any g b L1k 4 P1k w h HPO.out)
  have HEQ := Lib.hid (idk_eq (idx 8) (idx 8) (idx_len 8) (idx_len 8))
  have HIL := Lib.hid (show ((idx 8).map B).length = 32 by rw [List.length_map]; exact idx_len 8); have HI1 := Lib.hid (mapB_one (idx 8))
  have HCL := Lib.hid (show (coinV (cn 4)).length = 33 from coinV_length (cn_ok 4 (by omega) (by omega))); have HC1 := Lib.hid (coinV_one (cn 4))
  have HCA := Lib.hid (show (coinV (cn 4))[32]? = some (.int .u64 4) by rfl)
  have HNC := Lib.hid (coinV_length noCoin_ok)
  have HBT := Lib.hid (show Try.prog.built 29 [(0, .int .u8 8)] = some ((idx 8).map B).toArray by kernel_rfl)
  rw [E3.out] at HGET
  obtain ⟨z, hz⟩ : ∃ z, z = w.heap.size := ⟨_, rfl⟩
  have HZ := Lib.hid hz
  clear hz
  go_enter Try.func22, Try.ntmps22
  go_wp2_with fail
  refine (knew_any _).mono ?_
  rintro e w1 ⟨g, b, rfl, hM, hg, hb, hbw⟩
  rw [← HZ.out] at hg hb hbw
  have HM := Lib.hid hM
  have HB := Lib.hid hbw
  have HSZ := Lib.hid (show z ≤ w1.heap.size by have := hM.ltg; omega)
  clear hM hbw
  go_wp2_with fail
  refine Calls.mono (show Calls Try.prog 23 _ w1 _ from HOF1.out g b w1 HM.out) ?_
  rintro e w2 ⟨A, c, ks, rfl, _, hp, hb2⟩
  have hk0 : ks.length = 0 := by have := hp.length_eq; rw [List.length_map] at this; simpa using this
  rw [hk0]
  have HM2 := Lib.hid (HM.out.call hb2)
  have HB2 := Lib.hid (HB.out.trans (hb2.mono HSZ.out))
  have HSZ2 := Lib.hid (Nat.le_trans HSZ.out hb2.size)
  clear hb2 HM HB HSZ hp hk0
  go_wp2_with fail
  refine Calls.mono (show Calls Try.prog 19 _ w2 _ from HPUT.out g b w2 HM2.out) ?_
  rintro e w3 ⟨rfl, ht, hm, -⟩
  have HM3 := Lib.hid (show LocksAt w3 g b L1k 4 from by have := hm (by first | trivial | rfl); rw [E2.out] at this; exact this)
  have HB3 := Lib.hid (HB2.out.trans (ht.below (B := z) (by simp; omega) HSZ2.out))
  have HSZ3 := Lib.hid (Nat.le_trans HSZ2.out ht.size)
  clear ht hm HM2 HB2 HSZ2
  go_wp2_with fail
  refine Calls.mono (show Calls Try.prog 25 _ w3 _ from HGET.out g b w3 HM3.out) ?_
  rintro e w4 ⟨rfl, hb4⟩
  have HM4 := Lib.hid (HM3.out.call hb4)
  have HB4 := Lib.hid (HB3.out.trans (hb4.mono HSZ3.out))
  have HSZ4 := Lib.hid (Nat.le_trans HSZ3.out hb4.size)
  clear hb4 HM3 HB3 HSZ3
  rw [show (((some (cn 4, idx 8)).getD noLock).2.map B) = (idx 8).map B from rfl, show coinA ((some (cn 4, idx 8)).getD noLock).1 = .agg (coinV (cn 4)).toArray from rfl, show (some (cn 4, idx 8)).isSome = true from rfl]
  obtain ⟨is, his⟩ : ∃ q, q = (idx 8).map B := ⟨_, rfl⟩
  obtain ⟨cs, hcs⟩ : ∃ q, q = coinV (cn 4) := ⟨_, rfl⟩
  have HIE := Lib.hid (show Value.agg is.toArray = idxV 8 by rw [his]; exact idxV_eq (x := 8) (by omega))
  rw [← his] at HEQ HIL HI1 HBT ⊢
  rw [← hcs] at HCL HC1 HCA ⊢
  clear his hcs
  go_wp2_with (first | (with_reducible refine wpl_alloc (o := ⟨some 2, _, _, _, _, _⟩) rfl rfl zero_idk ?_))
  intro w5 hb5 hbw5 hsz5
  have HI5 := Lib.hid hb5
  have HM5 := Lib.hid (HM4.out.call hbw5)
  have HB5 := Lib.hid (HB4.out.trans (hbw5.mono HSZ4.out))
  have HG5 := Lib.hid (show g < w4.heap.size ∧ b < w4.heap.size ∧ z ≤ w4.heap.size from ⟨HM4.out.ltg, HM4.out.ltb, HSZ4.out⟩)
  have HS5 := Lib.hid hsz5
  clear hb5 hbw5 hsz5 HM4 HB4 HSZ4
  go_wp2_with (first | (with_reducible refine wpl_alloc (o := ⟨some 3, _, _, _, _, _⟩) rfl rfl zero_coin ?_))
  intro w6 hb6 hbw6 hsz6
  have HC6 := Lib.hid hb6
  have HI6 := Lib.hid (HI5.out.call hbw6)
  have HM6 := Lib.hid (HM5.out.call hbw6)
  have HB6 := Lib.hid (HB5.out.trans (hbw6.mono (by have := HS5.out; have := HG5.out; omega)))
  clear hb6 hbw6 hsz6 HI5 HM5 HB5
  rw [HS5.out] at HC6 ⊢
  obtain ⟨q4, hq4⟩ : ∃ q, q = w4.heap.size := ⟨_, rfl⟩
  rw [← hq4] at HC6 HI6 HG5 ⊢
  clear hq4 HS5
  go_wp2_with (first | (with_reducible refine wpl_storeb (o := ⟨none, .store _ _ _, _, _, _, _⟩) rfl rfl row_idk HI6.out rfl rfl zidV_len HIL.out HI1.out ?_))
  intro w7 hb7 hg7 hs7
  have HI7 := Lib.hid hb7
  have HC7 := Lib.hid (HC6.out.grown hg7 (by simp))
  have HM7 := Lib.hid (HM6.out.grown hg7 (by have := HG5.out; simp; omega) (by have := HG5.out; simp; omega))
  have HB7 := Lib.hid (HB6.out.grown hg7 (by rw [HZ.out]; exact HB6.out.size) (fun q hq => by cases hq; exact HG5.out.2.2))
  clear hb7 hg7 hs7 HI6 HC6 HM6 HB6
  go_wp2_with (first | (with_reducible refine wpl_storeb (o := ⟨none, .store _ _ _, _, _, _, _⟩) rfl rfl row_coin HC7.out rfl rfl HNC.out HCL.out HC1.out ?_))
  intro w8 hb8 hg8 hs8
  have HI8 := Lib.hid (HI7.out.grown hg8 (by simp))
  have HM8 := Lib.hid (HM7.out.grown hg8 (by have := HG5.out; simp; omega) (by have := HG5.out; simp; omega))
  have HB8 := Lib.hid (HB7.out.grown hg8 (by rw [HZ.out]; exact HB7.out.size) (fun q hq => by cases hq; have := HG5.out.2.2; omega))
  have c8 := hb8.at_ HCA.out
  clear hb8 hg8 hs8 HI7 HC7 HM7 HB7
  have heq := HEQ.out
  simp only [decide_true] at heq
  go_wp2_with (first | (with_reducible refine wpl_loadw (o := ⟨some 32, _, _, _, _, _⟩) (by first | rfl | go_simp) rfl row_idk HI8.out rfl HIL.out ?_) | (refine wpl_buildk (o := ⟨some 33, _, _, _, _, _⟩) (by first | rfl | (go_simp; done) | fail) rfl HBT.out ?_))
  refine (klen_any g b _ _ _ HM8.out).mono ?_
  rintro e w9 ⟨rfl, rfl⟩
  rw [show ((L1k.length : Nat) : Int) = 1 from rfl]
  go_wp2_with fail
  refine (ksum_any g b _ _ _ HM8.out).mono ?_
  rintro e w9 ⟨rfl, rfl⟩
  go_wp2_with fail
  refine Calls.mono (show Calls Try.prog 23 _ w8 _ from HOF8.out g b w8 HM8.out) ?_
  rintro e w9 ⟨A9, c9, ks9, rfl, _, hp9, hb9⟩
  have hk1 : ks9.length = 1 := by have := hp9.length_eq; rw [List.length_map, List.length_map, E4.out] at this; exact this
  rw [hk1]
  have HB9 := Lib.hid (HB8.out.trans (hb9.mono (by rw [HZ.out]; exact HB8.out.size)))
  clear hp9 hk1 hb9
  go_wp2_with fail
  go_ret
  exact ⟨rfl, by rw [← HZ.out]; exact HB9.out⟩
end Go.Proofs.Ytolbbhbfbpiljaa

/- Contracts of marks.New, Len, Get and Put, for marks without a path. -/
import Derived.Test.YtolbbhbfbpiljaaMarkB
namespace Go.Proofs.Ytolbbhbfbpiljaa
open Go.RowKit
set_option linter.unusedVariables false

theorem mnew_any (w : World) : Calls Try.prog 11 #[] w fun e w' => ∃ g b, e = .returned (.pointer (some ⟨g, 0, none⟩)) ∧ MarksAt w' g b [] ∧ w.heap.size ≤ g ∧ w.heap.size ≤ b ∧ Below w.heap.size w w' := by
  have hmm : ∀ w, (Instr.makeMap 108 none).run Try.prog w = .ok (.map (some w.heap.size)) (w.alloc (.map #[] 0)) := fun w => rfl
  go_enter Try.func11, Try.ntmps11
  go_wp2
  go_ret
  refine ⟨w.heap.size + 1, w.heap.size, rfl, ⟨?_, ⟨#[], 0, ?_, MapOK.empty _ _ _, rfl⟩, ⟨by simp, by simp⟩, by omega⟩, by omega, by omega, ((Below.refl _ _).alloc (Nat.le_refl _) _).alloc (by simp) _⟩
  · have := heap_alloc_new (w.alloc (.map #[] 0)) (.cells #[.map (some w.heap.size)] 110)
    simpa [Blk] using this
  · have h1 := heap_alloc_new w (.map #[] 0)
    have h2 := Below.heap_alloc (w.alloc (.map #[] 0)) (.cells #[.map (some w.heap.size)] 110) w.heap.size (by simp)
    exact h2.trans h1
set_option maxRecDepth 100000 in
theorem mlen_any (g b : Nat) (L : MarksL) (w : World) (h : MarksAt w g b L) :
    Calls Try.prog 17 #[.pointer (some ⟨g, 0, none⟩)] w fun e w' => e = .returned (.int .i64 L.length) ∧ w = w' := by
  obtain ⟨hb1, ⟨es, clock, h3, h4, h5⟩, h6, h7⟩ := h
  have c1 : w.cell? ⟨g, 0, none⟩ = some (.map (some b)) := hb1.at_ rfl
  have e : es.size = L.length := by rw [← kvs_length, h5]; simp [encM]
  have hl := fun ty => run_len_map w 108 ty b es clock Try.underlying108 h3
  simp only [e] at hl
  clear hb1 h3 h4 h5 h6 h7 e
  go_enter Try.func17, Try.ntmps17
  go_wp2
  go_ret
  exact ⟨rfl, rfl⟩

set_option maxRecDepth 100000 in
set_option maxHeartbeats 1000000 in
theorem mget_any (g b : Nat) (L : MarksL) (p : MKey) (w : World) (h : MarksAt w g b L) (hp : MKOK p) :
    Calls Try.prog 15 #[.pointer (some ⟨g, 0, none⟩), .int .i64 p.1, .agg (p.2.map B).toArray] w fun e w' => e = .returned (.tuple #[markA ((lookM L p).getD noMrk), .bool (lookM L p).isSome]) ∧ Below w.heap.size w w' := by
  obtain ⟨c, hc, hce, -⟩ := h.look hp
  rw [← hce]
  obtain ⟨ok, hok⟩ : ∃ ok, ok = (lookM L p).isSome := ⟨_, rfl⟩
  rw [← hok]
  have hlk : ∀ w', MarksAt w' g b L → (Instr.lookup 108 (.map (some b)) (mkA p) true).run Try.prog w' = .ok (.tuple #[markA c, .bool ok]) w' := by
    intro w' h'
    obtain ⟨c', _, e, h2⟩ := h'.look hp
    rw [hce, ← e, hok]; exact h2
  have HLK := Lib.hid hlk
  have HC := Lib.hid h
  have HX := Lib.hid (show (p.2.map B).length = 32 by rw [List.length_map, hp.2])
  have HCL := Lib.hid (markV_length hc)
  have HC1 := Lib.hid (markV_one c)
  have HCC := Lib.hid (fun w => mclone_any c w hc)
  have HKB := Lib.hid (build_mkey hp)
  have HNL := Lib.hid (markV_length noMrk_ok)
  clear hok hce hp hlk hc
  obtain ⟨pi, hpi⟩ : ∃ pi, pi = p.1 := ⟨_, rfl⟩
  obtain ⟨ys, hys⟩ : ∃ ys, ys = p.2.map B := ⟨_, rfl⟩
  obtain ⟨xs, hxs⟩ : ∃ xs, xs = mkV p := ⟨_, rfl⟩
  obtain ⟨cs, hcs⟩ : ∃ cs, cs = markV c := ⟨_, rfl⟩
  rw [markA, ← hcs]
  rw [markA, ← hcs, mkA, ← hxs] at HLK
  rw [markA, ← hcs] at HCC
  rw [← hcs] at HCL HC1
  rw [← hpi, ← hys] at HKB ⊢
  rw [← hxs] at HKB
  rw [← hys] at HX
  clear hxs hcs hpi hys
  obtain ⟨z, hz⟩ : ∃ z, z = w.heap.size := ⟨_, rfl⟩
  have hg : g < z := by rw [hz]; exact h.ltg
  have hb : b < z := by rw [hz]; exact h.ltb
  have HZ := Lib.hid hz
  rw [← hz]
  clear h hz
  go_enter Try.func15, Try.ntmps15
  go_wp2_with (first | (with_reducible refine wpl_box (o := ⟨some 5, _, _, _, _, _⟩) rfl rfl rfl ?_))
  intro w1 hb1 hbw1 hsz1
  rw [← HZ.out] at hb1 hbw1 hsz1 ⊢
  go_wp2_with (first | (with_reducible refine wpl_alloc (o := ⟨some 6, _, _, _, _, _⟩) rfl rfl zero_mark ?_))
  intro w2 hb2 hbw2 hsz2
  have HB1 := Lib.hid (hb1.below hbw2 (by omega))
  have HB2 := Lib.hid hb2
  have HBW := Lib.hid (hbw1.trans (hbw2.mono (by omega)))
  have HSZ := Lib.hid hsz2
  have HC2 := Lib.hid (HC.out.below HBW.out hg hb)
  clear hb1 hb2 hbw1 hbw2 hsz1 hsz2 HC
  repeat' (first | (with_reducible refine wp_phase (id := 1) (newC w2 39 (markV noMrk) cs) [11, 12] [(0,2),(0,2),(0,2),(0,2),(0,2),(0,2),(0,2),(0,2),(0,2),(0,2),(0,2),(0,0),(1,1),(0,2)] (by kernel_rfl) (by kernel_rfl) ?_ ?_) | go_values | go_skip | go_guarded | go_step | go_upon | go_back)
  · exact newC.start
  have HF := Lib.hid (show ∀ k w', newC w2 39 (markV noMrk) cs k w' → w'.cell? ⟨g, 0, none⟩ = some (.map (some b)) from fun k w' h => (HC2.out.call (newC.low k w' h)).blk.at_ rfl)
  have HL := Lib.hid (show ∀ k w', newC w2 39 (markV noMrk) cs k w' → (Instr.lookup 108 (.map (some b)) (.agg xs.toArray) true).run Try.prog w' = .ok (.tuple #[.agg cs.toArray, .bool ok]) w' from fun k w' h => HLK.out w' (HC2.out.call (newC.low k w' h)))
  have HX1 := Lib.hid (show ∀ k w', newC w2 39 (markV noMrk) cs k w' → Blk w' z 29 ys from fun k w' h => HB1.out.call (newC.low k w' h))
  refine ph_value rfl (by first | rfl | go_simp) (fun k_ _ _ w_ hC_ => by first | (go_simp; rfl) | (go_simp; done) | rfl) (fun K hK => ?_)
  go_simp
  refine hK _ ?_
  clear hK K
  refine ph_value rfl (by first | rfl | go_simp) (fun k_ _ _ w_ hC_ => by first | (go_simp; rfl) | (go_simp; done) | rfl) (fun K hK => ?_)
  go_simp
  refine hK _ ?_
  clear hK K
  refine ph_value rfl (by first | rfl | go_simp) (fun k_ _ _ w_ hC_ => by first | (go_simp; rfl) | (go_simp; done) | rfl) (fun K hK => ?_)
  go_simp
  refine hK _ ?_
  clear hK K
  refine ph_value rfl (by first | rfl | go_simp) (fun k_ _ _ w_ hC_ => by have c1 := HF.out _ _ hC_; first | (go_simp; rfl) | (go_simp; done) | rfl) (fun K hK => ?_)
  go_simp
  refine hK _ ?_
  clear hK K
  refine ph_value rfl (by first | rfl | go_simp) (fun k_ _ _ w_ hC_ => by first | (go_simp; rfl) | (go_simp; done) | rfl) (fun K hK => ?_)
  go_simp
  refine hK _ ?_
  clear hK K
  refine ph_load rfl rfl rfl row_aid (fun k _ _ w h => HX1.out k w h) rfl HX.out ?_
  (intro K hK; go_simp; refine hK _ ?_; clear hK K)
  refine ph_value rfl (by first | rfl | go_simp) (fun k_ _ _ w_ hC_ => exec_build rfl HKB.out w_) (fun K hK => ?_)
  go_simp
  refine hK _ ?_
  clear hK K
  refine ph_value rfl (by first | rfl | go_simp) (fun k_ _ _ w_ hC_ => by have c1 := HL.out _ _ hC_; first | (go_simp; rfl) | (go_simp; done) | rfl) (fun K hK => ?_)
  go_simp
  refine hK _ ?_
  clear hK K
  refine ph_value rfl (by first | rfl | go_simp) (fun k_ _ _ w_ hC_ => by first | (go_simp; rfl) | (go_simp; done) | rfl) (fun K hK => ?_)
  go_simp
  refine hK _ ?_
  clear hK K
  refine ph_value rfl (by first | rfl | go_simp) (fun k_ _ _ w_ hC_ => by first | (go_simp; rfl) | (go_simp; done) | rfl) (fun K hK => ?_)
  go_simp
  refine hK _ ?_
  clear hK K
  refine ph_value rfl (by first | rfl | go_simp) (fun k_ _ _ w_ hC_ => by first | (go_simp; rfl) | (go_simp; done) | rfl) (fun K hK => ?_)
  go_simp
  refine hK _ ?_
  clear hK K
  refine ph_alloc 0 rfl rfl rfl rfl rfl zero_mark newC.lay ?_
  (intro K hK; go_simp; refine hK _ ?_; clear hK K)
  refine ph_store 1 rfl rfl rfl rfl rfl row_mark rfl rfl HCL.out HC1.out (newC.put HNL.out) ?_
  (intro K hK; go_simp; refine hK _ ?_; clear hK K)
  refine ph_value rfl (by first | rfl | go_simp) (fun k_ _ _ w_ hC_ => by first | (go_simp; rfl) | (go_simp; done) | rfl) (fun K hK => ?_)
  go_simp
  refine hK _ ?_
  clear hK K
  refine ph_nil ?_
  intro w3 ⟨hl3, hs3, hx3⟩
  have H3X := Lib.hid hx3
  have H3R := Lib.hid (HB2.out.call hl3)
  have HL3 := Lib.hid (HBW.out.trans (hl3.mono (by rw [HSZ.out]; omega)))
  have HS3 := Lib.hid (show z + 3 = w3.heap.size by rw [hs3, HSZ.out])
  rw [HSZ.out] at H3X ⊢
  clear hl3 hs3 hx3 HF HL HX1 HC2 HB1 HB2 HBW HLK
  go_wp2_with (first | (with_reducible refine wpl_loadb (o := ⟨some 21, _, _, _, _, _⟩) rfl rfl row_mark H3X.out rfl HCL.out ?_))
  refine (HCC.out _).mono ?_
  rintro e w4 ⟨rfl, hb4⟩
  have H4R := Lib.hid (H3R.out.call hb4)
  have HL4 := Lib.hid (HL3.out.trans (hb4.mono (by have := HS3.out; omega)))
  have HS4 := Lib.hid (show z + 3 ≤ w4.heap.size by have := HS3.out; have := hb4.size; omega)
  clear hb4 H3R HL3
  go_wp2_with (first | (with_reducible refine wpl_storeb (o := ⟨none, .store _ _ _, _, _, _, _⟩) rfl rfl row_mark H4R.out rfl rfl HNL.out HCL.out HC1.out ?_))
  intro w5 hb5 hg5 hs5
  have H5R := Lib.hid hb5
  have HL5 := Lib.hid (HL4.out.grown hg5 (by have := HS4.out; omega) (fun k hk => by cases hk; omega))
  clear hb5 hg5 hs5
  go_wp2_with fail
  refine ret_cell_tmp rfl row_mark H5R.out rfl HCL.out rfl rfl ?_
  exact ⟨rfl, HL5.out⟩
end Go.Proofs.Ytolbbhbfbpiljaa

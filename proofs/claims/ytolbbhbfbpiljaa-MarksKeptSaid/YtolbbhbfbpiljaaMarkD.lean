/- The contract of marks.Put, for marks without a path. -/
import Derived.Test.YtolbbhbfbpiljaaMarkC
namespace Go.Proofs.Ytolbbhbfbpiljaa
open Go.RowKit
set_option linter.unusedVariables false

def putM (L : MarksL) (k : MKey) (m : Mrk) : Int :=
  if k.1 ≠ 0 ∧ k.1 ≠ 1 then 1 else if rightM m = false then 16 else if (lookM L k).isSome then 24 else if 128 ≤ L.length then 18 else 0

/-- The phases of 'm[key] = clone(x)': before it, behind it. -/
def updC (w0 : World) (b : Nat) (o : Obj) (k : Nat) (w : World) : Prop := if k = 0 then Below w0.heap.size w0 w else ∃ w1, Below w0.heap.size w0 w1 ∧ w = withBlk w1 b o
theorem updC.start {w0 : World} {b : Nat} {o : Obj} : updC w0 b o 0 w0.drew := by unfold updC; rw [if_pos rfl]; exact Drawn.all (Drawn.one w0)
theorem updC.low {w0 w : World} {b : Nat} {o : Obj} (h : updC w0 b o 0 w) : Below w0.heap.size w0 w := by unfold updC at h; rwa [if_pos rfl] at h
theorem updC.mk {w0 w : World} {b : Nat} {o : Obj} (h : Below w0.heap.size w0 w) : updC w0 b o 0 w := by unfold updC; rwa [if_pos rfl]
theorem updC.put {w0 w : World} {b : Nat} {o : Obj} (h : updC w0 b o 0 w) : updC w0 b o 1 (withBlk w b o) := by unfold updC; rw [if_neg (by omega)]; exact ⟨w, h.low, rfl⟩
theorem updC.blk {w0 w : World} {b : Nat} {o : Obj} {k g : Nat} {t : TypeId} {cs : List Value} (h : updC w0 b o k w) (hb : Blk w0 g t cs) (hg : g ≠ b) : Blk w g t cs := by
  unfold updC at h
  split at h
  · exact hb.call h
  · obtain ⟨w1, h1, rfl⟩ := h
    exact (hb.call h1).grown (withBlk_grown _ _ _) (by simpa using hg)

set_option maxRecDepth 100000 in
set_option maxHeartbeats 4000000 in
theorem mput_any (g b : Nat) (L : MarksL) (p : MKey) (m : Mrk) (w : World) (h : MarksAt w g b L) (hp : MKOK p) (hm : m.ok) :
    Calls Try.prog 12 #[.pointer (some ⟨g, 0, none⟩), .int .i64 p.1, .agg (p.2.map B).toArray, markA m] w fun e w' => e = .returned (.int .i64 (putM L p m)) ∧ Touched [b] w w' ∧
      (putM L p m = 0 → MarksAt w' g b (L ++ [(p, m)])) ∧ (putM L p m ≠ 0 → MarksAt w' g b L) := by
  obtain ⟨c, hc, hce, -⟩ := h.look hp
  obtain ⟨ok, hok⟩ : ∃ ok, ok = (lookM L p).isSome := ⟨_, rfl⟩
  have hlk : ∀ w', MarksAt w' g b L → (Instr.lookup 108 (.map (some b)) (mkA p) true).run Try.prog w' = .ok (.tuple #[markA c, .bool ok]) w' := by
    intro w' h'
    obtain ⟨c', _, e, h2⟩ := h'.look hp
    rw [hce, ← e, hok]; exact h2
  have HLK := Lib.hid hlk
  have HC := Lib.hid h
  have HP := Lib.hid hp; have HM := Lib.hid hm
  have HX := Lib.hid (show (p.2.map B).length = 32 by rw [List.length_map, hp.2])
  have HCL := Lib.hid (markV_length hc)
  have HC1 := Lib.hid (markV_one c)
  have HML := Lib.hid (markV_length hm)
  have HKB := Lib.hid (build_mkey hp)
  have HNL := Lib.hid (markV_length noMrk_ok)
  have HR := Lib.hid (fun w => mright_any m w hm)
  have HCC := Lib.hid (fun w => mclone_any m w hm)
  obtain ⟨r, hr⟩ : ∃ r, r = putM L p m := ⟨_, rfl⟩
  rw [← hr]
  have HRR := Lib.hid hr
  have HOK := Lib.hid hok
  obtain ⟨rm, hrm⟩ : ∃ rm, rm = rightM m := ⟨_, rfl⟩
  rw [← hrm] at HR
  have HRM := Lib.hid hrm
  have hpw := hp.1
  clear hok hce hp hlk hc hm hr hrm
  obtain ⟨pi, hpi⟩ : ∃ pi, pi = p.1 := ⟨_, rfl⟩
  obtain ⟨ys, hys⟩ : ∃ ys, ys = p.2.map B := ⟨_, rfl⟩
  obtain ⟨xs, hxs⟩ : ∃ xs, xs = mkV p := ⟨_, rfl⟩
  obtain ⟨cs, hcs⟩ : ∃ cs, cs = markV c := ⟨_, rfl⟩
  obtain ⟨ms, hms⟩ : ∃ ms, ms = markV m := ⟨_, rfl⟩
  rw [markA, ← hcs, mkA, ← hxs] at HLK
  rw [← hcs] at HCL HC1
  rw [markA, ← hms] at HR HCC ⊢
  rw [← hms] at HML
  rw [← hpi, ← hys] at HKB ⊢
  rw [← hxs] at HKB
  rw [← hys] at HX
  rw [← hpi] at hpw
  have HPE := Lib.hid hpi
  have HXE := Lib.hid hxs
  have HME := Lib.hid hms
  clear hxs hcs hpi hys hms
  obtain ⟨z, hz⟩ : ∃ z, z = w.heap.size := ⟨_, rfl⟩
  have hg : g < z := by rw [hz]; exact h.ltg
  have hb : b < z := by rw [hz]; exact h.ltb
  have HZ := Lib.hid hz
  clear h hz
  go_enter Try.func12, Try.ntmps12
  go_wp2_with (first | (with_reducible refine wpl_box (o := ⟨some 6, _, _, _, _, _⟩) rfl rfl rfl ?_))
  intro w1 hb1 hbw1 hsz1
  rw [← HZ.out] at hb1 hbw1 hsz1 ⊢
  go_wp2_with (first | (with_reducible refine wpl_box (o := ⟨some 7, _, _, _, _, _⟩) rfl rfl rfl ?_))
  intro w2 hb2 hbw2 hsz2
  have HB1 := Lib.hid (hb1.below hbw2 (by omega))
  have HB2 := Lib.hid hb2
  have HBW := Lib.hid (hbw1.trans (hbw2.mono (by omega)))
  have HSZ := Lib.hid hsz2
  have HC2 := Lib.hid (HC.out.below HBW.out hg hb)
  clear hb1 hb2 hbw1 hbw2 hsz1 hsz2 HC
  repeat' (first | (with_reducible refine wp_phase (id := 1) (newC w2 39 (markV noMrk) cs) [11, 12] [(0,2),(0,2),(0,2),(0,2),(0,2),(0,2),(0,2),(0,2),(0,2),(0,2),(0,2),(0,0),(1,1),(0,2)] (by kernel_rfl) (by kernel_rfl) ?_ ?_) | go_values | go_skip | go_guarded | go_step | go_upon | go_back)
  · exact newC.start
  have HF := Lib.hid (show ∀ k w', newC w2 39 (markV noMrk) cs k w' → w'.cell? ⟨g, 0, none⟩ = some (.map (some b)) from fun k w' h => (HC2.out.call (newC.low k w' h)).blk.at_ rfl)
  have HL := Lib.hid (show ∀ k w', newC w2 39 (markV noMrk) cs k w' → (Instr.lookup 108 (.map (some b)) (.agg xs.toArray) true).run Try.prog w' = .ok (.tuple #[.agg cs.toArray, .bool ok]) w' from fun k w' h => HLK.out w' (HC2.out.call (newC.low k w' h)))
  have HX1 := Lib.hid (show ∀ k w', newC w2 39 (markV noMrk) cs k w' → Blk w' z 29 ys from fun k w' h => HB1.out.call (newC.low k w' h))
  refine ph_value rfl (by first | rfl | go_simp) (fun k_ _ _ w_ hC_ => by first | (go_simp; rfl) | (go_simp; done) | rfl) (fun K hK => ?_)
  go_simp
  refine hK _ ?_
  clear hK K
  refine ph_value rfl (by first | rfl | go_simp) (fun k_ _ _ w_ hC_ => by first | (go_simp; rfl) | (go_simp; done) | rfl) (fun K hK => ?_)
  go_simp
  refine hK _ ?_
  clear hK K
  refine ph_value rfl (by first | rfl | go_simp) (fun k_ _ _ w_ hC_ => by first | (go_simp; rfl) | (go_simp; done) | rfl) (fun K hK => ?_)
  go_simp
  refine hK _ ?_
  clear hK K
  refine ph_value rfl (by first | rfl | go_simp) (fun k_ _ _ w_ hC_ => by have c1 := HF.out _ _ hC_; first | (go_simp; rfl) | (go_simp; done) | rfl) (fun K hK => ?_)
  go_simp
  refine hK _ ?_
  clear hK K
  refine ph_value rfl (by first | rfl | go_simp) (fun k_ _ _ w_ hC_ => by first | (go_simp; rfl) | (go_simp; done) | rfl) (fun K hK => ?_)
  go_simp
  refine hK _ ?_
  clear hK K
  refine ph_load rfl rfl rfl row_aid (fun k _ _ w h => HX1.out k w h) rfl HX.out ?_
  (intro K hK; go_simp; refine hK _ ?_; clear hK K)
  refine ph_value rfl (by first | rfl | go_simp) (fun k_ _ _ w_ hC_ => exec_build rfl HKB.out w_) (fun K hK => ?_)
  go_simp
  refine hK _ ?_
  clear hK K
  refine ph_value rfl (by first | rfl | go_simp) (fun k_ _ _ w_ hC_ => by have c1 := HL.out _ _ hC_; first | (go_simp; rfl) | (go_simp; done) | rfl) (fun K hK => ?_)
  go_simp
  refine hK _ ?_
  clear hK K
  refine ph_value rfl (by first | rfl | go_simp) (fun k_ _ _ w_ hC_ => by first | (go_simp; rfl) | (go_simp; done) | rfl) (fun K hK => ?_)
  go_simp
  refine hK _ ?_
  clear hK K
  refine ph_value rfl (by first | rfl | go_simp) (fun k_ _ _ w_ hC_ => by first | (go_simp; rfl) | (go_simp; done) | rfl) (fun K hK => ?_)
  go_simp
  refine hK _ ?_
  clear hK K
  refine ph_value rfl (by first | rfl | go_simp) (fun k_ _ _ w_ hC_ => by first | (go_simp; rfl) | (go_simp; done) | rfl) (fun K hK => ?_)
  go_simp
  refine hK _ ?_
  clear hK K
  refine ph_alloc 0 rfl rfl rfl rfl rfl zero_mark newC.lay ?_
  (intro K hK; go_simp; refine hK _ ?_; clear hK K)
  refine ph_store 1 rfl rfl rfl rfl rfl row_mark rfl rfl HCL.out HC1.out (newC.put HNL.out) ?_
  (intro K hK; go_simp; refine hK _ ?_; clear hK K)
  refine ph_value rfl (by first | rfl | go_simp) (fun k_ _ _ w_ hC_ => by first | (go_simp; rfl) | (go_simp; done) | rfl) (fun K hK => ?_)
  go_simp
  refine hK _ ?_
  clear hK K
  refine ph_nil ?_
  intro w3 ⟨hl3, hs3, hx3⟩
  have HB1' := Lib.hid (HB1.out.call hl3)
  have HB2' := Lib.hid (HB2.out.call hl3)
  have HL3 := Lib.hid (HBW.out.trans (hl3.mono (by rw [HSZ.out]; omega)))
  have HS3 := Lib.hid (show z + 3 = w3.heap.size by rw [hs3, HSZ.out])
  have HC3 := Lib.hid (HC2.out.call hl3)
  clear hl3 hs3 hx3 HF HL HX1 HC2 HB1 HB2 HBW HLK
  generalize w2.heap.size = xa
  have HT3 := Lib.hid (Touched.of_below (l := [b]) (show Below w.heap.size w w3 by rw [← HZ.out]; exact HL3.out))
  by_cases h1 : pi ≠ 0 ∧ pi ≠ 1
  · have e : r = 1 := by rw [HRR.out, putM, if_pos (by rw [← HPE.out]; exact h1)]
    have HE := Lib.hid e; clear e
    have b1 : (pi != 0) = true := bne_iff_ne.2 h1.1
    have b2 : (pi != 1) = true := bne_iff_ne.2 h1.2
    go_wp2_with fail
    go_ret
    exact ⟨ret_int HE.out.symm, HT3.out, fun h => by have := HE.out; omega, fun _ => HC3.out⟩
  have hN1 : ¬ (p.1 ≠ 0 ∧ p.1 ≠ 1) := by rw [← HPE.out]; exact h1
  have HN1 := Lib.hid hN1
  clear hN1
  have hp01 : pi = 0 ∨ pi = 1 := by omega
  clear h1
  have HPIE := Lib.hid hp01
  have WALK : ∀ (Q : Exit → Act → World → Prop), True := fun _ => trivial
  clear WALK
  have hsel : ((pi != 0) = false) ∨ ((pi != 0) = true ∧ (pi != 1) = false) := by rcases hp01 with rfl | rfl <;> simp
  clear hp01
  rcases hsel with b1 | ⟨b1, b2⟩
  all_goals
    go_wp2_with (first | (with_reducible refine wpl_loadb (o := ⟨some 30, _, _, _, _, _⟩) rfl rfl row_mark HB2'.out rfl HML.out ?_))
    refine (HR.out _).mono ?_
    rintro e w4 ⟨rfl, hb4⟩
    have HB1q := Lib.hid (HB1'.out.call hb4)
    have HB2q := Lib.hid (HB2'.out.call hb4)
    have HC4 := Lib.hid (HC3.out.call hb4)
    have HT4 := Lib.hid (HT3.out.step hb4)
    clear hb4 HB1' HB2' HC3 HT3 HL3
    cases rm with
    | false =>
      have e : r = 16 := by rw [HRR.out, putM, if_neg HN1.out, if_pos HRM.out.symm]
      have HE := Lib.hid e; clear e
      go_wp2_with fail
      go_ret
      exact ⟨ret_int HE.out.symm, HT4.out, fun h => by have := HE.out; omega, fun _ => HC4.out⟩
    | true =>
      have hN2 : ¬ rightM m = false := by rw [← HRM.out]; simp
      have HN2 := Lib.hid hN2; clear hN2
      cases ok with
      | true =>
        have e : r = 24 := by rw [HRR.out, putM, if_neg HN1.out, if_neg HN2.out, ← HOK.out, if_pos rfl]
        have HE := Lib.hid e; clear e
        go_wp2_with fail
        go_ret
        exact ⟨ret_int HE.out.symm, HT4.out, fun h => by have := HE.out; omega, fun _ => HC4.out⟩
      | false =>
        have c3 : w4.cell? ⟨g, 0, none⟩ = some (.map (some b)) := HC4.out.blk.at_ rfl
        obtain ⟨es, clock, hm1, hm2, hm3⟩ := HC4.out.map
        have ee : es.size = L.length := by rw [← kvs_length, hm3]; simp [encM]
        have hl := fun ty => run_len_map w4 108 ty b es clock Try.underlying108 hm1
        simp only [ee] at hl
        obtain ⟨n, hn⟩ : ∃ n, n = L.length := ⟨_, rfl⟩
        rw [← hn] at hl
        have HM1 := Lib.hid hm1; have HM2 := Lib.hid hm2; have HM3 := Lib.hid hm3
        have HNL2 := Lib.hid hn
        clear hm1 hm2 hm3 ee hn
        by_cases h5 : 128 ≤ n
        · have e : r = 18 := by rw [HRR.out, putM, if_neg HN1.out, if_neg HN2.out, ← HOK.out, if_neg (by simp), ← HNL2.out, if_pos h5]
          have HE := Lib.hid e; clear e
          go_wp2_with fail
          go_ret
          exact ⟨ret_int HE.out.symm, HT4.out, fun h => by have := HE.out; omega, fun _ => HC4.out⟩
        have e : r = 0 := by rw [HRR.out, putM, if_neg HN1.out, if_neg HN2.out, ← HOK.out, if_neg (by simp), ← HNL2.out, if_neg h5]
        have HE := Lib.hid e; clear e
        obtain ⟨lx, hx⟩ := keyOf_mk p HP.out
        have hno : ∀ q ∈ kvs es, q.1 ≠ mkA p := by
          intro q hq e
          rw [HM3.out] at hq
          obtain ⟨en, hen, rfl⟩ := List.mem_map.1 hq
          exact lookM_none HOK.out.symm en hen (mkA_inj e)
        have hlo : LMOK (L ++ [(p, m)]) := by
          refine ⟨fun e he => ?_, ?_⟩
          · rcases List.mem_append.1 he with he | he
            · exact HC4.out.ok.1 e he
            · have : e = (p, m) := by simpa using he
              subst this; exact ⟨HP.out, HM.out⟩
          · rw [List.map_append, List.nodup_append]
            refine ⟨HC4.out.ok.2, by simp, fun a ha b' hb' e => ?_⟩
            obtain ⟨en, hen, rfl⟩ := List.mem_map.1 ha
            have hb2 : b' = p := by simpa using hb'
            exact lookM_none HOK.out.symm en hen (e.trans hb2)
        have HXK := Lib.hid hx; have HNO := Lib.hid hno; have HLO := Lib.hid hlo
        clear hx hno hlo
        go_wp2_with fail
        clear hl
        repeat' (first | (with_reducible refine wp_phase (id := 10) (updC w4 b (.map (es.push { key := .agg xs.toArray, val := .agg ms.toArray, born := clock }) (clock + 1))) [9] [(0,0),(0,0),(0,0),(0,0),(0,0),(0,0),(0,0),(0,0),(0,0),(0,0)] (by kernel_rfl) (by kernel_rfl) ?_ ?_) | go_values | go_skip | go_guarded | go_step | go_upon | go_back)
        · exact updC.start
        clear c3
        have hgb := HC4.out.ne
        have HF := Lib.hid (show ∀ k w', updC w4 b (.map (es.push { key := .agg xs.toArray, val := .agg ms.toArray, born := clock }) (clock + 1)) k w' → w'.cell? ⟨g, 0, none⟩ = some (.map (some b)) from fun k w' h => (h.blk HC4.out.blk hgb).at_ rfl)
        have HX1 := Lib.hid (show ∀ k w', updC w4 b (.map (es.push { key := .agg xs.toArray, val := .agg ms.toArray, born := clock }) (clock + 1)) k w' → Blk w' z 29 ys from fun k w' h => h.blk HB1q.out (by omega))
        have HX2 := Lib.hid (show ∀ k w', updC w4 b (.map (es.push { key := .agg xs.toArray, val := .agg ms.toArray, born := clock }) (clock + 1)) k w' → Blk w' (z + 1) 39 ms from fun k w' h => h.blk HB2q.out (by omega))
        have HU := Lib.hid (show ∀ w', updC w4 b (.map (es.push { key := .agg xs.toArray, val := .agg ms.toArray, born := clock }) (clock + 1)) 0 w' → (Instr.mapUpdate 108 (.map (some b)) (.agg xs.toArray) (.agg ms.toArray)).run Try.prog w' = .ok () (withBlk w' b (.map (es.push { key := .agg xs.toArray, val := .agg ms.toArray, born := clock }) (clock + 1))) from fun w' h => by
          have h1 := run_mapUpdate_no kl_mkey Try.underlying108 ((h.low.block b HC4.out.ltb).trans HM1.out) HM2.out HXK.out HNO.out (.agg ms.toArray)
          rw [HXE.out]; exact h1)
        have HCC2 := Lib.hid (show ∀ w', updC w4 b (.map (es.push { key := .agg xs.toArray, val := .agg ms.toArray, born := clock }) (clock + 1)) 0 w' → Calls Try.prog 50 #[.agg ms.toArray] w' (fun e w'' => e = .returned (.agg ms.toArray) ∧ updC w4 b (.map (es.push { key := .agg xs.toArray, val := .agg ms.toArray, born := clock }) (clock + 1)) 0 w'') from fun w' h => (HCC.out w').mono fun e w'' ⟨he, hb⟩ => ⟨he, updC.mk (below_step h.low h.low.size hb)⟩)
        clear hgb
        refine ph_value rfl (by first | rfl | go_simp) (fun k_ _ _ w_ hC_ => by first | (go_simp; rfl) | (go_simp; done) | rfl) (fun K hK => ?_)
        go_simp
        refine hK _ ?_
        clear hK K
        refine ph_value rfl (by first | rfl | go_simp) (fun k_ _ _ w_ hC_ => by first | (go_simp; rfl) | (go_simp; done) | rfl) (fun K hK => ?_)
        go_simp
        refine hK _ ?_
        clear hK K
        refine ph_value rfl (by first | rfl | go_simp) (fun k_ _ _ w_ hC_ => by first | (go_simp; rfl) | (go_simp; done) | rfl) (fun K hK => ?_)
        go_simp
        refine hK _ ?_
        clear hK K
        refine ph_value rfl (by first | rfl | go_simp) (fun k_ _ _ w_ hC_ => by have c1 := HF.out _ _ hC_; first | (go_simp; rfl) | (go_simp; done) | rfl) (fun K hK => ?_)
        go_simp
        refine hK _ ?_
        clear hK K
        refine ph_value rfl (by first | rfl | go_simp) (fun k_ _ _ w_ hC_ => by first | (go_simp; rfl) | (go_simp; done) | rfl) (fun K hK => ?_)
        go_simp
        refine hK _ ?_
        clear hK K
        refine ph_load rfl rfl rfl row_aid (fun k _ _ w h => HX1.out k w h) rfl HX.out ?_
        (intro K hK; go_simp; refine hK _ ?_; clear hK K)
        refine ph_value rfl (by first | rfl | go_simp) (fun k_ _ _ w_ hC_ => exec_build rfl HKB.out w_) (fun K hK => ?_)
        go_simp
        refine hK _ ?_
        clear hK K
        refine ph_load rfl rfl rfl row_mark (fun k _ _ w h => HX2.out k w h) rfl HML.out ?_
        (intro K hK; go_simp; refine hK _ ?_; clear hK K)
        refine ph_call (v := .agg ms.toArray) (f := 50) (args := #[.agg ms.toArray]) rfl (by first | rfl | go_simp) (fun w => by first | rfl | (go_simp; rfl) | go_simp) (fun k hk1 hk2 w h => by
          obtain rfl : k = 0 := Nat.le_zero.1 hk2
          exact HCC2.out w h) ?_
        (intro K hK; go_simp; refine hK _ ?_; clear hK K)
        refine ph_runs 0 rfl rfl rfl (by first | rfl | go_simp) (fun w' hC => ⟨_, by (have hrun := HU.out w' hC); first | (go_simp; rfl) | (go_simp; exact ⟨rfl, rfl⟩) | go_simp, hC.put⟩) ?_
        (intro K hK; go_simp; refine hK _ ?_; clear hK K)
        refine ph_nil ?_
        intro w5 hC5
        have HC5 := Lib.hid (show ∃ w1, Below w4.heap.size w4 w1 ∧ w5 = withBlk w1 b (.map (es.push { key := .agg xs.toArray, val := .agg ms.toArray, born := clock }) (clock + 1)) by unfold updC at hC5; rwa [if_neg (by decide)] at hC5)
        clear hC5
        obtain ⟨w6, hw6, rfl⟩ := HC5.out
        have HW6 := Lib.hid hw6
        clear hw6 HC5 HF HX1 HX2 HU
        go_wp2_with fail
        go_ret
        have hgr := withBlk_grown w6 b (.map (es.push { key := .agg xs.toArray, val := .agg ms.toArray, born := clock }) (clock + 1))
        refine ⟨ret_int HE.out.symm, (HT4.out.step HW6.out).grown hgr (.inl (by simp)), fun _ => ⟨(HC4.out.blk.call HW6.out).grown hgr (by simpa using HC4.out.ne), ⟨_, _, withBlk_heap ((HW6.out.block b HC4.out.ltb).trans HM1.out), ?_, ?_⟩, HLO.out, HC4.out.ne⟩, fun h => absurd HE.out h⟩
        · have := HM2.out.push HXK.out HNO.out (.agg ms.toArray)
          rw [mkA, ← HXE.out] at this; exact this
        · rw [kvs_push, HM3.out, HXE.out, HME.out]
          simp [encM, mkA, markA]
end Go.Proofs.Ytolbbhbfbpiljaa

/- Contracts of sha.bytes, sha.step. -/
import Derived.Test.YtlondennhhffdaaDoorShaA
namespace Go.Proofs.YtlondennhhffdaaDoor
open Go.RowKit
attribute [local go_sem ↓ high] add_w
attribute [local go_sem high] xor_w and_w or_w not_w shr_w shl_w wrap_b8
set_option linter.unusedVariables false

theorem info_u8 : (Tryd.prog.info? 5).map (fun i => (i.zero, i.size, i.bytes)) = some (some (.int .u8 0), 1, 1) := by kernel_rfl
theorem el_u8 : ElemT Tryd.prog 22 5 1 1 := elemT Tryd.underlying22 info_u8 rfl (by omega)

theorem bytes_any (v n : Nat) (w : World) (hv : v < 18446744073709551616) (hn : 1 ≤ n) (hn2 : n ≤ 8) :
    Calls Tryd.prog 48 #[.int .u64 v, .int .i64 n] w fun e w' => ∃ g, e = .returned (.slice (some ⟨g, 0, none⟩) n n) ∧ w'.ownsRow w.heap.size 5 1 (.slice (some ⟨g, 0, none⟩) n n) n ((beBytes v n).map B) ∧ Below w.heap.size w w' := by
  go_enter Tryd.func48, Tryd.ntmps48
  go_wp2_with (at_make; refine wpl_make rfl rfl w.heap.size el_u8 rfl rfl ?_ ?_ ?_ ?_)
  · omega
  · omega
  · exact Nat.le_refl _
  · intro w1 xs0 hown hg
    have hb1 : Below w.heap.size w w1 := (Below.refl _ _).grown hg (Nat.le_refl _) (by intro k hk; cases hk)
    have HB1 := Lib.hid hb1; clear hb1 hg
    have HO := Lib.hid hown; clear hown
    generalize hgd : w.heap.size = g at *
    have HG := Lib.hid hgd; clear hgd
    go_wp2_with fail
    go_loopw [11] (fun i wr => ∃ k : Nat, ∃ xs : List Value, k ≤ n ∧ i = .int .i64 k ∧ Hid (wr.ownsRow g 5 1 (.slice (some ⟨g, 0, none⟩) n n) n xs) ∧ Hid (∀ i, i < k → xs[i]? = some (B (beByte v n i))) ∧ Hid (Below g w wr)) (fun i _ => n - (intOf i).toNat)
    case atStart => exact ⟨0, _, Nat.zero_le _, rfl, HO, fun i hi => absurd hi (by omega), HB1⟩
    case round =>
      obtain ⟨k, xs, hk, rfl, hown, hxs, hbw⟩ := hrel
      by_cases hlt : k < n
      · have hfz := hown.out.frozenAt k
        obtain ⟨u, hcl⟩ := own_cell hown.out (by omega : k < n * 1)
        have s0 : 0 ≤ 8 * ((n : Int) - 1 - k) := by omega
        have s1 : 8 * ((n : Int) - 1 - k) ≤ 64 := by omega
        go_wp2_with fail
        rw [beByte_div]
        have hst := hown.out.stored k (B (beByte v n k))
        go_roundw
        case rel => exact ⟨k + 1, _, by omega, by go_num, hst.1, set_upto (f := fun i => B (beByte v n i)) (by have := hown.out.1; omega) hlt hxs.out, hbw.out.setCell (p := ⟨g, k, none⟩) (Nat.le_refl _) _⟩
        case measure => simp [intOf]; omega
      · go_wp2_with fail
        go_ret
        obtain rfl : k = n := by omega
        have e3 := eq_of_upto (f := fun i => B (beByte v k i)) (by have := hown.out.1; omega) hxs.out
        have h4 := hown.out
        rw [e3] at h4
        exact ⟨g, rfl, by rw [beBytes, List.map_map, HG.out]; exact h4, HG.out ▸ hbw.out⟩

/-- The two tables of the program's text, in memory. -/
structure Tabs (w : World) : Prop where
  first : ∀ j u, (firstSt.toList.map W)[j]? = some u → w.cell? ⟨0, j, none⟩ = some u
  rounds : ∀ j u, (roundKs.map W)[j]? = some u → w.cell? ⟨1, j, none⟩ = some u
theorem Tabs.below {w w' : World} (h : Tabs w) (hb : Below w.heap.size w w') : Tabs w' :=
  ⟨fun j u hu => bcell hb (h.first j u hu), fun j u hu => bcell hb (h.rounds j u hu)⟩
theorem Tabs.round {w : World} (h : Tabs w) {k : Nat} (hk : k < 64) : w.cell? ⟨1, k, none⟩ = some (W (roundKs[k]?.getD 0)) := by
  refine h.rounds k _ ?_
  have : k < roundKs.length := by rw [roundKs_length]; exact hk
  simp [this]
theorem zero_8 : (Tryd.prog.info? 71).map (·.zero) = some (some (.agg (List.replicate 8 (W 0)).toArray)) := by kernel_rfl

theorem one8 {a b c d e f g h : Int} : ∀ u ∈ [Value.int .u32 a, .int .u32 b, .int .u32 c, .int .u32 d, .int .u32 e, .int .u32 f, .int .u32 g, .int .u32 h], u.oneCell' = true := by
  intro u hu
  simp at hu
  rcases hu with rfl | rfl | rfl | rfl | rfl | rfl | rfl | rfl <;> rfl
theorem len8 {a b c d e f g h : Value} : [a, b, c, d, e, f, g, h].length = 8 := rfl

set_option maxRecDepth 100000 in
set_option maxHeartbeats 1000000 in
theorem step_any (h : St) (A : Option Addr) (c : Nat) (bs : List UInt8) (w : World) (hs : Sl w w.heap.size 1 A 64 (bs.map B)) (hc : 64 ≤ c) (ht : Tabs w) :
    Calls Tryd.prog 50 #[.agg (h.toList.map W).toArray, .slice A 64 c] w fun e w' => e = .returned (.agg ((compress roundKs h bs).toList.map W).toArray) ∧ Below w.heap.size w w' := by
  have HS := Lib.hid hs; clear hs
  have HT := Lib.hid ht; clear ht
  have hl8 : ∀ s : St, (s.toList.map W).length = 8 := fun s => by simp [St.length]
  have h18 : ∀ s : St, ∀ u ∈ s.toList.map W, u.oneCell' = true := fun s u hu => by obtain ⟨x, _, rfl⟩ := List.mem_map.1 hu; rfl
  have HL8 := Lib.hid hl8; clear hl8
  have H18 := Lib.hid h18; clear h18
  have H0 := HL8.out h
  obtain ⟨HV, hHV⟩ : ∃ HV, HV = h.toList.map W := ⟨_, rfl⟩
  rw [← hHV] at H0 ⊢
  have HHV := Lib.hid hHV; clear hHV
  have HH0 := Lib.hid H0; clear H0
  go_enter Tryd.func50, Tryd.ntmps50
  go_wp2_with (first | (with_reducible refine wpl_box (o := ⟨some 2, _, _, _, _, _⟩) rfl rfl rfl ?_))
  intro w1 hb1 hbw1 hsz1
  have HB1 := Lib.hid hb1; clear hb1
  have HBW1 := Lib.hid hbw1; clear hbw1
  generalize hgd : w.heap.size = g at *
  have HG := Lib.hid hgd; clear hgd
  have HSZ1 := Lib.hid hsz1; clear hsz1
  go_wp2_with (first | (with_reducible refine wpl_alloc (o := ⟨some 4, _, _, _, _, _⟩) rfl rfl zero_8 ?_))
  intro w2 hb2 hbw2 hsz2
  rw [HSZ1.out] at hb2 hsz2 ⊢
  have HB2 := Lib.hid hb2; clear hb2
  have HSZ2 := Lib.hid hsz2; clear hsz2
  have HB12 := Lib.hid (HB1.out.call hbw2)
  have HBW2 := Lib.hid (below_step HBW1.out (by rw [HSZ1.out]; omega) hbw2); clear hbw2
  go_wp2_with (first | (with_reducible refine wpl_loadb (o := ⟨some 13, _, _, _, _, _⟩) rfl rfl row_8 HB12.out rfl HH0.out ?_) | (with_reducible refine wpl_alloc (o := ⟨some 5, _, _, _, _, _⟩) rfl rfl zero_8 ?_))
  intro w3 hb3 hbw3 hsz3
  rw [HSZ2.out] at hb3 hsz3 ⊢
  have HB13 := Lib.hid (HB12.out.call hbw3)
  have HB23 := Lib.hid (HB2.out.call hbw3)
  have HBW3 := Lib.hid (below_step HBW2.out (by rw [HSZ2.out]; omega) hbw3); clear hbw3
  have HH1 := Lib.hid (show ∀ u ∈ HV, u.oneCell' = true from HHV.out ▸ H18.out h)
  have HB3 := Lib.hid hb3; clear hb3
  have HSZ3 := Lib.hid hsz3; clear hsz3
  go_wp2_with (first | (with_reducible refine wpl_storeb (o := ⟨none, .store _ _ _, _, _, _, _⟩) rfl rfl row_8 HB3.out rfl rfl (by simp) HH0.out HH1.out ?_))
  intro w4 hb4 hg4 hsz4
  have HB14 := Lib.hid (HB13.out.grown hg4 (by simp; omega))
  have HB24 := Lib.hid (HB23.out.grown hg4 (by simp))
  have HBW4 := Lib.hid (HBW3.out.grown hg4 (by rw [HSZ3.out]; omega) (by intro k hk; cases hk; omega))
  have HB4 := Lib.hid hb4; clear hb4 hg4 HB1 HB2 HB12 HB13 HB23 HB3 HBW1 HBW2 HBW3
  rw [HSZ3.out] at hsz4
  have HSZ4 := Lib.hid hsz4; clear hsz4
  go_wp2_with fail
  have hsl := (HS.out.below HBW4.out).more (show g ≤ w4.heap.size by rw [HSZ4.out]; omega)
  refine (sched_any A c bs w4 hsl hc).mono ?_
  rintro e w5 ⟨rfl, hbw5⟩
  have HB15 := Lib.hid (HB14.out.call hbw5)
  have HB25 := Lib.hid (HB24.out.call hbw5)
  have HB5 := Lib.hid (HB4.out.call hbw5)
  have HBW5 := Lib.hid (below_step HBW4.out (by rw [HSZ4.out]; omega) hbw5)
  have HSZ5 := Lib.hid (show g + 3 ≤ w5.heap.size by have := hbw5.size; rw [HSZ4.out] at this; omega)
  clear hbw5 hsl HB14 HB24 HB4 HBW4
  obtain ⟨SA, hSA⟩ : ∃ SA, SA = (sched bs).map W := ⟨_, rfl⟩
  rw [← hSA]
  have hSI : ∀ k, k < 64 → SA[k]? = some (W (sw bs k)) := by
    intro k hk
    rw [hSA, sched_eq]
    simp [hk]
  have hSL : SA.length = 64 := by rw [hSA]; simp [sched_length]
  have HSI := Lib.hid hSI
  have HSL := Lib.hid hSL
  clear hSA hSI hSL
  have HTB := Lib.hid (fun wr (hb : Below g w wr) (k : Nat) (hk : k < 64) => (HT.out.below (HG.out.symm ▸ hb)).round hk)
  have HL8V := Lib.hid (fun k => HL8.out (stN bs h k))
  go_wp2_with fail
  go_loopw [16] (fun i wr => ∃ k : Nat, k ≤ 64 ∧ i = .int .i64 k ∧ Hid (Blk wr (g + 1 + 1) 71 ((stN bs h k).toList.map W)) ∧ Hid (Blk wr g 71 HV) ∧ Hid (Blk wr (g + 1) 71 (List.replicate 8 (W 0))) ∧ Hid (Below g w wr) ∧ Hid (g + 3 ≤ wr.heap.size)) (fun i _ => 64 - (intOf i).toNat)
  case atStart => exact ⟨0, by omega, rfl, by rw [stN, ← HHV.out]; exact HB5, HB15, HB25, HBW5, HSZ5⟩
  case round =>
    obtain ⟨k, hk, rfl, hv, hh, hr, hbw, hsz⟩ := hrel
    by_cases hlt : k < 64
    · have hidx := fun w => run_index_agg (P := Tryd.prog) (T := 92) (e := 70) (k := k) Tryd.underlying92 HSL.out (by kernel_rfl) (by kernel_rfl) (HSI.out k hlt) w
      have htab := HTB.out wr hbw.out k hlt
      generalize hrk : roundKs[k]?.getD 0 = rk at *
      have HRK := Lib.hid hrk; clear hrk
      have HNX := Lib.hid (show stN bs h (k + 1) = roundF (roundKs[k]?.getD 0) (sw bs k) (stN bs h k) by rw [stN])
      generalize hst : stN bs h k = s at *
      have HST := Lib.hid hst; clear hst
      obtain ⟨sa, sb, sc, sd, se, sf, sg, sh⟩ := s
      have c0 : wr.cell? ⟨g + 1 + 1, 0, none⟩ = some (.int .u32 (w32 sa)) := hv.out.at_ rfl
      have c1 : wr.cell? ⟨g + 1 + 1, 1, none⟩ = some (.int .u32 (w32 sb)) := hv.out.at_ rfl
      have c2 : wr.cell? ⟨g + 1 + 1, 2, none⟩ = some (.int .u32 (w32 sc)) := hv.out.at_ rfl
      have c3 : wr.cell? ⟨g + 1 + 1, 3, none⟩ = some (.int .u32 (w32 sd)) := hv.out.at_ rfl
      have c4 : wr.cell? ⟨g + 1 + 1, 4, none⟩ = some (.int .u32 (w32 se)) := hv.out.at_ rfl
      have c5 : wr.cell? ⟨g + 1 + 1, 5, none⟩ = some (.int .u32 (w32 sf)) := hv.out.at_ rfl
      have c6 : wr.cell? ⟨g + 1 + 1, 6, none⟩ = some (.int .u32 (w32 sg)) := hv.out.at_ rfl
      have c7 : wr.cell? ⟨g + 1 + 1, 7, none⟩ = some (.int .u32 (w32 sh)) := hv.out.at_ rfl
      unfold W at htab hidx
      repeat' (first | (with_reducible refine wp_region_quiet_lit (id := 5) (by kernel_rfl) (by kernel_rfl) ?_) | go_values | go_skip | go_guarded | go_step | go_upon | go_back)
      repeat (quiet_step (fail))
      refine wpQuiet_nil ?_
      intro _ hw'
      obtain ⟨nq, hw''⟩ := hw'
      subst hw''
      repeat' (first | (with_reducible refine wp_region_quiet_lit (id := 6) (by kernel_rfl) (by kernel_rfl) ?_) | go_values | go_skip | go_guarded | go_step | go_upon | go_back)
      repeat (quiet_step (fail))
      quiet_step (exact (t6 _ _).mono fun _ _ ⟨he, hw⟩ => ⟨he, _, hw⟩)
      repeat (quiet_step (fail))
      quiet_step (exact (t11 _ _).mono fun _ _ ⟨he, hw⟩ => ⟨he, _, hw⟩)
      repeat (quiet_step (fail))
      quiet_step (exact (t25 _ _).mono fun _ _ ⟨he, hw⟩ => ⟨he, _, hw⟩)
      repeat (quiet_step (fail))
      refine wpQuiet_nil ?_
      intro _ hw'
      obtain ⟨nq, hw''⟩ := hw'
      subst hw''
      repeat' (first | (with_reducible refine wp_region_quiet_lit (id := 7) (by kernel_rfl) (by kernel_rfl) ?_) | go_values | go_skip | go_guarded | go_step | go_upon | go_back)
      repeat (quiet_step (fail))
      quiet_step (exact (t2 _ _).mono fun _ _ ⟨he, hw⟩ => ⟨he, _, hw⟩)
      repeat (quiet_step (fail))
      quiet_step (exact (t13 _ _).mono fun _ _ ⟨he, hw⟩ => ⟨he, _, hw⟩)
      repeat (quiet_step (fail))
      quiet_step (exact (t22 _ _).mono fun _ _ ⟨he, hw⟩ => ⟨he, _, hw⟩)
      repeat (quiet_step (fail))
      refine wpQuiet_nil ?_
      intro _ hw'
      obtain ⟨nq, hw''⟩ := hw'
      subst hw''
      have HS8 := Lib.hid (HL8.out ⟨sa, sb, sc, sd, se, sf, sg, sh⟩)
      go_wp2_with (with_reducible refine wpl_storeb (o := ⟨none, .store _ _ _, _, _, _, _⟩) rfl rfl row_8 (hv.out.drewN _) rfl rfl HS8.out len8 one8 ?_)
      intro w6 hb6 hg6 hsz6
      have hg7 := grown_undrew hg6
      have hb7 : Blk w6 (g + 1 + 1) 71 ((stN bs h (k + 1)).toList.map W) := by
        rw [HNX.out, HRK.out, roundF, tOne, tTwo, big0, big1, chF, majF]
        exact hb6
      have R1 := Lib.hid hb7
      have R2 := Lib.hid (hh.out.grown hg7 (by simp; omega))
      have R3 := Lib.hid (hr.out.grown hg7 (by simp))
      have R4 := Lib.hid (hbw.out.grown hg7 (by have := hsz.out; omega) (by intro k hk; cases hk; omega))
      have R5 := Lib.hid (show g + 3 ≤ w6.heap.size by have := hsz.out; omega)
      clear hb6 hg6 hsz6 hg7 hb7 c0 c1 c2 c3 c4 c5 c6 c7
      repeat' (first | go_values | go_skip | go_guarded | go_step | go_upon | go_back)
      go_roundw
      case rel => exact ⟨k + 1, by omega, by go_num, R1, R2, R3, R4, R5⟩
      case measure => simp [intOf]; omega
    · obtain rfl : k = 64 := by omega
      obtain ⟨wo, rfl⟩ : ∃ wo : World, wo = wr := ⟨_, rfl⟩
      rw [show ((64 : Nat) : Int) = 64 from rfl]
      generalize hst : stN bs h 64 = s at *
      have HST := Lib.hid hst; clear hst
      have hHH : HV = h.toList.map W := HHV.out
      have HHA := Lib.hid (show ∀ i, i < 8 → HV[i]? = some (W (h.at_ i)) from fun i hi => by rw [hHH]; exact h.get_at i hi)
      clear hHH
      go_wp2_with fail
      go_loopw [97] (fun i wr => ∃ k : Nat, ∃ xs : List Value, k ≤ 8 ∧ i = .int .i64 k ∧ Hid (Blk wr (g + 1 + 1) 71 (s.toList.map W)) ∧ Hid (Blk wr g 71 xs) ∧ Hid (xs.length = 8 ∧ (∀ i, i < k → xs[i]? = some (W ((h.add s).at_ i))) ∧ ∀ i, k ≤ i → i < 8 → xs[i]? = some (W (h.at_ i))) ∧ Hid (Blk wr (g + 1) 71 (List.replicate 8 (W 0))) ∧ Hid (Below g w wr) ∧ Hid (g + 3 ≤ wr.heap.size)) (fun i _ => 8 - (intOf i).toNat)
      case atStart => exact ⟨0, HV, by omega, rfl, hv, hh, ⟨HH0.out, fun i hi => absurd hi (by omega), fun i _ hi => HHA.out i hi⟩, hr, hbw, hsz⟩
      case round =>
        clear hv hh hr hbw hsz
        obtain ⟨k, xs, hk, rfl, hv, hh, hxs, hr, hbw, hsz⟩ := hrel
        by_cases hlt : k < 8
        · have cv := hv.out.at_ (s.get_at k hlt)
          have ch := hh.out.at_ (hxs.out.2.2 k (Nat.le_refl _) hlt)
          have hfz := hh.out.frozen k
          have HADD := Lib.hid (h.add_at s k hlt)
          unfold W at cv ch
          repeat' (first | (with_reducible refine wp_tail (id := 13) 8 (by kernel_rfl) (by kernel_rfl) ?_) | go_values | go_skip | go_guarded | go_step | go_upon | go_back)
          intro w7 hd7
          simp only [List.take_succ_cons, List.take_zero, List.drop_succ_cons, List.drop_zero]
          have cv7 := (hd7.cell _).trans cv
          have ch7 := (hd7.cell _).trans ch
          have hv7 := Lib.hid (hd7.blk hv.out)
          have hh7 := Lib.hid (hd7.blk hh.out)
          have hr7 := Lib.hid (hd7.blk hr.out)
          have hb7 := Lib.hid (hd7.below hbw.out)
          have hs7 := Lib.hid (show g + 3 ≤ w7.heap.size by rw [hd7.size]; exact hsz.out)
          clear hd7 cv ch hfz
          repeat still_step
          refine wpStill_nil ?_
          have hfz := hh7.out.frozen k
          repeat' (first | go_values | go_skip | go_guarded | go_step | go_upon | go_back)
          have hb8 := hh7.out.set_ k (W ((h.add s).at_ k))
          rw [show W ((h.add s).at_ k) = .int .u32 (w32 (h.at_ k + s.at_ k)) by rw [HADD.out]; rfl] at hb8
          go_roundw
          case rel =>
            refine ⟨k + 1, _, by omega, by go_num, hv7.out.far (p := ⟨g, k, none⟩) (by simp; omega) _, hb8, ⟨by simp [hxs.out.1], ?_, ?_⟩, hr7.out.far (p := ⟨g, k, none⟩) (by simp) _, hb7.out.setCell (p := ⟨g, k, none⟩) (Nat.le_refl _) _, ?_⟩
            · have := set_upto (f := fun i => W ((h.add s).at_ i)) hxs.out.1 hlt hxs.out.2.1
              rw [show W ((h.add s).at_ k) = .int .u32 (w32 (h.at_ k + s.at_ k)) by rw [HADD.out]; rfl] at this
              exact this
            · intro i hi hi8
              rw [List.getElem?_set, if_neg (by omega)]
              exact hxs.out.2.2 i (by omega) hi8
            · have := hs7.out
              show g + 3 ≤ _
              simpa [World.setCell] using this
          case measure => simp [intOf]; omega
        · obtain rfl : k = 8 := by omega
          have hx := eq_of_upto (f := fun i => W ((h.add s).at_ i)) hxs.out.1 hxs.out.2.1
          have hx2 : xs = (h.add s).toList.map W := by rw [hx, St.list_eq, List.map_map]; rfl
          have hcomp : (h.add s) = compress roundKs h bs := by rw [compress_eq, HST.out]
          rw [hcomp] at hx2
          have HX := Lib.hid hx2
          have HXL := Lib.hid hxs.out.1
          have HR8 := Lib.hid (show (List.replicate 8 (W 0)).length = 8 by simp)
          have HX1 := Lib.hid (show ∀ u ∈ xs, u.oneCell' = true from fun u hu => H18.out _ u (hx2 ▸ hu))
          clear hx hx2 hcomp
          go_wp2_with (first | (with_reducible refine wpl_loadb (o := ⟨some 109, _, _, _, _, _⟩) rfl rfl row_8 hh.out rfl HXL.out ?_) | (with_reducible refine wpl_storeb (o := ⟨none, .store _ _ _, _, _, _, _⟩) rfl rfl row_8 hr.out rfl rfl HR8.out HXL.out HX1.out ?_))
          intro w8 hb8 hg8 _
          have HB8 := Lib.hid hb8
          have HBW8 := Lib.hid (hbw.out.grown hg8 (by have := hsz.out; omega) (by intro k hk; cases hk; omega))
          clear hb8 hg8
          repeat' (first | go_values | go_skip | go_guarded | go_step | go_upon | go_back)
          refine ret_cell rfl row_8 HB8.out rfl HXL.out rfl ⟨?_, ?_⟩
          · rw [HX.out]
          · exact HG.out ▸ HBW8.out
end Go.Proofs.YtlondennhhffdaaDoor

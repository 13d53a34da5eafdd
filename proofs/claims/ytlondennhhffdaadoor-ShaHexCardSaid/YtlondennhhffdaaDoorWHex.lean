/- The walk of seisinlaw03.ShaHex. -/
import Derived.Test.YtlondennhhffdaaDoorRefG
import Derived.Test.YtlondennhhffdaaDoorPhase
import Derived.Test.YtlondennhhffdaaDoorOpenB
import Derived.Lib.QuietBelow
import Derived.Stop.BytesEq
namespace Go.Proofs.YtlondennhhffdaaDoor
open Go.RowKit Go.Shelf
set_option linter.unusedVariables false

theorem run_load_id {w : World} {g : Nat} {t : TypeId} {xs : List Value} (hb : Blk w g t xs) (hl : xs.length = 32) : (loadVar 26 ⟨g, 0, none⟩).run Tryd.prog w = .ok (.agg xs.toArray) w :=
  run_loadVar_row w g t 26 xs.toArray (0, 0) _ hb Tryd.underlying26 rfl (by rw [List.size_toArray, hl]; kernel_rfl)

theorem eql_id (a b : List UInt8) (ha : a.length = 32) (hb : b.length = 32) (w : World) : (binOp .eql 26 (.agg (a.map B).toArray) (.agg (b.map B).toArray)).run Tryd.prog w = .ok (.bool (a == b)) w :=
  run_eql_bytes w 26 5 32 Tryd.underlying26 (by kernel_rfl) (fun w => by
    obtain ⟨i, hi, hs⟩ := Option.map_eq_some_iff.1 (show (Tryd.prog.info? 5).map (·.size) = some 1 by kernel_rfl)
    simp [sizeOf, typeInfo, hi, hs]) a b ha hb
theorem dig_lo {p : Nat} (h : p < 10) : b8 (digB p) = 48 + (p : Int) := by
  unfold digB b8; rw [if_pos h, UInt8.toNat_ofNat']; omega
theorem dig_hi {p : Nat} (h : 10 ≤ p) (h2 : p < 16) : b8 (digB p) = 87 + (p : Int) := by
  unfold digB b8; rw [if_neg (by omega), UInt8.toNat_ofNat']; omega
theorem hexB_at (a : List UInt8) (n : Nat) (h : n < a.length) : (hexB a)[2 * n]? = some (digB ((a[n]?.getD 0).toNat / 16)) ∧ (hexB a)[2 * n + 1]? = some (digB ((a[n]?.getD 0).toNat % 16)) := by
  have h1 : hexB a = hexB (a.take n) ++ (digB ((a[n]?.getD 0).toNat / 16) :: digB ((a[n]?.getD 0).toNat % 16) :: hexB (a.drop (n + 1))) := by
    conv => lhs; rw [← List.take_append_drop n a, List.drop_eq_getElem_cons h]
    unfold hexB
    rw [List.flatMap_append, List.flatMap_cons, List.getElem?_eq_getElem h]
    rfl
  have hl : (hexB (a.take n)).length = 2 * n := by rw [hexB_length, List.length_take]; omega
  rw [h1]
  constructor
  · rw [List.getElem?_append_right (by omega), hl]; simp
  · rw [List.getElem?_append_right (by omega), hl]; simp
theorem idx_hex {P : Program} (t : TypeId) (ht : P.underlying t = some .string) (a : List UInt8) (i : Nat) (d : UInt8) (h : (hexB a)[i]? = some d) (z : Int) (hz : z = (i : Int)) (w : World) :
    (Instr.index t (.string ⟨(hexB a).toArray⟩) (.int .i64 z)).run P w = .ok (.int .u8 (b8 d)) w := by
  subst hz
  have hi : i < (hexB a).length := (List.getElem?_eq_some_iff.1 h).1
  have hs : (⟨(hexB a).toArray⟩ : ByteArray).size = (hexB a).length := by show (hexB a).toArray.size = _; simp
  rw [run_index_string w t _ .i64 _ ht, dif_pos ⟨by omega, by rw [hs]; omega⟩]
  have hv : (hexB a)[i] = d := (List.getElem?_eq_some_iff.1 h).2
  have : (⟨(hexB a).toArray⟩ : ByteArray)[(i : Int).toNat]'(by rw [hs]; omega) = d := by
    rw [← hv]; rfl
  rw [this]
  rfl
set_option maxRecDepth 100000 in
set_option maxHeartbeats 2000000 in
theorem shaHex_any (a b : List UInt8) (z : Int) (w : World) (ha : a.length = 32) (hb : b.length = 32) (hz : 0 ≤ z) (hz2 : z ≤ 255) (ht : Tabs w) :
    Calls Tryd.prog 4 #[.agg (a.map B).toArray, .agg (b.map B).toArray, .int .u8 z] w fun e w' => e = .returned (.bool true) ∧ Below w.heap.size w w' := by
  have HT := Lib.hid ht; clear ht
  have hsab := fun w => same_any a b w ha hb
  have hsaa := fun w => same_any a a w ha ha
  rw [show decide (a = a) = true by simp] at hsaa
  obtain ⟨q, hq⟩ : ∃ q, q = (a == b) := ⟨_, rfl⟩
  rw [show decide (a = b) = q by rw [hq, Bool.eq_iff_iff]; simp] at hsab
  have HSAB := Lib.hid hsab
  have HSAA := Lib.hid hsaa
  clear hsab hsaa
  obtain ⟨S, hS⟩ : ∃ S : ByteArray, S = ⟨(hexB a).toArray⟩ := ⟨_, rfl⟩
  have hhex := fun w => hex_any a w ha
  rw [← hS] at hhex
  have HHEX := Lib.hid hhex; clear hhex
  have hsz64 : S.size = 64 := by rw [hS]; show (hexB a).toArray.size = 64; rw [List.size_toArray, hexB_length, ha]
  have HSS := Lib.hid hsz64; clear hsz64
  have HS := Lib.hid hS; clear hS
  have HLA := Lib.hid (show (a.map B).length = 32 by rw [List.length_map]; exact ha)
  have HLB := Lib.hid (show (b.map B).length = 32 by rw [List.length_map]; exact hb)
  have heq0 := fun w => eql_id a b ha hb w
  rw [← hq] at heq0
  have HEQ := Lib.hid heq0
  clear heq0 hq
  obtain ⟨xs, hxs⟩ : ∃ xs, xs = a.map B := ⟨_, rfl⟩
  obtain ⟨ys, hys⟩ : ∃ ys, ys = b.map B := ⟨_, rfl⟩
  rw [← hxs] at HSAB HSAA HHEX HLA HEQ ⊢
  rw [← hys] at HSAB HLB HEQ ⊢
  have HXS := Lib.hid hxs; clear hxs
  have HYS := Lib.hid hys; clear hys
  have HA := Lib.hid ha; have HB := Lib.hid hb
  clear ha hb
  go_enter Tryd.func4, Tryd.ntmps4
  go_wp2_with (first | (with_reducible refine wpl_box (o := ⟨some 3, _, _, _, _, _⟩) rfl rfl rfl ?_))
  intro w1 hb1 hbw1 hsz1
  have HB1 := Lib.hid hb1; clear hb1
  have HBW1 := Lib.hid hbw1; clear hbw1
  have HSZ1 := Lib.hid hsz1; clear hsz1
  generalize hgd : w.heap.size = g at *
  have HG := Lib.hid hgd; clear hgd
  go_wp2_with (first | (with_reducible refine wpl_box (o := ⟨some 4, _, _, _, _, _⟩) rfl rfl rfl ?_))
  intro w2 hb2 hbw2 hsz2
  have HB2 := Lib.hid (HB1.out.call hbw2)
  have HBW2 := Lib.hid (below_step HBW1.out (by have := HSZ1.out; omega) hbw2)
  rw [HSZ1.out] at hb2 hsz2 ⊢
  have HC2 := Lib.hid hb2
  have HSZ2 := Lib.hid hsz2
  clear hb2 hbw2 hsz2 HB1 HBW1 HSZ1
  go_wp2_with (first | (with_reducible refine wpl_loadb (o := ⟨some 14, _, _, _, _, _⟩) rfl rfl row_32 HB2.out rfl HLA.out ?_))
  go_wp2_with fail
  refine (HHEX.out w2).mono ?_
  rintro e w3 ⟨rfl, hb3⟩
  have HB3 := Lib.hid (HB2.out.call hb3)
  have HC3 := Lib.hid (HC2.out.call hb3)
  have HBW3 := Lib.hid (below_step HBW2.out (by have := HSZ2.out; omega) hb3)
  have HZ3 := Lib.hid (show g + 2 ≤ w3.heap.size by have := hb3.size; have := HSZ2.out; omega)
  clear hb3 HB2 HC2 HBW2 HSZ2
  have hsz64 := HSS.out
  have HZ4 := Lib.hid (show S.size = 64 from hsz64)
  dsimp only
  repeat' (first | (with_reducible refine wp_phase (id := 2) (fun (_ : Nat) w' => Below w3.heap.size w3 w') [] [(0,0),(0,0),(0,0),(0,0),(0,0),(0,0),(0,0),(0,0),(0,0),(0,0),(0,0),(0,0),(0,0),(0,0),(0,0),(0,0),(0,0),(0,0)] (by kernel_rfl) (by kernel_rfl) ?_ ?_) | go_values | go_skip | go_guarded | go_step | go_upon | go_back)
  · exact Drawn.all (Drawn.one w3)
  refine ph_value rfl (by first | rfl | go_simp) (fun k_ _ _ w_ hC_ => by first | (go_simp; rfl) | (go_simp; done) | rfl) (fun K hK => ?_)
  go_simp
  refine hK _ ?_
  clear hK K
  refine ph_value rfl (by first | rfl | go_simp) (fun k_ _ _ w_ hC_ => by first | (go_simp; rfl) | (go_simp; done) | rfl) (fun K hK => ?_)
  go_simp
  refine hK _ ?_
  clear hK K
  refine ph_value rfl (by first | rfl | go_simp) (fun k_ _ _ w_ hC_ => by first | (go_simp; rfl) | (go_simp; done) | rfl) (fun K hK => ?_)
  go_simp
  refine hK _ ?_
  clear hK K
  refine ph_value rfl (by first | rfl | go_simp) (fun k_ _ _ w_ hC_ => by first | (go_simp; rfl) | (go_simp; done) | rfl) (fun K hK => ?_)
  go_simp
  refine hK _ ?_
  clear hK K
  refine ph_load rfl (by first | rfl | go_simp) rfl row_32 (fun k _ _ w h => HB3.out.call h) rfl HLA.out ?_
  (intro K hK; go_simp; refine hK _ ?_; clear hK K)
  refine ph_load rfl (by first | rfl | go_simp) rfl row_32 (fun k _ _ w h => HC3.out.call h) rfl HLB.out ?_
  (intro K hK; go_simp; refine hK _ ?_; clear hK K)
  refine ph_call rfl (by first | rfl | go_simp) (fun w => by first | (go_simp; rfl) | (go_simp; done) | rfl) (fun k _ _ w h => (HSAB.out w).mono fun e w' ⟨he, hb⟩ => ⟨he, below_step h h.size hb⟩) ?_
  (intro K hK; go_simp; refine hK _ ?_; clear hK K)
  refine ph_load rfl (by first | rfl | go_simp) rfl row_32 (fun k _ _ w h => HB3.out.call h) rfl HLA.out ?_
  (intro K hK; go_simp; refine hK _ ?_; clear hK K)
  refine ph_load rfl (by first | rfl | go_simp) rfl row_32 (fun k _ _ w h => HC3.out.call h) rfl HLB.out ?_
  (intro K hK; go_simp; refine hK _ ?_; clear hK K)
  refine ph_value rfl (by first | rfl | go_simp) (fun k_ _ _ w_ hC_ => by have c1 := HEQ.out; first | (go_simp; rfl) | (go_simp; done) | rfl) (fun K hK => ?_)
  go_simp
  refine hK _ ?_
  clear hK K
  refine ph_value rfl (by first | rfl | go_simp) (fun k_ _ _ w_ hC_ => by first | (go_simp; rfl) | (go_simp; done) | rfl) (fun K hK => ?_)
  go_simp
  refine hK _ ?_
  clear hK K
  refine ph_value rfl (by first | rfl | go_simp) (fun k_ _ _ w_ hC_ => by first | (go_simp; rfl) | (go_simp; done) | rfl) (fun K hK => ?_)
  go_simp
  refine hK _ ?_
  clear hK K
  refine ph_value rfl (by first | rfl | go_simp) (fun k_ _ _ w_ hC_ => by first | (go_simp; rfl) | (go_simp; done) | rfl) (fun K hK => ?_)
  go_simp
  refine hK _ ?_
  clear hK K
  refine ph_load rfl (by first | rfl | go_simp) rfl row_32 (fun k _ _ w h => HB3.out.call h) rfl HLA.out ?_
  (intro K hK; go_simp; refine hK _ ?_; clear hK K)
  refine ph_load rfl (by first | rfl | go_simp) rfl row_32 (fun k _ _ w h => HB3.out.call h) rfl HLA.out ?_
  (intro K hK; go_simp; refine hK _ ?_; clear hK K)
  refine ph_call rfl (by first | rfl | go_simp) (fun w => by first | (go_simp; rfl) | (go_simp; done) | rfl) (fun k _ _ w h => (HSAA.out w).mono fun e w' ⟨he, hb⟩ => ⟨he, below_step h h.size hb⟩) ?_
  (intro K hK; go_simp; refine hK _ ?_; clear hK K)
  refine ph_value rfl (by first | rfl | go_simp) (fun k_ _ _ w_ hC_ => by first | (go_simp; rfl) | (go_simp; done) | rfl) (fun K hK => ?_)
  go_simp
  refine hK _ ?_
  clear hK K
  refine ph_value rfl (by first | rfl | go_simp) (fun k_ _ _ w_ hC_ => by first | (go_simp; rfl) | (go_simp; done) | rfl) (fun K hK => ?_)
  go_simp
  refine hK _ ?_
  clear hK K
  refine ph_nil ?_
  intro w4 hl4
  have HB4 := Lib.hid (HB3.out.call hl4)
  have HC4 := Lib.hid (HC3.out.call hl4)
  have HBW4 := Lib.hid (HBW3.out.trans (hl4.mono (by have := HZ3.out; omega)))
  have HZ5 := Lib.hid (show g + 2 ≤ w4.heap.size from Nat.le_trans HZ3.out hl4.size)
  clear hl4 hsz64
  go_wp2_with fail
  go_loop [8, 9, 10, 11, 12] (fun i v k c d => ∃ n : Nat, n ≤ 32 ∧ i = .int .i64 n) (fun i _ _ _ _ => 32 - (intOf i).toNat)
  case atStart => exact ⟨0, by omega, rfl⟩
  case round =>
    obtain ⟨n, hn, rfl⟩ := hrel
    by_cases hlt : n < 32
    · obtain ⟨x, hx⟩ : ∃ x, x = (a[n]?.getD 0).toNat := ⟨_, rfl⟩
      have hxlt : x < 256 := by rw [hx]; exact UInt8.toNat_lt _
      obtain ⟨ha1, ha2⟩ := hexB_at a n (by rw [HA.out]; exact hlt)
      rw [← hx] at ha1 ha2
      have I1 := fun w => idx_hex (P := Tryd.prog) 9 Tryd.underlying9 a _ _ ha1 (2 * (n : Int)) (by omega) w
      have I2 := fun w => idx_hex (P := Tryd.prog) 9 Tryd.underlying9 a _ _ ha2 (2 * (n : Int) + 1) (by omega) w
      rw [← HS.out] at I1 I2
      have cx : w4.cell? ⟨g, n, none⟩ = some (.int .u8 (x : Int)) := by
        refine HB4.out.at_ ?_
        rw [HXS.out, List.getElem?_map, List.getElem?_eq_getElem (by rw [HA.out]; exact hlt)]
        rw [hx, List.getElem?_eq_getElem (by rw [HA.out]; exact hlt)]
        rfl
      obtain ⟨p, hp⟩ : ∃ p, p = x / 16 := ⟨_, rfl⟩
      obtain ⟨q2, hq2⟩ : ∃ q2, q2 = x % 16 := ⟨_, rfl⟩
      rw [← hp] at I1
      rw [← hq2] at I2
      have hp16 : p < 16 := by omega
      have hq16 : q2 < 16 := by omega
      have hpq : (x : Int) = 16 * (p : Int) + (q2 : Int) := by omega
      have HPQ := Lib.hid hpq
      have HI1 := Lib.hid I1; have HI2 := Lib.hid I2; have HCX := Lib.hid cx
      clear hx ha1 ha2 hp hq2 hpq I1 I2 cx
      have gn : (n : Int) < 32 := by omega
      go_wp2_with fail
      go_loop [9, 10, 11, 12] (fun v j c d => (j = .int .i64 0 ∧ v = .int .i64 0) ∨ (j = .int .i64 1 ∧ v = .int .i64 (p : Int)) ∨ (j = .int .i64 2 ∧ v = .int .i64 (16 * (p : Int) + (q2 : Int)))) (fun _ j _ _ => 2 - (intOf j).toNat)
      case atStart => exact .inl ⟨rfl, rfl⟩
      case round =>
        rcases hrel with ⟨rfl, rfl⟩ | ⟨rfl, rfl⟩ | ⟨rfl, rfl⟩
        · have hi := HI1.out
          by_cases h10 : p < 10
          · rw [dig_lo h10] at hi
            have e1 : 48 + (p : Int) - 48 = p := by omega
            have g1 : (p : Int) < 10 := by omega
            go_wp2_with fail
            go_round
            case rel => exact .inr (.inl ⟨by go_num, by first | rfl | go_num⟩)
            case measure => simp [intOf]
          · rw [dig_hi (by omega) hp16] at hi
            have e1 : 87 + (p : Int) - 87 = p := by omega
            have g1 : 10 ≤ (p : Int) := by omega
            have g2 : (p : Int) < 16 := by omega
            go_wp2_with fail
            go_round
            case rel => exact .inr (.inl ⟨by go_num, by first | rfl | go_num⟩)
            case measure => simp [intOf]
        · have hi := HI2.out
          by_cases h10 : q2 < 10
          · rw [dig_lo h10] at hi
            have e1 : 48 + (q2 : Int) - 48 = q2 := by omega
            have g1 : (q2 : Int) < 10 := by omega
            go_wp2_with fail
            go_round
            case rel => exact .inr (.inr ⟨by go_num, by first | rfl | go_num⟩)
            case measure => simp [intOf]
          · rw [dig_hi (by omega) hq16] at hi
            have e1 : 87 + (q2 : Int) - 87 = q2 := by omega
            have g1 : 10 ≤ (q2 : Int) := by omega
            have g2 : (q2 : Int) < 16 := by omega
            go_wp2_with fail
            go_round
            case rel => exact .inr (.inr ⟨by go_num, by first | rfl | go_num⟩)
            case measure => simp [intOf]
        · have cx := HCX.out
          rw [HPQ.out] at cx
          go_wp2_with fail
          go_round
          case rel => exact ⟨n + 1, by omega, by go_num⟩
          case measure => simp [intOf]; omega
    · obtain rfl : n = 32 := by omega
      have HXO := Lib.hid (show ∀ u ∈ xs, u.oneCell' = true by rw [HXS.out]; exact all_bytes _)
      go_wp2_with (first | (with_reducible refine wpl_loadb (o := ⟨some 76, _, _, _, _, _⟩) rfl rfl row_32 HB4.out rfl HLA.out ?_) | (with_reducible refine wpl_alloc (o := ⟨some 13, _, _, _, _, _⟩) rfl rfl zero_id ?_))
      intro w5 hb5 hbw5 hsz5
      obtain ⟨gc, hgc⟩ : ∃ gc, gc = w4.heap.size := ⟨_, rfl⟩
      rw [← hgc] at hb5 hbw5 hsz5 ⊢
      have H5A := Lib.hid (HB4.out.below hbw5 (by rw [hgc]; exact HB4.out.lt))
      have H5C := Lib.hid (show Blk w5 gc 26 (List.replicate 32 (B 0)) from hb5)
      have HBW5 := Lib.hid (HBW4.out.trans (hbw5.mono (by rw [hgc]; have := HZ5.out; omega)))
      have hne : g < gc := by rw [hgc]; have := HZ5.out; omega
      clear hb5 hbw5 hsz5 hgc
      go_wp2_with (first | (with_reducible refine wpl_storeb (o := ⟨none, .store _ _ _, _, _, _, _⟩) rfl rfl row_32 H5C.out rfl rfl len32 HLA.out HXO.out ?_))
      intro w6 hb6 hg6 hs6
      have H6A := Lib.hid (H5A.out.grown hg6 (by simp; omega))
      have H6C := Lib.hid hb6
      have hbw6 := HBW5.out.grown hg6 (by have h1 := H5C.out.lt; omega) (fun k hk => by cases hk; omega)
      obtain ⟨mm, hmm⟩ : ∃ mm : Nat, (mm : Int) = z % 32 := ⟨(z % 32).toNat, by omega⟩
      have hmt : (z % 32).toNat = mm := by omega
      have hz0 : 0 ≤ z % 32 := by omega
      have hz1 : z % 32 < 32 := by omega
      obtain ⟨y, hy⟩ : ∃ y, y = a[mm]?.getD 0 := ⟨_, rfl⟩
      have hget : a[mm]? = some y := by rw [hy, List.getElem?_eq_getElem (by rw [HA.out]; omega)]; rfl
      have cy : w6.cell? ⟨gc, (z % 32).toNat, none⟩ = some (.int .u8 (b8 y)) := by
        rw [hmt]
        refine hb6.at_ ?_
        rw [HXS.out, List.getElem?_map, hget]; rfl
      have fy : w6.frozen? ⟨gc, (z % 32).toNat, none⟩ = false := hb6.frozen _
      have hxor : Op.intBits .xor .u8 (b8 y) 1 = pure (.int .u8 (b8 (y ^^^ 1))) := xor_b y 1
      obtain ⟨a2, ha2⟩ : ∃ a2, a2 = a.set mm (y ^^^ 1) := ⟨_, rfl⟩
      have hl2 : a2.length = 32 := by rw [ha2, List.length_set]; exact HA.out
      have hdiff : decide (a = a2) = false := by
        rw [decide_eq_false_iff_not]
        intro e
        have h1 : a2[mm]? = some (y ^^^ 1) := by rw [ha2, List.getElem?_set_self (by rw [HA.out]; omega)]
        rw [← e, hget] at h1
        have h2 : y = y ^^^ 1 := by simpa using h1
        have h3 : y.toBitVec = y.toBitVec ^^^ 1#8 := by
          have := congrArg UInt8.toBitVec h2
          simpa using this
        revert h3
        generalize y.toBitVec = v
        revert v
        decide
      obtain ⟨vs, hvs⟩ : ∃ vs, vs = a2.map B := ⟨_, rfl⟩
      have H7C := Lib.hid (show Blk (w6.setCell ⟨gc, (z % 32).toNat, none⟩ (.int .u8 (b8 (y ^^^ 1)))) gc 26 vs by
        rw [hmt]
        have := hb6.set_ mm (.int .u8 (b8 (y ^^^ 1)))
        rw [hvs, ha2, List.map_set, ← HXS.out]; exact this)
      have H7A := Lib.hid (show Blk (w6.setCell ⟨gc, (z % 32).toNat, none⟩ (.int .u8 (b8 (y ^^^ 1)))) g 26 xs from H6A.out.far (by show g ≠ gc; omega) _)
      have HB7 := Lib.hid (show Below g w (w6.setCell ⟨gc, (z % 32).toNat, none⟩ (.int .u8 (b8 (y ^^^ 1)))) from hbw6.setCell (by show g ≤ gc; omega) _)
      have HS7 := Lib.hid (same_any a a2 (w6.setCell ⟨gc, (z % 32).toNat, none⟩ (.int .u8 (b8 (y ^^^ 1)))) HA.out hl2)
      rw [hdiff, ← hvs, ← HXS.out] at HS7
      have HLV := Lib.hid (show vs.length = 32 by rw [hvs, List.length_map]; exact hl2)
      have HGS := Lib.hid (show g ≤ (w6.setCell ⟨gc, (z % 32).toNat, none⟩ (.int .u8 (b8 (y ^^^ 1)))).heap.size by have := H6C.out.lt; simp; omega)
      clear hb6 hg6 hs6 hbw6 hy hget ha2 hl2 hdiff hvs hmm hmt H6A H5A H5C
      go_wp2_with (first | (with_reducible refine wpl_loadb (o := ⟨some 87, _, _, _, _, _⟩) rfl rfl row_32 H7A.out rfl HLA.out ?_) | (with_reducible refine wpl_loadb (o := ⟨some 88, _, _, _, _, _⟩) rfl rfl row_32 H7C.out rfl HLV.out ?_))
      refine HS7.out.mono ?_
      rintro e w8 ⟨rfl, hb8⟩
      have HB8 := Lib.hid (HB7.out.trans (hb8.mono HGS.out))
      have HZ8 := Lib.hid (Nat.le_trans HGS.out hb8.size)
      clear hb8
      have HT8 := Lib.hid (HT.out.below (show Below w.heap.size w w8 by rw [HG.out]; exact HB8.out))
      go_wp2_with fail
      refine (awake3_any _ HT8.out).mono ?_
      rintro e w9 ⟨rfl, hb9⟩
      have HB9 := Lib.hid (HB8.out.trans (hb9.mono HZ8.out))
      clear hb9
      go_wp2_with fail
      go_ret
      exact ⟨rfl, by rw [HG.out]; exact HB9.out⟩
theorem open_id {H : Type} {enc : TypeId × Value → H} {w : World} {r : Reach} {b0 base : Nat} {spare : Nat → Bool} {held : Bool} {v : Value} {d : DataW H} {ps : List MemPlace} (hval : Value.okWide Tryd.prog w r b0 26 v) (h : DataW.Trod enc Tryd.prog w base spare held 26 v d ps) :
    ∃ ds : List UInt8, v = .agg (ds.map B).toArray ∧ ds.length = 32 :=
  open_arr32 Tryd.underlying26 Tryd.underlying5 (by kernel_rfl) (by kernel_rfl) hval h
theorem walk_ShaHex (a b : List UInt8) (z : Int) (w : World) (ha : a.length = 32) (hb : b.length = 32) (hz : (Lit.int .u8 z).wf = true) (ht : Tabs w) :
    Calls Tryd.prog 4 #[.agg (a.map B).toArray, .agg (b.map B).toArray, .int .u8 z] w fun e w' => e = .returned (.bool true) ∧ Below w.heap.size w w' :=
  shaHex_any a b z w ha hb (bounds_u8 hz).1 (bounds_u8 hz).2 ht
end Go.Proofs.YtlondennhhffdaaDoor

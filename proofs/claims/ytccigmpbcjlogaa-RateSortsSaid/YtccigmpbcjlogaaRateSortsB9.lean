/- The given statement RateSortsSaid, out of the walk rateSorts_walk: for every input the law returns true, and each argument reads as it did. No condition. -/
import Derived.Test.YtccigmpbcjlogaaRateSortsB8
import Derived.Test.YtccigmpbcjlogaaRows
import Derived.ProofKit
import Derived.OpenShut
import Derived.ShutString
import Derived.ChangeOld
import Derived.Below
set_option linter.unusedSimpArgs false
/- RateSorts: any rates are sorted, the best one is found, and the middle one, as the document says. -/
namespace Go.Proofs.Ytccigmpbcjlogaa
open Go.RowKit
set_option linter.unusedVariables false
/-- Two lists of the same rates, both sorted, have the same keys. -/
theorem srt_keys {Z L xs : List Nat} (hz : Z.Perm xs) (hl : L.Perm xs) (sz : Srt kF Z) (sl : Srt kF L) : Z.map kF = L.map kF := by
  refine List.Perm.eq_of_pairwise (le := fun a b : Int => a ≤ b) (fun a b _ _ h1 h2 => Int.le_antisymm h1 h2) ?_ ?_ ((hz.trans hl.symm).map _)
  · exact List.pairwise_map.2 sz
  · exact List.pairwise_map.2 sl
theorem key_at {Z L : List Nat} (h : Z.map kF = L.map kF) (k : Nat) (hk : k < Z.length) : kF (Z.getD k 0) = kF (L.getD k 0) := by
  have hl : Z.length = L.length := by simpa using congrArg List.length h
  have e : (Z.map kF)[k]? = (L.map kF)[k]? := by rw [h]
  rw [List.getElem?_map, List.getElem?_map, List.getElem?_eq_getElem hk, List.getElem?_eq_getElem (by omega)] at e
  rw [List.getD_eq_getElem?_getD, List.getD_eq_getElem?_getD, List.getElem?_eq_getElem hk, List.getElem?_eq_getElem (by omega)]
  exact Option.some.inj e
theorem same_of_key {x y : Nat} (hx : x < 2^64) (hy : y < 2^64) (h : kF x = kF y) : sameF x y = true := (sameF_key hx hy).2 (by unfold kF at h; omega)
theorem getD_lt {xs : List Nat} (h : ∀ x ∈ xs, x < 2^64) {k : Nat} (hk : k < xs.length) : xs.getD k 0 < 2^64 := h _ (by rw [List.getD_eq_getElem?_getD, List.getElem?_eq_getElem hk]; exact List.getElem_mem _)
/-- The best is the first of the sorted. -/
theorem best_first {xs L : List Nat} {k : Nat} (hk : k < xs.length) (hb : BestI xs xs.length k) (hl : L.Perm xs) (sl : Srt kF L) : kF (xs.getD k 0) = kF (L.getD 0 0) := by
  have hlen := hl.length_eq
  obtain ⟨i, hi⟩ := List.mem_iff_getElem?.1 (hl.mem_iff.2 (show xs.getD k 0 ∈ xs by rw [List.getD_eq_getElem?_getD, List.getElem?_eq_getElem hk]; exact List.getElem_mem _))
  obtain ⟨j, hj⟩ := List.mem_iff_getElem?.1 (hl.mem_iff.1 (show L.getD 0 0 ∈ L by rw [List.getD_eq_getElem?_getD, List.getElem?_eq_getElem (by omega)]; exact List.getElem_mem _))
  have h0 : L[0]? = some (L.getD 0 0) := getD_some (by omega)
  have h1 := srt_le sl h0 hi (Nat.zero_le _)
  have h2 := hb.1 j (List.getElem?_eq_some_iff.1 hj).1
  rw [List.getD_eq_getElem?_getD (l := xs) (i := j), hj] at h2
  exact Int.le_antisymm h2 h1
theorem rsame_true {x y : Nat} (hx : x < 2^64) (hy : y < 2^64) (h : kF x = kF y) (w : World) : Calls Try.prog 7 #[.float .f64 x, .float .f64 y] w fun e w' => e = .returned (.bool true) ∧ w = w' := by
  refine (rsame_any x y w hx hy).mono ?_
  rintro e w' ⟨rfl, rfl⟩
  exact ⟨by rw [same_of_key hx hy h], rfl⟩
theorem refcmp_ne {x y : Nat} (hx : x < 2^64) (hy : y < 2^64) (h : kF y < kF x) (w : World) : Calls Try.prog 10 #[.float .f64 x, .float .f64 y] w fun e w' => ∃ z : Int, e = .returned (.int .i64 z) ∧ (z == 0) = false ∧ w = w' := by
  refine (refcmp_any x y w hx hy).mono ?_
  rintro e w' ⟨rfl, rfl⟩
  refine ⟨_, rfl, ?_, rfl⟩
  have h1 := kF_lt.1 h
  simp; omega
def Far (Z : Nat) (a w : World) : Prop := Z ≤ w.heap.size ∧ Below Z a w
theorem Far.grow {Z : Nat} {a w w' : World} (h : Far Z a w) (k : Grow w w') : Far Z a w' := ⟨Nat.le_trans h.1 k.size, h.2.trans (k.mono h.1)⟩
set_option maxRecDepth 100000 in
set_option maxHeartbeats 8000000 in
theorem sorts0_any (A : Option Addr) (c : Nat) (w : World) : Calls Try.prog 3 #[.slice A 0 c] w fun e w' => e = .returned (.bool true) ∧ Below w.heap.size w w' := by
  have n1 : (FloatKind.f64.format.order 9221120237041090561 9221120237041090561 != some .eq) = true := by decide +kernel
  have HSO := Lib.hid (fun w => rtsort_any A 0 c [] w (FSz.zero _) (by omega) (fun x h => by cases h))
  have HRS := Lib.hid (fun w => rrsort_any A 0 c [] w (FSz.zero _) (by omega) (fun x h => by cases h))
  have HN1 := Lib.hid n1
  clear n1
  go_enter Try.func3, Try.ntmps3
  go_wp2_with fail
  refine (HSO.out _).mono ?_
  rintro e w2_ ⟨A2, c2, rfl, hg, Z, hz1, hz2, hz3⟩
  have HB := Lib.hid (show Below w.heap.size w w2_ from hg)
  clear hg hz1 hz2 hz3
  go_wp2_with fail
  refine (HRS.out _).mono ?_
  rintro e w3_ ⟨A3, c3, rfl, hg, Z, hz1, hz2, hz3⟩
  have HB2 := Lib.hid (show Below w.heap.size w w3_ from HB.out.trans (hg.mono HB.out.size))
  clear hg hz1 hz2 hz3 HB
  go_wp2_with fail
  go_loopw [5] (fun s5 wr => s5 = .int .i64 0 ∧ Hid (Below w.heap.size w wr)) (fun _ _ => 0)
  case atStart => exact ⟨rfl, HB2⟩
  case round =>
    obtain ⟨rfl, hB⟩ := hrel
    clear HB2
    have HB := hB
    clear hB
    rename World => w_
    go_wp2_with fail
    refine (rtbest0 A c _).mono ?_
    rintro e w2_ ⟨rfl, rfl⟩
    go_wp2_with fail
    refine (rtmid0 A c _).mono ?_
    rintro e w2_ ⟨rfl, rfl⟩
    have n1 := HN1.out
    go_wp2_with fail
    refine (awake01 _).mono ?_
    rintro e w2_ ⟨rfl, hb⟩
    have HB2 := Lib.hid (show Below w.heap.size w w2_ from HB.out.trans (hb.mono HB.out.size))
    clear hb
    go_wp2_with fail
    go_ret
    exact ⟨rfl, HB2.out⟩
set_option maxRecDepth 100000 in
set_option maxHeartbeats 8000000 in
theorem sorts_any (A : Option Addr) (n c : Nat) (xs : List Nat) (w : World) (hs : FSz w w.heap.size A n xs) (h0 : 0 < n) (hn : n ≤ 100) (ho : ∀ x ∈ xs, x < 2^64) : Calls Try.prog 3 #[.slice A n c] w fun e w' => e = .returned (.bool true) ∧ Below w.heap.size w w' := by
  have HS := Lib.hid hs; have HN := Lib.hid hn; have HO := Lib.hid ho; have HLN := Lib.hid hs.1
  have HFS := Lib.hid (fun w' (h : Below w.heap.size w w') => (hs.below h).more h.size)
  have HSO := Lib.hid (fun w' (h : Below w.heap.size w w') => rtsort_any A n c xs w' (HFS.out w' h) (by omega) ho)
  have HRS := Lib.hid (fun w' (h : Below w.heap.size w w') => rrsort_any A n c xs w' (HFS.out w' h) (by omega) ho)
  have HBS := Lib.hid (fun w' (h : Below w.heap.size w w') => rtbest_any A n c xs w' (HFS.out w' h) (by omega) h0 ho)
  have HMI := Lib.hid (fun w' (h : Below w.heap.size w w') => rtmid_any A n c xs w' (HFS.out w' h) (by omega) h0 ho)
  obtain ⟨b, off, rfl, hb, hc⟩ := hs.2 h0
  have HCE := Lib.hid (show ∀ w', Below w.heap.size w w' → ∀ k, k < n → w'.cell? ⟨b, off + k, none⟩ = some (Fv (xs.getD k 0)) from fun w' hB k hk => by rw [hB.cell hb]; exact hc k hk)
  have hn0 : 0 < n := h0
  clear hs ho hb hc h0
  go_enter Try.func3, Try.ntmps3
  go_wp2_with fail
  refine (HSO.out _ (Below.refl _ _)).mono ?_
  rintro e w2_ ⟨A2, c2, rfl, hg, Z, hz1, hz2, hz3⟩
  have HB := Lib.hid (show Below w.heap.size w w2_ from hg)
  have HFZ := Lib.hid hz3
  have HP := Lib.hid (show Z.Perm xs ∧ Srt kF Z from ⟨hz1, hz2⟩)
  clear hg hz1 hz2 hz3 HSO
  go_wp2_with fail
  refine (HRS.out _ HB.out).mono ?_
  rintro e w3_ ⟨A3, c3, rfl, hg, L, hl1, hl2, hl3⟩
  have HB2 := Lib.hid (show Below w.heap.size w w3_ from HB.out.trans (hg.mono HB.out.size))
  have HFZ2 := Lib.hid ((HFZ.out.below hg).more hg.size)
  have HFL := Lib.hid hl3
  have HPL := Lib.hid (show L.Perm xs ∧ Srt kF L from ⟨hl1, hl2⟩)
  have HKY := Lib.hid (srt_keys HP.out.1 hl1 HP.out.2 hl2)
  have HZL := Lib.hid (show Z.length = n from by rw [HP.out.1.length_eq]; exact HLN.out)
  have HLL := Lib.hid (show L.length = n from by rw [hl1.length_eq]; exact HLN.out)
  have HZO := Lib.hid (show ∀ x ∈ Z, x < 2^64 from fun x h => HO.out x (HP.out.1.mem_iff.1 h))
  have HLO := Lib.hid (show ∀ x ∈ L, x < 2^64 from fun x h => HO.out x (hl1.mem_iff.1 h))
  obtain ⟨b2, o2, hA2, hb2, hc2⟩ := HFZ2.out.2 hn0
  obtain ⟨b3, o3, hA3, hb3, hc3⟩ := hl3.2 hn0
  subst hA2; subst hA3
  obtain ⟨Z0, hZ0⟩ : ∃ q, q = w3_.heap.size := ⟨_, rfl⟩
  have HCZ := Lib.hid (show ∀ w', Below Z0 w3_ w' → ∀ k, k < n → w'.cell? ⟨b2, o2 + k, none⟩ = some (Fv (Z.getD k 0)) from fun w' hB k hk => by rw [hB.cell (by rw [hZ0]; exact hb2)]; exact hc2 k hk)
  have HCL := Lib.hid (show ∀ w', Below Z0 w3_ w' → ∀ k, k < n → w'.cell? ⟨b3, o3 + k, none⟩ = some (Fv (L.getD k 0)) from fun w' hB k hk => by rw [hB.cell (by rw [hZ0]; exact hb3)]; exact hc3 k hk)
  have HZ0 := Lib.hid (show w.heap.size ≤ Z0 by rw [hZ0]; exact HB2.out.size)
  have HZW := Lib.hid (show ∀ w', Below Z0 w3_ w' → Below w.heap.size w w' from fun w' h => HB2.out.trans (h.mono HZ0.out))
  have HZZ := Lib.hid (show ∀ w', Below Z0 w3_ w' → Z0 ≤ w'.heap.size from fun w' h => by rw [hZ0]; exact h.size)
  have HBN := Lib.hid (show Far Z0 w3_ w3_ from ⟨by rw [hZ0]; exact Nat.le_refl _, Below.refl Z0 w3_⟩)
  have HBB := Lib.hid (show Below w.heap.size w w3_ from HB2.out)
  clear hg hl1 hl2 hl3 hb2 hb3 hc2 hc3 hZ0 HB HB2 HFZ HFZ2 HFL HRS HZ0
  obtain ⟨wz, hwz⟩ : ∃ q, q = w3_ := ⟨_, rfl⟩
  rw [← hwz] at HCZ HCL HZW HZZ
  have HF := Lib.hid (show Far Z0 wz w3_ by rw [hwz]; exact HBN.out)
  have HB := HBB
  clear HBB
  clear hwz HBN
  go_wp2_with fail
  go_loopw [5] (fun s5 wr => ∃ i : Nat, s5 = .int .i64 i ∧ i ≤ n ∧ Hid (Far Z0 wz wr) ∧ Hid (Below w.heap.size w wr)) (fun s5 _ => n - (intOf s5).toNat)
  case atStart => exact ⟨0, rfl, Nat.zero_le _, HF, HB⟩
  case round =>
    obtain ⟨i, rfl, hi, hF, hB⟩ := hrel
    clear HB HF
    have HB := hB; have HF := hF
    clear hB hF
    rename World => w_
    by_cases hlt : i < n
    · obtain ⟨x, hx⟩ : ∃ x, x = Z.getD i 0 := ⟨_, rfl⟩
      obtain ⟨y, hy⟩ : ∃ x, x = L.getD i 0 := ⟨_, rfl⟩
      have HC := Lib.hid (fun w => rsame_true (x := x) (y := y) (by rw [hx]; exact getD_lt HZO.out (by rw [HZL.out]; exact hlt)) (by rw [hy]; exact getD_lt HLO.out (by rw [HLL.out]; exact hlt)) (by rw [hx, hy]; exact key_at HKY.out i (by rw [HZL.out]; exact hlt)) w)
      have HX := Lib.hid hx; have HY := Lib.hid hy
      have v1 : IntKind.i64.wrap ((i : Int) + 1) = (i : Int) + 1 := IntWalk.i64_in _ (by have := HN.out; omega)
      clear hx hy
      try go_wp2_with fail
      repeat' (first | (with_reducible refine wp_plan (id := 9) Grow [0,0,0,2,0,0,0,2,3,0] (.get 0 (.get 1 (.get 2 (.get 3 (.get 4 (.get 5 (.get 6 (.get 7 (.act 8 (.get 9 .done)))))))))) (by kernel_rfl) (by kernel_rfl) Grow.refl Grow.trans ?_) | go_values | go_skip | go_guarded | go_step | go_upon | go_back)
      intro w_ hd_
      have hb_ := hd_.grow
      have HB_ := Lib.hid (HB.out.grow' hb_)
      clear HB
      have HB := HB_
      clear HB_
      have HF_ := Lib.hid (HF.out.grow hb_)
      clear HF
      have HF := HF_
      clear HF_
      clear hb_ hd_
      have c1 := HCZ.out w_ HF.out.2 i hlt
      have c2 := HCL.out w_ HF.out.2 i hlt
      rw [← HX.out] at c1; rw [← HY.out] at c2
      repeat (first | (refine pl_calm rfl rfl (by first | exact wanted_none rfl | (go_simp; done) | rfl) (fun w_ => by first | (go_simp; rfl) | (go_simp; done) | rfl) (fun K hK => ?_); go_simp; refine hK _ _ ?_; clear hK K) | (refine pl_skip rfl (by first | (go_simp; done) | rfl) (fun K hK => ?_); go_simp; refine hK _ _ ?_; clear hK K) | (refine pl_skipa rfl (by first | (go_simp; done) | rfl) (fun K hK => ?_); go_simp; refine hK _ _ ?_; clear hK K) | (refine pl_load rfl rfl (by first | exact wanted_none rfl | (go_simp; done) | rfl) rfl (by first | rfl | (go_simp; rfl)) (by kernel_rfl) (by first | exact c1 | exact c2) (fun K hK => ?_); go_simp; refine hK _ _ ?_; clear hK K) | (refine pl_loadnow rfl rfl (by first | exact wanted_none rfl | (go_simp; done) | rfl) rfl (by first | rfl | (go_simp; rfl)) (by kernel_rfl) (by first | exact c1 | exact c2) (fun K hK => ?_); go_simp; refine hK _ _ ?_; clear hK K))
      refine pl_act rfl (by exact wanted_none rfl) (fun K hK => ?_)
      go_wp2_with fail
      refine (HC.out _).mono ?_
      rintro e w2_ ⟨rfl, rfl⟩
      go_wp2_with fail
      refine hK _ _ (fun _ => Grow.refl _) ?_
      clear hK K c1 c2
      repeat (first | (refine pl_calm rfl rfl (by first | exact wanted_none rfl | (go_simp; done) | rfl) (fun w_ => by first | (go_simp; rfl) | (go_simp; done) | rfl) (fun K hK => ?_); go_simp; refine hK _ _ ?_; clear hK K) | (refine pl_skip rfl (by first | (go_simp; done) | rfl) (fun K hK => ?_); go_simp; refine hK _ _ ?_; clear hK K) | (refine pl_skipa rfl (by first | (go_simp; done) | rfl) (fun K hK => ?_); go_simp; refine hK _ _ ?_; clear hK K))
      refine pl_done ?_
      clear HC
      go_wp2_with fail
      go_roundw
      all_goals clear v1
      case rel => exact ⟨i + 1, by go_num, hlt, HF, HB⟩
      case measure => simp [intOf]; omega
    · obtain rfl : i = n := by omega
      have z0 : ((i : Int) == 0) = false := by simp; omega
      go_wp2_with fail
      refine (HBS.out _ HB.out).mono ?_
      rintro e w2_ ⟨k, rfl, hb, hk, hbi⟩
      have HBI := Lib.hid hbi
      have HF2 := Lib.hid (HF.out.grow hb)
      have HB2 := Lib.hid (HB.out.grow' hb)
      clear hb hbi HF HB HBS
      go_wp2_with fail
      refine (HMI.out _ HB2.out).mono ?_
      rintro e w3_ ⟨M, rfl, hb, hm1, hm2⟩
      have HF := Lib.hid (HF2.out.grow hb)
      have HB := Lib.hid (HB2.out.grow' hb)
      have HKM := Lib.hid (srt_keys hm1 HPL.out.1 hm2 HPL.out.2)
      have HML := Lib.hid (show M.length = i from by rw [hm1.length_eq]; exact HLN.out)
      have HMO := Lib.hid (show ∀ x ∈ M, x < 2^64 from fun x h => HO.out x (hm1.mem_iff.1 h))
      clear hb hm1 hm2 HF2 HB2 HMI
      try clear w_
      rename World => w_
      obtain ⟨h, hh⟩ : ∃ h, h = i / 2 := ⟨_, rfl⟩
      have hhn : h < i := by omega
      have v2 : IntKind.i64.wrap ((i : Int) / 2) = (h : Int) := by rw [IntWalk.i64_in _ (by have := HN.out; omega)]; omega
      rw [← hh]
      obtain ⟨m, hm⟩ : ∃ x, x = M.getD h 0 := ⟨_, rfl⟩
      obtain ⟨x, hx⟩ : ∃ x, x = xs.getD k 0 := ⟨_, rfl⟩
      obtain ⟨y, hy⟩ : ∃ x, x = L.getD 0 0 := ⟨_, rfl⟩
      obtain ⟨z, hz⟩ : ∃ x, x = L.getD h 0 := ⟨_, rfl⟩
      have HC1 := Lib.hid (fun w => rsame_true (x := x) (y := y) (by rw [hx]; exact getD_lt HO.out (by rw [HLN.out]; exact hk)) (by rw [hy]; exact getD_lt HLO.out (by rw [HLL.out]; exact hn0)) (by rw [hx, hy]; exact best_first (by rw [HLN.out]; exact hk) (by rw [HLN.out]; exact HBI.out) HPL.out.1 HPL.out.2) w)
      have HC2 := Lib.hid (fun w => rsame_true (x := m) (y := z) (by rw [hm]; exact getD_lt HMO.out (by rw [HML.out]; exact hhn)) (by rw [hz]; exact getD_lt HLO.out (by rw [HLL.out]; exact hhn)) (by rw [hm, hz]; exact key_at HKM.out h (by rw [HML.out]; exact hhn)) w)
      have HX := Lib.hid hx; have HY := Lib.hid hy; have HZ := Lib.hid hz
      rw [← hm]
      clear hm hx hy hz hh hlt HML HMO HKM
      have hk0 : ¬ ((k : Int) < 0) := by clear v2; omega
      have hk1 : ((k : Int) < 0) = False := eq_false hk0
      have hk2 : ((i : Int) ≤ (k : Int)) = False := eq_false (by clear v2; omega)
      clear hk0
      try go_wp2_with fail
      repeat' (first | (with_reducible refine wp_plan (id := 15) Grow [0,0,0,0,0,0,0,0,0,0,0,0,0,0,0,0,2,0,0,2,3,0,0,0,0,0,0,0,0,0,2,3,0,0] (.get 0 (.get 1 (.get 2 (.get 3 (.get 4 (.get 5 (.get 6 (.get 7 (.get 8 (.get 9 (.get 10 (.get 11 (.get 12 (.get 13 (.get 14 (.get 15 (.get 16 (.get 17 (.get 18 (.get 19 (.act 20 (.get 21 (.get 22 (.get 23 (.get 24 (.get 25 (.get 26 (.get 27 (.get 28 (.get 29 (.get 30 (.act 31 (.get 32 (.get 33 .done)))))))))))))))))))))))))))))))))) (by kernel_rfl) (by kernel_rfl) Grow.refl Grow.trans ?_) | go_values | go_skip | go_guarded | go_step | go_upon | go_back)
      intro w_ hd_
      have hb_ := hd_.grow
      have HB_ := Lib.hid (HB.out.grow' hb_)
      clear HB
      have HB := HB_
      clear HB_
      have HF_ := Lib.hid (HF.out.grow hb_)
      clear HF
      have HF := HF_
      clear HF_
      clear hb_ hd_
      have c1 := HCE.out w_ HB.out k hk
      have c2 := HCL.out w_ HF.out.2 0 hn0
      have c3 := HCL.out w_ HF.out.2 h hhn
      rw [← HX.out] at c1; rw [← HY.out, Nat.add_zero] at c2; rw [← HZ.out] at c3
      repeat (first | (refine pl_calm rfl rfl (by first | exact wanted_none rfl | (go_simp; done) | rfl) (fun w_ => by first | (go_simp; rfl) | (go_simp; done) | rfl) (fun K hK => ?_); go_simp; refine hK _ _ ?_; clear hK K) | (refine pl_skip rfl (by first | (go_simp; done) | rfl) (fun K hK => ?_); go_simp; refine hK _ _ ?_; clear hK K) | (refine pl_skipa rfl (by first | (go_simp; done) | rfl) (fun K hK => ?_); go_simp; refine hK _ _ ?_; clear hK K) | (refine pl_load rfl rfl (by first | exact wanted_none rfl | (go_simp; done) | rfl) rfl (by first | rfl | (go_simp; rfl)) (by kernel_rfl) (by first | exact c1 | exact c2 | exact c3) (fun K hK => ?_); go_simp; refine hK _ _ ?_; clear hK K) | (refine pl_loadnow rfl rfl (by first | exact wanted_none rfl | (go_simp; done) | rfl) rfl (by first | rfl | (go_simp; rfl)) (by kernel_rfl) (by first | exact c1 | exact c2 | exact c3) (fun K hK => ?_); go_simp; refine hK _ _ ?_; clear hK K))
      refine pl_act rfl (by first | exact wanted_none rfl | (go_simp; done) | fail) (fun K hK => ?_)
      go_wp2_with fail
      refine (HC1.out _).mono ?_
      rintro e w2_ ⟨rfl, rfl⟩
      go_wp2_with fail
      refine hK _ _ (fun _ => Grow.refl _) ?_
      clear hK K
      repeat (first | (refine pl_calm rfl rfl (by first | exact wanted_none rfl | (go_simp; done) | rfl) (fun w_ => by first | (go_simp; rfl) | (go_simp; done) | rfl) (fun K hK => ?_); go_simp; refine hK _ _ ?_; clear hK K) | (refine pl_skip rfl (by first | (go_simp; done) | rfl) (fun K hK => ?_); go_simp; refine hK _ _ ?_; clear hK K) | (refine pl_skipa rfl (by first | (go_simp; done) | rfl) (fun K hK => ?_); go_simp; refine hK _ _ ?_; clear hK K))
      repeat (first | (refine pl_calm rfl rfl (by first | exact wanted_none rfl | (go_simp; done) | rfl) (fun w_ => by first | (go_simp; rfl) | (go_simp; done) | rfl) (fun K hK => ?_); go_simp; refine hK _ _ ?_; clear hK K) | (refine pl_skip rfl (by first | (go_simp; done) | rfl) (fun K hK => ?_); go_simp; refine hK _ _ ?_; clear hK K) | (refine pl_skipa rfl (by first | (go_simp; done) | rfl) (fun K hK => ?_); go_simp; refine hK _ _ ?_; clear hK K) | (refine pl_load rfl rfl (by first | exact wanted_none rfl | (go_simp; done) | rfl) rfl (by first | rfl | (go_simp; rfl)) (by kernel_rfl) (by first | exact c1 | exact c2 | exact c3) (fun K hK => ?_); go_simp; refine hK _ _ ?_; clear hK K) | (refine pl_loadnow rfl rfl (by first | exact wanted_none rfl | (go_simp; done) | rfl) rfl (by first | rfl | (go_simp; rfl)) (by kernel_rfl) (by first | exact c1 | exact c2 | exact c3) (fun K hK => ?_); go_simp; refine hK _ _ ?_; clear hK K))
      refine pl_act rfl (by first | exact wanted_none rfl | (go_simp; done) | fail) (fun K hK => ?_)
      go_wp2_with fail
      refine (HC2.out _).mono ?_
      rintro e w2_ ⟨rfl, rfl⟩
      go_wp2_with fail
      refine hK _ _ (fun _ => Grow.refl _) ?_
      clear hK K
      repeat (first | (refine pl_calm rfl rfl (by first | exact wanted_none rfl | (go_simp; done) | rfl) (fun w_ => by first | (go_simp; rfl) | (go_simp; done) | rfl) (fun K hK => ?_); go_simp; refine hK _ _ ?_; clear hK K) | (refine pl_skip rfl (by first | (go_simp; done) | rfl) (fun K hK => ?_); go_simp; refine hK _ _ ?_; clear hK K) | (refine pl_skipa rfl (by first | (go_simp; done) | rfl) (fun K hK => ?_); go_simp; refine hK _ _ ?_; clear hK K))
      refine pl_done ?_
      clear c1 c2 c3 HC1 HC2 v2
      go_wp2_with fail
      go_loopw [9] (fun s9 wr => ∃ j : Nat, s9 = .int .i64 j ∧ j ≤ k ∧ Hid (Below w.heap.size w wr)) (fun s9 _ => k - (intOf s9).toNat)
      case atStart => exact ⟨0, rfl, Nat.zero_le _, HB⟩
      case round =>
        obtain ⟨j, rfl, hj, hB⟩ := hrel
        clear HB HF
        have HB := hB
        clear hB
        rename World => w_
        by_cases hlt : j < k
        · obtain ⟨y, hy⟩ : ∃ x, x = xs.getD j 0 := ⟨_, rfl⟩
          have hji : j < i := by omega
          have HC := Lib.hid (fun w => refcmp_ne (x := y) (y := x) (by rw [hy]; exact getD_lt HO.out (by rw [HLN.out]; exact hji)) (by rw [HX.out]; exact getD_lt HO.out (by rw [HLN.out]; exact hk)) (by rw [hy, HX.out]; exact HBI.out.2 j hlt) w)
          have HY := Lib.hid hy
          have v1 : IntKind.i64.wrap ((j : Int) + 1) = (j : Int) + 1 := IntWalk.i64_in _ (by have := HN.out; omega)
          clear hy
          try go_wp2_with fail
          repeat' (first | (with_reducible refine wp_plan (id := 20) Grow [0,0,0,2,0,0,0,2,3,0] (.get 0 (.get 1 (.get 2 (.get 3 (.get 4 (.get 5 (.get 6 (.get 7 (.act 8 (.get 9 .done)))))))))) (by kernel_rfl) (by kernel_rfl) Grow.refl Grow.trans ?_) | go_values | go_skip | go_guarded | go_step | go_upon | go_back)
          intro w_ hd_
          have hb_ := hd_.grow
          have HB_ := Lib.hid (HB.out.grow' hb_)
          clear HB
          have HB := HB_
          clear HB_
          clear hb_ hd_
          have c1 := HCE.out w_ HB.out j hji
          have c2 := HCE.out w_ HB.out k hk
          rw [← HY.out] at c1; rw [← HX.out] at c2
          repeat (first | (refine pl_calm rfl rfl (by first | exact wanted_none rfl | (go_simp; done) | rfl) (fun w_ => by first | (go_simp; rfl) | (go_simp; done) | rfl) (fun K hK => ?_); go_simp; refine hK _ _ ?_; clear hK K) | (refine pl_skip rfl (by first | (go_simp; done) | rfl) (fun K hK => ?_); go_simp; refine hK _ _ ?_; clear hK K) | (refine pl_skipa rfl (by first | (go_simp; done) | rfl) (fun K hK => ?_); go_simp; refine hK _ _ ?_; clear hK K) | (refine pl_load rfl rfl (by first | exact wanted_none rfl | (go_simp; done) | rfl) rfl (by first | rfl | (go_simp; rfl)) (by kernel_rfl) (by first | exact c1 | exact c2) (fun K hK => ?_); go_simp; refine hK _ _ ?_; clear hK K) | (refine pl_loadnow rfl rfl (by first | exact wanted_none rfl | (go_simp; done) | rfl) rfl (by first | rfl | (go_simp; rfl)) (by kernel_rfl) (by first | exact c1 | exact c2) (fun K hK => ?_); go_simp; refine hK _ _ ?_; clear hK K))
          refine pl_act rfl (by exact wanted_none rfl) (fun K hK => ?_)
          go_wp2_with fail
          refine (HC.out _).mono ?_
          rintro e w2_ ⟨z, rfl, hz, rfl⟩
          go_wp2_with fail
          refine hK _ _ (fun _ => Grow.refl _) ?_
          clear hK K c1 c2
          repeat (first | (refine pl_calm rfl rfl (by first | exact wanted_none rfl | (go_simp; done) | rfl) (fun w_ => by first | (go_simp; rfl) | (go_simp; done) | rfl) (fun K hK => ?_); go_simp; refine hK _ _ ?_; clear hK K) | (refine pl_skip rfl (by first | (go_simp; done) | rfl) (fun K hK => ?_); go_simp; refine hK _ _ ?_; clear hK K) | (refine pl_skipa rfl (by first | (go_simp; done) | rfl) (fun K hK => ?_); go_simp; refine hK _ _ ?_; clear hK K))
          refine pl_done ?_
          clear HC
          go_wp2_with fail
          go_roundw
          all_goals clear v1
          case rel => exact ⟨j + 1, by go_num, hlt, HB⟩
          case measure => simp [intOf]; omega
        · obtain rfl : j = k := by omega
          go_wp2_with fail
          refine (awake01 _).mono ?_
          rintro e w2_ ⟨rfl, hb⟩
          have HB2 := Lib.hid (HB.out.grow' hb)
          clear hb
          go_wp2_with fail
          go_ret
          exact ⟨rfl, HB2.out⟩
theorem sorts_long (A : Option Addr) (n c : Nat) (w : World) (hn : 100 < n) : Calls Try.prog 3 #[.slice A n c] w fun e w' => e = .returned (.bool true) ∧ Below w.heap.size w w' := by
  go_enter Try.func3, Try.ntmps3
  go_wp2_with fail
  refine (awake01 _).mono ?_
  rintro e w2_ ⟨rfl, hb⟩
  have HB2 := Lib.hid hb
  clear hb
  go_wp2_with fail
  go_ret
  exact ⟨rfl, HB2.out⟩
theorem rateSorts_walk (A : Option Addr) (n c : Nat) (xs : List Nat) (w : World) (hs : Sl w w.heap.size 1 A n (xs.map (Value.float .f64))) (hx : ∀ x ∈ xs, x < 2^64) :
    Calls Try.prog 3 #[.slice A n c] w fun e w' => e = .returned (.bool true) ∧ Below w.heap.size w w' := by
  rcases Nat.lt_or_ge 100 n with h | h
  · exact sorts_long A n c w h
  · rcases Nat.eq_zero_or_pos n with h0 | h0
    · subst h0; exact sorts0_any A c w
    · exact sorts_any A n c xs w (FSz.of_sl hs) h0 h hx
end Go.Proofs.Ytccigmpbcjlogaa

/- The given statement RateSortsSaid, out of the walk rateSorts_walk: for every input the law returns true, and each argument reads as it did. No condition. -/
namespace Go.Proofs.Ytccigmpbcjlogaa.lawRateSorts
open Go.ChangeShapes Go.WideShapes Go.ChangeAt Go.RowKit
open Go.ChangeMaps (open_string shut_string)
set_option linter.unusedVariables false

theorem own : ownKnob Try.prog.godebug = none := by kernel_rfl
theorem laidOut : laidOutB Try.prog = true := by kernel_rfl

set_option maxRecDepth 100000 in
theorem lifted (os : Os) (started : os.Started) (H : Type) (enc : TypeId × Value → H) :
    ReturnsInHanded {} Try.checked os 3 .any (Rows.rateSortsSpec.pre6 enc Try.prog Try.f3 Rows.rateSortsRow.domain false) (Rows.rateSortsSpec.post enc Try.prog Try.f3 false true false false) := by
  refine returnsInHanded_of_change (C := Try.checked) own started (by kernel_rfl) Try.func3
    (ChangeSpec.witness6 (enc := enc) (C := Try.checked) false ⟨#[], #[.slice none 0 0], []⟩ 8 (by kernel_rfl) (by kernel_rfl) (by kernel_rfl) (by kernel_rfl)) ?_
  intro W base args ds gs before hval0 hW hcnd _
  have hval : ∀ (j : Nat) t v, Try.f3.params[j]? = some t → args[j]? = some v → Value.okWide Try.prog W .any base t v := hval0
  have hW' := hW
  obtain ⟨p, q, hA0, hV, rfl, hfz, hnd⟩ := hW
  have hA : DataW.TrodAll enc Try.prog W 0 (fun _ => true) true Try.f3.params.toList args.toList ds p := hA0
  rw [Try.params3] at hA hval
  obtain ⟨v0, vs0, d0, ds0, p0, q0, hargs, rfl, rfl, h0, r0⟩ := trodAll_cons hA
  obtain ⟨rfl, rfl, rfl⟩ := trodAll_nil r0
  obtain rfl : args = #[v0] := by cases args; simp_all
  obtain ⟨rfl, rfl⟩ := trodVars_none hV
  have k0 := h0
  have lt0 : ∀ x ∈ p0, x.block < W.heap.size := by obtain ⟨m, hm⟩ := k0; exact DataW.trod_lt m _ _ _ hm
  obtain ⟨x0_0, x0_1, x0_2, x0_3, rfl, f0_0, f0_1⟩ := open_f64s (hval 0 22 v0 rfl rfl) h0
  clear hA0 hval0
  refine (rateSorts_walk x0_0 x0_1 x0_2 x0_3 W f0_0 f0_1).mono fun e W' ⟨he, bel⟩ => ?_
  subst he
  exact ⟨_, rfl, _, _, _, [], _, [], hW', trodAll_mk1 (shut_bool Try.underlying4 _), (trodAll_cons_mk (Below.trod laidOut (by kernel_rfl) (of_decide_eq_true (by kernel_rfl)) k0 bel lt0) trodAll_mk0), rfl, bel.frame _, fun h => by cases h⟩

theorem proved : Rows.RateSortsSaid :=
  OpenClaim.holds_of_wide 3 Try.f3 rfl rfl rfl rfl rfl rfl rfl ⟨rfl, rfl, rfl, rfl, rfl⟩ rfl rfl rfl rfl rfl (by kernel_rfl) Try.func3 (by kernel_rfl)
    (of_decide_eq_true (by kernel_rfl)) (by unfold Func.isWrapper; first | (rw [if_pos (by decide +kernel)]; kernel_rfl) | (rw [if_neg (by decide +kernel)]; exact ⟨rfl, rfl⟩))
    (fun os started H enc _ => lifted os started H enc)
#print axioms proved
end Go.Proofs.Ytccigmpbcjlogaa.lawRateSorts

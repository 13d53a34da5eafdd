/- The walk of CoinsFull. -/
import Derived.Test.YtcbanjbibankgaaCoinF
namespace Go.Proofs.Ytcbanjbibankgaa
open Go.RowKit
set_option linter.unusedVariables false

/-- An output whose first two bytes are x, y. -/
def pp (x y : Nat) (i : Int) : PtK := (UInt8.ofNat x :: UInt8.ofNat y :: List.replicate 30 0, i)
def idA (x y i : Int) : Value := .agg (.int .u8 x :: .int .u8 y :: (List.replicate 30 (.int .u8 0) ++ [.int .i64 i])).toArray
theorem b8_ofNat {x : Nat} (h : x < 256) : b8 (UInt8.ofNat x) = x := by unfold b8; rw [UInt8.toNat_ofNat']; omega
theorem ptA_pp (x y : Nat) (i : Int) (hx : x < 256) (hy : y < 256) : ptA (pp x y i) = idA x y i := by
  unfold ptA ptV pp idA
  simp only [List.map_cons, List.map_replicate, B, b8_ofNat hx, b8_ofNat hy]
  rfl
theorem pp_ok (x y : Nat) (i : Int) (h0 : 0 ≤ i) (h1 : i ≤ 9223372036854775807) : PtOK (pp x y i) := ⟨by simp [pp], by simp [Lit.wf, IntKind.min, IntKind.max, IntKind.signed, IntKind.bits, pp]; omega⟩
theorem pp_inj {x y x' y' : Nat} {i i' : Int} (hx : x < 256) (hx' : x' < 256) (h : pp x y i = pp x' y' i') : x = x' ∧ i = i' := by
  unfold pp at h
  simp only [Prod.mk.injEq, List.cons.injEq] at h
  refine ⟨?_, h.2⟩
  have := congrArg UInt8.toNat h.1.1
  rw [UInt8.toNat_ofNat', UInt8.toNat_ofNat'] at this
  omega

def firstN (n : Nat) : CoinsL := (List.range n).map fun j => (pp j 0 ((j : Int) % 16), cn 1)
theorem firstN_succ (n : Nat) : firstN (n + 1) = firstN n ++ [(pp n 0 ((n : Int) % 16), cn 1)] := by unfold firstN; rw [List.range_succ]; simp
theorem firstN_length (n : Nat) : (firstN n).length = n := by simp [firstN]
theorem firstN_none {n : Nat} {x y : Nat} {i : Int} (hn : n ≤ 256) (hx : x < 256) (h : ∀ j, j < n → x = j → (j : Int) % 16 ≠ i) : lookC (firstN n) (pp x y i) = none := by
  unfold lookC
  rw [List.find?_eq_none.2 ?_]; rfl
  intro e he
  obtain ⟨j, hj, rfl⟩ := List.mem_map.1 he
  have hj : j < n := by simpa using hj
  intro h2
  have h3 : pp j 0 ((j : Int) % 16) = pp x y i := by simpa using h2
  obtain ⟨e1, e2⟩ := pp_inj (by omega) hx h3
  exact h j hj e1.symm e2

theorem put_two (g b : Nat) (L : CoinsL) (s : Int) (x y : Nat) (i : Int) (a : Int) (w : World) (h : CoinsAt w g b L s) (hx : x < 256) (hy : y < 256) (h0 : 0 ≤ i) (h1 : i ≤ 9223372036854775807) (ha : 0 ≤ a) (ha2 : a ≤ 18446744073709551615) (hs0 : 0 ≤ s) (hs1 : s ≤ 4611686018427387904) (r : Int) (hr : putR L s (pp x y i) (cn a) = r) :
    Calls Try.prog 21 #[.pointer (some ⟨g, 0, none⟩), idA x y i, coinA (cn a)] w fun e w' => e = .returned (.int .i64 r) ∧ Touched [g, b] w w' ∧
      (r = 0 → CoinsAt w' g b (L ++ [(pp x y i, cn a)]) (addE s a).1) ∧ (r ≠ 0 → CoinsAt w' g b L s) := by
  have := put_any g b L s (pp x y i) (cn a) w h (pp_ok x y i h0 h1) (cn_ok a ha ha2) hs0 hs1
  rw [ptA_pp x y i hx hy, hr] at this
  exact this

theorem dropped : dropC (firstN 256) (pp 9 0 9) = firstN 9 ++ ((List.range 246).map fun j => (pp (j + 10) 0 (((j + 10 : Nat) : Int) % 16), cn 1)) := by decide +kernel
theorem looked9 : lookC (firstN 256) (pp 9 0 9) = some (cn 1) := by decide +kernel
theorem none98 : lookC (dropC (firstN 256) (pp 9 0 9)) (pp 9 0 8) = none := by decide +kernel
theorem dropped_len : (dropC (firstN 256) (pp 9 0 9)).length = 255 := by decide +kernel

theorem putR_step (k : Nat) (hk : k < 256) : putR (firstN k) k (pp k 0 ((k : Int) % 16)) (cn 1) = 0 ∧ addE k 1 = ((k : Int) + 1, 0) := by
  have e : addE k 1 = ((k : Int) + 1, 0) := by unfold addE; rw [if_pos (by omega)]
  refine ⟨?_, e⟩
  unfold putR
  rw [if_neg (by simp only [pp, cn]; omega), firstN_none (by omega) (by omega) (fun j hj h => by omega), firstN_length, if_neg (by simp), if_neg (by omega)]
  show (addE k 1).2 = 0
  rw [e]
theorem putR_full (m : Nat) (hm : m < 256) : putR (firstN 256) 256 (pp 7 m 3) (cn 1) = 18 := by
  unfold putR
  rw [if_neg (by simp only [pp, cn]; omega), firstN_none (by omega) (by omega) (fun j hj h => by omega), firstN_length, if_neg (by simp), if_pos (by omega)]
def wantE (big : Int) : Int := if big = 0 ∨ 4611686018427387904 < big then 5 else if 4611686018427387649 < big then 6 else 0
theorem putR_big (big : Int) (h0 : 0 ≤ big) : putR (dropC (firstN 256) (pp 9 0 9)) 255 (pp 9 0 8) (cn big) = wantE big ∧ (wantE big = 0 → (addE 255 big).1 = 255 + big) := by
  have hp : (pp 9 0 8).2 = 8 := rfl
  have hc : (cn big).2 = big := rfl
  unfold putR wantE
  rw [none98, dropped_len, hc]
  constructor
  · by_cases h1 : big = 0 ∨ 4611686018427387904 < big
    · rw [if_pos h1, if_pos (by rw [hp]; omega)]
    · rw [if_neg h1, if_neg (by rw [hp]; omega), if_neg (by simp), if_neg (by omega)]
      unfold addE
      by_cases h2 : 4611686018427387649 < big
      · rw [if_pos h2, if_neg (by omega)]
      · rw [if_neg h2, if_pos (by omega)]
  · intro h
    unfold addE
    by_cases h1 : big = 0 ∨ 4611686018427387904 < big
    · rw [if_pos h1] at h; omega
    · rw [if_neg h1] at h
      by_cases h2 : 4611686018427387649 < big
      · rw [if_pos h2] at h; omega
      · rw [if_pos (by omega)]

set_option maxRecDepth 100000 in
set_option maxHeartbeats 4000000 in
theorem walk_CoinsFull (m big : Int) (w : World) (hm : (Lit.int .u8 m).wf = true) (hb : (Lit.int .u64 big).wf = true) :
    Calls Try.prog 8 #[.int .u8 m, .int .u64 big] w fun e w' => e = .returned (.bool true) ∧ Below w.heap.size w w' := by
  obtain ⟨m0, m1⟩ := bounds_u8 hm
  obtain ⟨b0, b1⟩ := bounds_u64 hb
  clear hm hb
  go_enter Try.func8, Try.ntmps8
  go_wp2_with fail
  refine (new_any _).mono ?_
  rintro e w1 ⟨g, b, rfl, hc, hg, hb, hbw⟩
  have HC1 := Lib.hid hc; have HB1 := Lib.hid hbw
  have HG := Lib.hid hg; have HBB := Lib.hid hb
  clear hc hbw hg hb
  go_wp2_with fail
  go_loopw [6] (fun i wr => ∃ k : Nat, k ≤ 256 ∧ i = .int .i64 k ∧ Hid (CoinsAt wr g b (firstN k) k) ∧ Hid (Touched [g, b] w1 wr)) (fun i _ => 256 - (intOf i).toNat)
  case atStart => exact ⟨0, by omega, rfl, HC1.out, Touched.refl _ _⟩
  case round =>
    obtain ⟨k, hk, rfl, HC, HT⟩ := hrel
    by_cases hlt : k < 256
    · obtain ⟨e1, e2⟩ := putR_step k hlt
      have HP := Lib.hid (put_two g b (firstN k) k k 0 ((k : Int) % 16) 1 wr HC.out hlt (by omega) (by omega) (by omega) (by omega) (by omega) (by omega) (by omega) 0 e1)
      have HE := Lib.hid e2
      clear e1 e2
      go_wp2_with fail
      refine Calls.mono (show Calls Try.prog 21 _ wr _ from HP.out) ?_
      rintro e w2 ⟨rfl, ht, hc, -⟩
      have hc2 := hc (by first | trivial | rfl)
      rw [HE.out, ← firstN_succ] at hc2
      have HC2 := Lib.hid hc2
      have HT2 := Lib.hid (HT.out.trans ht)
      clear ht hc hc2
      go_wp2_with fail
      go_roundw
      case rel => exact ⟨k + 1, by omega, by go_num, (by have := HC2.out; rwa [show ((k + 1 : Nat) : Int) = (k : Int) + 1 by omega]), HT2.out⟩
      case measure => simp [intOf]; omega
    · obtain rfl : k = 256 := by omega
      obtain ⟨wo, rfl⟩ : ∃ wo : World, wo = wr := ⟨_, rfl⟩
      obtain ⟨mm, rfl⟩ := Int.eq_ofNat_of_zero_le m0
      have HP := Lib.hid (put_two g b (firstN 256) 256 7 mm 3 1 wo HC.out (by omega) (by omega) (by omega) (by omega) (by omega) (by omega) (by omega) (by omega) 18 (putR_full mm (by omega)))
      rw [show (((256 : Nat) : Int)) = 256 from rfl]
      go_wp2_with fail
      refine Calls.mono (show Calls Try.prog 21 _ wo _ from HP.out) ?_
      rintro e w2 ⟨rfl, ht, -, hc⟩
      have HC2 := Lib.hid (hc (by omega))
      have HT2 := Lib.hid (HT.out.trans ht)
      clear ht hc HP
      go_wp2_with fail
      refine (len_any _ _ _ _ _ HC2.out).mono ?_
      rintro e w7 ⟨rfl, rfl⟩
      rw [firstN_length]
      go_wp2_with fail
      refine (csum_any _ _ _ _ _ HC2.out).mono ?_
      rintro e w7 ⟨rfl, rfl⟩
      have htk := take_any g b (firstN 256) 256 (pp 9 0 9) w2 HC2.out (pp_ok 9 0 9 (by omega) (by omega)) (by omega) (by rw [looked9]; show (1 : Int) ≤ 256; omega)
      rw [looked9, ptA_pp 9 0 9 (by omega) (by omega)] at htk
      have HTK := Lib.hid htk
      clear htk
      go_wp2_with fail
      refine Calls.mono (show Calls Try.prog 24 _ w2 _ from HTK.out) ?_
      rintro e w3 ⟨rfl, ht, hc⟩
      have HC3 := Lib.hid (show CoinsAt w3 g b (dropC (firstN 256) (pp 9 0 9)) 255 from hc)
      have HT3 := Lib.hid (HT2.out.trans ht)
      clear ht hc HTK HC2
      rw [show coinA ((some (cn 1)).getD noCoin) = .agg (coinV (cn 1)).toArray from rfl, show (some (cn 1)).isSome = true from rfl]
      obtain ⟨cs, hcs⟩ : ∃ cs, cs = coinV (cn 1) := ⟨_, rfl⟩
      rw [← hcs]
      have HL := Lib.hid (show cs.length = 33 by rw [hcs]; rfl)
      have HO := Lib.hid (show ∀ u ∈ cs, u.oneCell' = true by rw [hcs]; exact coinV_one _)
      have HI := Lib.hid (show cs[32]? = some (.int .u64 1) by rw [hcs]; rfl)
      clear hcs
      go_wp2_with (first | (with_reducible refine wpl_alloc (o := ⟨some 7, _, _, _, _, _⟩) rfl rfl zero_coin ?_))
      intro w5 hb5 hbw5 hsz5
      have HC5 := Lib.hid (HC3.out.call hbw5)
      have HT5 := Lib.hid (HT3.out.step hbw5)
      have HX5 := Lib.hid hb5
      have hgx := HC3.out.ltg
      have hbx := HC3.out.ltb
      have hxx : w.heap.size ≤ w3.heap.size := Nat.le_trans HB1.out.size HT3.out.size
      have hx1 : w1.heap.size ≤ w3.heap.size := HT3.out.size
      generalize hxg : w3.heap.size = xg at *
      clear hbw5 hsz5 hb5 HC3 hxg
      go_wp2_with (first | (with_reducible refine wpl_storeb (o := ⟨none, .store _ _ _, _, _, _, _⟩) rfl rfl row_coin HX5.out rfl rfl (coinV_length noCoin_ok) HL.out HO.out ?_))
      intro w6 hb6 hg6 hs6
      have HC6 := Lib.hid (HC5.out.grown hg6 (by simp; omega) (by simp; omega))
      have HT6 := Lib.hid (HT5.out.grown hg6 (.inr hx1))
      have HX6 := Lib.hid hb6
      clear hg6 hs6 hb6 HX5 HC5
      have hpr := putR_big big b0
      obtain ⟨we, hwe⟩ : ∃ we, we = wantE big := ⟨_, rfl⟩
      rw [← hwe] at hpr
      have HP := Lib.hid (put_two g b (dropC (firstN 256) (pp 9 0 9)) 255 9 0 8 big w6 HC6.out (by omega) (by omega) (by omega) (by omega) b0 b1 (by omega) (by omega) we hpr.1)
      have HS := Lib.hid hpr.2
      have HWE := Lib.hid hwe
      clear hpr hwe
      go_wp2_with fail
      refine Calls.mono (show Calls Try.prog 21 _ w6 _ from HP.out) ?_
      rintro e w7 ⟨rfl, ht, hc1, hc2⟩
      have HT7 := Lib.hid (HT6.out.trans ht)
      have HX7 := Lib.hid (show Blk w7 xg 44 cs from (ht.block xg HX6.out.lt (by simp; omega)).trans HX6.out)
      have HA := Lib.hid hc1
      have HN := Lib.hid hc2
      clear ht hc1 hc2 HP
      have HB7 := Lib.hid (HB1.out.trans (HT7.out.below (two_ge HG.out HBB.out) HB1.out.size))
      have c7 := HX7.out.at_ HI.out
      clear HX6 HC6 hgx hbx hxx hx1 HT7 HT6 HT5 HT3 HT2
      by_cases h1 : big = 0
      · have e : we = 5 := by rw [HWE.out, wantE, if_pos (.inl h1)]
        have hs := HN.out (by omega)
        have HSM := Lib.hid hs
        have hb1 : (big == 0) = true := by simpa using h1
        subst e
        clear h1 hs
        go_wp2_with fail
        refine (csum_any _ _ _ _ _ HSM.out).mono ?_
        rintro e w8 ⟨rfl, rfl⟩
        go_wp2_with fail
        refine (awake19 _).mono ?_
        rintro e w9 ⟨rfl, hb9⟩
        have HB9 := Lib.hid (HB7.out.trans (hb9.mono HB7.out.size))
        clear hb9
        go_wp2_with fail
        go_ret
        exact ⟨rfl, HB9.out⟩
      · have hb1' : (big == 0) = false := beq_eq_false_iff_ne.2 h1
        by_cases h2 : 4611686018427387904 < big
        · have e : we = 5 := by rw [HWE.out, wantE, if_pos (.inr h2)]
          have hs := HN.out (by omega)
          have HSM := Lib.hid hs
          subst e
          clear h1 hs
          go_wp2_with fail
          refine (csum_any _ _ _ _ _ HSM.out).mono ?_
          rintro e w8 ⟨rfl, rfl⟩
          go_wp2_with fail
          refine (awake19 _).mono ?_
          rintro e w9 ⟨rfl, hb9⟩
          have HB9 := Lib.hid (HB7.out.trans (hb9.mono HB7.out.size))
          clear hb9
          go_wp2_with fail
          go_ret
          exact ⟨rfl, HB9.out⟩
        · by_cases h3 : 4611686018427387649 < big
          · have e : we = 6 := by rw [HWE.out, wantE, if_neg (by omega), if_pos h3]
            have hs := HN.out (by omega)
            have HSM := Lib.hid hs
            subst e
            clear h1 hs
            go_wp2_with fail
            refine (csum_any _ _ _ _ _ HSM.out).mono ?_
            rintro e w8 ⟨rfl, rfl⟩
            go_wp2_with fail
            refine (awake19 _).mono ?_
            rintro e w9 ⟨rfl, hb9⟩
            have HB9 := Lib.hid (HB7.out.trans (hb9.mono HB7.out.size))
            clear hb9
            go_wp2_with fail
            go_ret
            exact ⟨rfl, HB9.out⟩
          · have e : we = 0 := by rw [HWE.out, wantE, if_neg (by omega), if_neg h3]
            have hs := HA.out e
            rw [HS.out e] at hs
            have HSM := Lib.hid hs
            subst e
            clear h1 hs
            go_wp2_with fail
            refine (csum_any _ _ _ _ _ HSM.out).mono ?_
            rintro e w8 ⟨rfl, rfl⟩
            go_wp2_with fail
            refine (awake19 _).mono ?_
            rintro e w9 ⟨rfl, hb9⟩
            have HB9 := Lib.hid (HB7.out.trans (hb9.mono HB7.out.size))
            clear hb9
            go_wp2_with fail
            go_ret
            exact ⟨rfl, HB9.out⟩
end Go.Proofs.Ytcbanjbibankgaa

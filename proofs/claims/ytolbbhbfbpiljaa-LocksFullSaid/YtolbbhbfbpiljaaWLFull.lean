/- The walk of seisinlaw21.LocksFull. -/
import Derived.Test.YtolbbhbfbpiljaaLockJ
namespace Go.Proofs.Ytolbbhbfbpiljaa
open Go.RowKit Go.Sort
set_option linter.unusedVariables false
set_option maxRecDepth 100000 in
set_option maxHeartbeats 4000000 in
theorem walk_LocksFull (big : Int) (id : List UInt8) (w : World) (hb : (Lit.int .u64 big).wf = true) (hi : id.length = 32) :
    Calls Try.prog 5 #[.int .u64 big, .agg (id.map B).toArray] w fun e w' => e = .returned (.bool true) ∧ Below w.heap.size w w' := by
  obtain ⟨b0, b1⟩ := bounds_u64 hb
  have HIL := Lib.hid (show (id.map B).length = 32 by rw [List.length_map, hi])
  have HP := Lib.hid (fun g b k w (hk : k < 63) (h : LocksAt w g b (firstL id k) (2 * (k : Int))) => kput4 g b (firstL id k) (2 * (k : Int)) k 1 id 2 w h (by omega) (by omega) (by omega) hi (by omega) (by omega) (by omega) (by omega) 0 (putQ_step id k hk).1)
  have HPB := Lib.hid (fun g b w (h : LocksAt w g b (firstL id 63) 126) => kput4 g b (firstL id 63) 126 99 0 id big w h (by omega) (by omega) (by omega) hi b0 b1 (by omega) (by omega) (wantK big) (putQ_big id big b0).1)
  have HWS := Lib.hid (putQ_big id big b0).2
  have HPF := Lib.hid (fun g b w (hs : 126 + big ≤ 4611686018427387904) (h : LocksAt w g b (L64 id big) (126 + big)) => kput4 g b (L64 id big) (126 + big) 98 0 id 1 w h (by omega) (by omega) (by omega) hi (by omega) (by omega) (by omega) hs 18 (putQ_full id big))
  have HOF := Lib.hid (fun g b w (h : LocksAt w g b (L64 id big) (126 + big)) => of_any g b (L64 id big) (126 + big) id w h hi (by rw [L64_len]; omega))
  obtain ⟨is, his⟩ : ∃ q, q = id.map B := ⟨_, rfl⟩
  rw [← his] at HIL HP HPB HPF HOF ⊢
  clear hb hi his
  obtain ⟨z, hz⟩ : ∃ z, z = w.heap.size := ⟨_, rfl⟩
  have HZ := Lib.hid hz
  clear hz
  go_enter Try.func5, Try.ntmps5
  go_wp2_with (first | (with_reducible refine wpl_box (o := ⟨some 3, _, _, _, _, _⟩) rfl rfl rfl ?_))
  intro wa hba hbwa hsza
  rw [← HZ.out] at hba hbwa hsza ⊢
  have HBA := Lib.hid hba; have HWA := Lib.hid hbwa; have HSA := Lib.hid hsza
  clear hba hbwa hsza
  go_wp2_with fail
  refine (knew_any _).mono ?_
  rintro e w1 ⟨g, b, rfl, hc, hg, hb, hbw⟩
  have HC1 := Lib.hid hc
  have HB1 := Lib.hid (HWA.out.trans (hbw.mono (by have := HSA.out; omega)))
  have HG := Lib.hid (show z < g ∧ z < b by have := HSA.out; omega)
  have HX1 := Lib.hid (HBA.out.call hbw)
  have HZ1 := Lib.hid (show z < w1.heap.size by have := hbw.size; have := HSA.out; omega)
  clear hc hbw hg hb HBA HWA HSA
  go_wp2_with fail
  go_loopw [6] (fun i wr => ∃ k : Nat, k ≤ 63 ∧ i = .int .i64 k ∧ Hid (LocksAt wr g b (firstL id k) (2 * (k : Int))) ∧ Hid (Touched [g, b] w1 wr)) (fun i _ => 63 - (intOf i).toNat)
  case atStart => exact ⟨0, by omega, rfl, HC1.out, Touched.refl _ _⟩
  case round =>
    obtain ⟨k, hk, rfl, HC, HT⟩ := hrel
    have HXR := Lib.hid (show Blk wr z 29 is from (HT.out.block z HZ1.out (by have := HG.out; simp; omega)).trans HX1.out)
    by_cases hlt : k < 63
    · have HE := Lib.hid (putQ_step id k hlt).2
      have HSU := Lib.hid (firstL_succ id k)
      have HPK := Lib.hid (HP.out g b k wr hlt HC.out)
      go_wp2_with (first | (with_reducible refine wpl_loadb (o := ⟨some 20, _, _, _, _, _⟩) rfl rfl row_idk HXR.out rfl HIL.out ?_))
      refine Calls.mono (show Calls Try.prog 19 _ wr _ from HPK.out) ?_
      rintro e w2 ⟨rfl, ht, hc, -⟩
      have hc2 := hc (by first | trivial | rfl)
      rw [HE.out, ← HSU.out] at hc2
      have HC2 := Lib.hid hc2
      have HT2 := Lib.hid (HT.out.trans ht)
      clear ht hc hc2
      go_wp2_with fail
      go_roundw
      case rel => exact ⟨k + 1, by omega, by go_num, (by have := HC2.out; rwa [show 2 * ((k + 1 : Nat) : Int) = 2 * (k : Int) + 2 by omega]), HT2.out⟩
      case measure => simp [intOf]; omega
    · obtain rfl : k = 63 := by omega
      have HC63 := Lib.hid (show LocksAt wr g b (firstL id 63) 126 from HC.out)
      have HPK := Lib.hid (HPB.out g b wr HC63.out)
      have HBR := Lib.hid (HB1.out.trans (HT.out.below (B := z) (by have := HG.out; simp; omega) (by have := HZ1.out; omega)))
      obtain ⟨we, hwe⟩ : ∃ we, we = wantK big := ⟨_, rfl⟩
      rw [← hwe] at HPK HWS
      have HWE := Lib.hid hwe
      clear HC HP HPB HC1 hwe
      by_cases h1 : big = 0
      · have hb1 : (big == 0) = true := by simpa using h1
        have hwv : we = 5 := by rw [HWE.out, wantK]; rw [if_pos (.inl h1)]
        clear h1
        subst hwv
        go_wp2_with (first | (with_reducible refine wpl_loadb (o := ⟨some 35, _, _, _, _, _⟩) rfl rfl row_idk HXR.out rfl HIL.out ?_))
        refine Calls.mono (show Calls Try.prog 19 _ wr _ from HPK.out) ?_
        rintro e w2 ⟨rfl, ht, -, hc2⟩
        have HC2 := Lib.hid (hc2 (by omega))
        have HB2 := Lib.hid (HBR.out.trans (ht.below (B := z) (by have := HG.out; simp; omega) (by rw [HZ.out]; exact HBR.out.size)))
        clear ht hc2
        go_wp2_with fail
        refine (ksum_any _ _ _ _ _ HC2.out).mono ?_
        rintro e w8 ⟨rfl, rfl⟩
        go_wp2_with fail
        refine (klen_any _ _ _ _ _ HC2.out).mono ?_
        rintro e w8 ⟨rfl, rfl⟩
        rw [firstL_length]
        go_wp2_with fail
        refine (awake21_any _).mono ?_
        rintro e w9 ⟨rfl, hb9⟩
        have HB9 := Lib.hid (HB2.out.trans (hb9.mono (by rw [HZ.out]; exact HB2.out.size)))
        clear hb9
        go_wp2_with fail
        go_ret
        exact ⟨rfl, by rw [← HZ.out]; exact HB9.out⟩
      have hb1 : (big == 0) = false := beq_eq_false_iff_ne.2 h1
      by_cases h2 : 4611686018427387904 < big
      · have hwv : we = 5 := by rw [HWE.out, wantK]; rw [if_pos (.inr h2)]
        clear h1
        subst hwv
        go_wp2_with (first | (with_reducible refine wpl_loadb (o := ⟨some 35, _, _, _, _, _⟩) rfl rfl row_idk HXR.out rfl HIL.out ?_))
        refine Calls.mono (show Calls Try.prog 19 _ wr _ from HPK.out) ?_
        rintro e w2 ⟨rfl, ht, -, hc2⟩
        have HC2 := Lib.hid (hc2 (by omega))
        have HB2 := Lib.hid (HBR.out.trans (ht.below (B := z) (by have := HG.out; simp; omega) (by rw [HZ.out]; exact HBR.out.size)))
        clear ht hc2
        go_wp2_with fail
        refine (ksum_any _ _ _ _ _ HC2.out).mono ?_
        rintro e w8 ⟨rfl, rfl⟩
        go_wp2_with fail
        refine (klen_any _ _ _ _ _ HC2.out).mono ?_
        rintro e w8 ⟨rfl, rfl⟩
        rw [firstL_length]
        go_wp2_with fail
        refine (awake21_any _).mono ?_
        rintro e w9 ⟨rfl, hb9⟩
        have HB9 := Lib.hid (HB2.out.trans (hb9.mono (by rw [HZ.out]; exact HB2.out.size)))
        clear hb9
        go_wp2_with fail
        go_ret
        exact ⟨rfl, by rw [← HZ.out]; exact HB9.out⟩
      by_cases h3 : 4611686018427387778 < big
      · have hwv : we = 6 := by rw [HWE.out, wantK]; rw [if_neg (by omega), if_pos h3]
        clear h1
        subst hwv
        go_wp2_with (first | (with_reducible refine wpl_loadb (o := ⟨some 35, _, _, _, _, _⟩) rfl rfl row_idk HXR.out rfl HIL.out ?_))
        refine Calls.mono (show Calls Try.prog 19 _ wr _ from HPK.out) ?_
        rintro e w2 ⟨rfl, ht, -, hc2⟩
        have HC2 := Lib.hid (hc2 (by omega))
        have HB2 := Lib.hid (HBR.out.trans (ht.below (B := z) (by have := HG.out; simp; omega) (by rw [HZ.out]; exact HBR.out.size)))
        clear ht hc2
        go_wp2_with fail
        refine (ksum_any _ _ _ _ _ HC2.out).mono ?_
        rintro e w8 ⟨rfl, rfl⟩
        go_wp2_with fail
        refine (klen_any _ _ _ _ _ HC2.out).mono ?_
        rintro e w8 ⟨rfl, rfl⟩
        rw [firstL_length]
        go_wp2_with fail
        refine (awake21_any _).mono ?_
        rintro e w9 ⟨rfl, hb9⟩
        have HB9 := Lib.hid (HB2.out.trans (hb9.mono (by rw [HZ.out]; exact HB2.out.size)))
        clear hb9
        go_wp2_with fail
        go_ret
        exact ⟨rfl, by rw [← HZ.out]; exact HB9.out⟩
      have hwv : we = 0 := by rw [HWE.out, wantK, if_neg (by omega), if_neg h3]
      have hs2 := HWS.out hwv
      clear h1
      subst hwv
      have HS2 := Lib.hid hs2
      clear hs2
      have HSM := Lib.hid (show 126 + big ≤ 4611686018427387904 by omega)
      go_wp2_with (first | (with_reducible refine wpl_loadb (o := ⟨some 35, _, _, _, _, _⟩) rfl rfl row_idk HXR.out rfl HIL.out ?_))
      refine Calls.mono (show Calls Try.prog 19 _ wr _ from HPK.out) ?_
      rintro e w2 ⟨rfl, ht, hc1, -⟩
      have hc := hc1 (by first | trivial | rfl)
      rw [HS2.out] at hc
      have HC2 := Lib.hid (show LocksAt w2 g b (L64 id big) (126 + big) from hc)
      have HX2 := Lib.hid (show Blk w2 z 29 is from (ht.block z HXR.out.lt (by have := HG.out; simp; omega)).trans HXR.out)
      have HB2 := Lib.hid (HBR.out.trans (ht.below (B := z) (by have := HG.out; simp; omega) (by rw [HZ.out]; exact HBR.out.size)))
      clear ht hc1 hc HPK HXR HBR
      have HPL := Lib.hid (HPF.out g b w2 HSM.out HC2.out)
      go_wp2_with (first | (with_reducible refine wpl_loadb (o := ⟨some 57, _, _, _, _, _⟩) rfl rfl row_idk HX2.out rfl HIL.out ?_))
      refine Calls.mono (show Calls Try.prog 19 _ w2 _ from HPL.out) ?_
      rintro e w3 ⟨rfl, ht, -, hc⟩
      have HC3 := Lib.hid (hc (by omega))
      have HX3 := Lib.hid (show Blk w3 z 29 is from (ht.block z HX2.out.lt (by have := HG.out; simp; omega)).trans HX2.out)
      have HB3 := Lib.hid (HB2.out.trans (ht.below (B := z) (by have := HG.out; simp; omega) (by rw [HZ.out]; exact HB2.out.size)))
      clear ht hc HPL HX2 HB2
      go_wp2_with fail
      refine (klen_any _ _ _ _ _ HC3.out).mono ?_
      rintro e w8 ⟨rfl, rfl⟩
      rw [L64_len]
      go_wp2_with fail
      refine (ksum_any _ _ _ _ _ HC3.out).mono ?_
      rintro e w8 ⟨rfl, rfl⟩
      have v1 : IntKind.u64.wrap (126 + big) = 126 + big := u64_in _ ⟨by omega, by omega⟩
      go_wp2_with (first | (with_reducible refine wpl_loadw (o := ⟨some 75, _, _, _, _, _⟩) (by first | rfl | go_simp) rfl row_idk HX3.out rfl HIL.out ?_))
      refine (HOF.out g b w3 HC3.out).mono ?_
      rintro e w4 ⟨A4, n4, c4, ss4, ks4, rfl, ho4, -, -, hp4, hb4⟩
      have hk4 : n4 = 64 := by
        have h1 := hp4.length_eq
        rw [L64_all, List.length_map, List.length_map, L64_len] at h1
        have := ho4.len
        omega
      subst hk4
      have HB4 := Lib.hid (HB3.out.trans (hb4.mono (by rw [HZ.out]; exact HB3.out.size)))
      clear ho4 hp4 hb4
      go_wp2_with fail
      refine (awake21_any _).mono ?_
      rintro e w9 ⟨rfl, hb9⟩
      have HB9 := Lib.hid (HB4.out.trans (hb9.mono (by rw [HZ.out]; exact HB4.out.size)))
      clear hb9
      go_wp2_with fail
      go_ret
      exact ⟨rfl, by rw [← HZ.out]; exact HB9.out⟩
end Go.Proofs.Ytolbbhbfbpiljaa

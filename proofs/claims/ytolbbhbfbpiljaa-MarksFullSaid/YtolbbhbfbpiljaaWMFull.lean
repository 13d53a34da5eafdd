/- The walk of seisinlaw20.MarksFull. -/
import Derived.Test.YtolbbhbfbpiljaaMarkS
namespace Go.Proofs.Ytolbbhbfbpiljaa
open Go.RowKit
set_option linter.unusedVariables false
set_option maxRecDepth 100000 in
set_option maxHeartbeats 4000000 in
theorem walk_MarksFull (m : Int) (w : World) (hm : (Lit.int .u8 m).wf = true) :
    Calls Try.prog 4 #[.int .u8 m] w fun e w' => e = .returned (.bool true) ∧ Below w.heap.size w w' := by
  obtain ⟨m0, m1⟩ : 0 ≤ m ∧ m ≤ 255 := by simpa [Lit.wf, IntKind.min, IntKind.max, IntKind.signed, IntKind.bits] using hm
  obtain ⟨mm, rfl⟩ := Int.eq_ofNat_of_zero_le m0
  clear hm
  obtain ⟨kk, hkk⟩ : ∃ kk : Nat, kk = mm % 129 := ⟨_, rfl⟩
  have hk1 : kk ≤ 128 := by omega
  have hke : (mm : Int) % 129 = (kk : Int) := by omega
  have HKE := Lib.hid hke
  clear hkk hke
  go_enter Try.func4, Try.ntmps4
  go_wp2_with fail
  refine (mnew_any _).mono ?_
  rintro e w1 ⟨g, b, rfl, hc, hg, hb, hbw⟩
  have HC1 := Lib.hid hc; have HB1 := Lib.hid hbw
  have HG := Lib.hid hg; have HBB := Lib.hid hb
  clear hc hbw hg hb
  go_wp2_with fail
  rw [HKE.out]
  go_loopw [5] (fun i wr => ∃ k : Nat, k ≤ 128 ∧ i = .int .i64 k ∧ Hid (MarksAt wr g b (firstM kk k)) ∧ Hid (Touched [b] w1 wr)) (fun i _ => 128 - (intOf i).toNat)
  case atStart => exact ⟨0, by omega, rfl, HC1.out, Touched.refl _ _⟩
  case round =>
    obtain ⟨k, hk, rfl, HC, HT⟩ := hrel
    by_cases hlt : k < 128
    · have HP := Lib.hid (fun w (h : MarksAt w g b (firstM kk k)) => mput2 g b (firstM kk k) k 0 ((k : Int) % 2) (exK kk k) w h (by omega) (by omega) (by omega) (by omega) (by have := exK_b kk k; simp [I64]; omega) 0 (putM_step kk k hlt))
      have HS := Lib.hid (fun w => somex_any (exK kk k) w (by have := exK_b kk k; simp [I64]; omega))
      have HSU := Lib.hid (firstM_succ kk k)
      obtain ⟨ms, hms⟩ : ∃ ms, ms = markA (someM (exK kk k)) := ⟨_, rfl⟩
      rw [← hms] at HP HS
      clear hms
      rcases (show (k < kk ∧ exK kk k = 1) ∨ (¬ k < kk ∧ exK kk k = 100) from by unfold exK; by_cases h : k < kk <;> simp [h]) with ⟨hkq, hex⟩ | ⟨hkq, hex⟩
      all_goals
        rw [hex] at HS
        clear hex
        go_wp2_with fail
        refine (HS.out _).mono ?_
        rintro e w2 ⟨rfl, hb2⟩
        have HC2 := Lib.hid (HC.out.call hb2)
        have HT2 := Lib.hid (HT.out.step hb2)
        clear hb2 HS
        go_wp2_with fail
        refine Calls.mono (show Calls Try.prog 12 _ w2 _ from HP.out w2 HC2.out) ?_
        rintro e w3 ⟨rfl, ht, hc, -⟩
        have hc2 := hc (by first | trivial | rfl)
        rw [← HSU.out] at hc2
        have HC3 := Lib.hid hc2
        have HT3 := Lib.hid (HT2.out.trans ht)
        clear ht hc hc2 HC2 HT2
        go_wp2_with fail
        go_roundw
        case rel => exact ⟨k + 1, by omega, by go_num, HC3.out, HT3.out⟩
        case measure => simp [intOf]; omega
    · obtain rfl : k = 128 := by omega
      have i5 : I64 5 := by simp [I64]
      have HS := Lib.hid (fun w => somex_any 5 w i5)
      have HP1 := Lib.hid (fun w (h : MarksAt w g b (firstM kk 128)) => mput2 g b (firstM kk 128) 0 1 1 5 w h (by omega) (by omega) (by omega) (by omega) i5 18 (putM_full kk))
      have HP2 := Lib.hid (fun w (h : MarksAt w g b (firstM kk 128)) => mput2 g b (firstM kk 128) 0 0 0 5 w h (by omega) (by omega) (by omega) (by omega) i5 24 (putM_there kk))
      have HP3 := Lib.hid (fun w (h : MarksAt w g b (keptM 4 (firstM kk 128))) => mput2 g b (keptM 4 (firstM kk 128)) 0 1 1 5 w h (by omega) (by omega) (by omega) (by omega) i5 (if kk = 0 then 18 else 0) (putM_after kk))
      have HPR := Lib.hid (fun w (h : MarksAt w g b (firstM kk 128)) => prune_any g b (firstM kk 128) 4 w h (by rw [firstM_length]; omega) (by simp [I64]))
      have HKL := Lib.hid (kept_len kk 128)
      have HFL := Lib.hid (firstM_length kk 128)
      clear i5
      obtain ⟨sm, hsm⟩ : ∃ q, q = someM 5 := ⟨_, rfl⟩
      rw [← hsm] at HS HP1 HP2 HP3
      obtain ⟨ms, hms⟩ : ∃ ms, ms = markA sm := ⟨_, rfl⟩
      rw [← hms] at HS HP1 HP2 HP3
      obtain ⟨L1, hL1⟩ : ∃ q, q = firstM kk 128 := ⟨_, rfl⟩
      rw [← hL1] at HP1 HP2 HP3 HPR HC HKL HFL
      obtain ⟨L2, hL2⟩ : ∃ q, q = keptM 4 L1 := ⟨_, rfl⟩
      rw [← hL2] at HPR HP3 HKL
      clear hms hL1 hL2 hsm
      go_wp2_with fail
      refine (HS.out _).mono ?_
      rintro e w2 ⟨rfl, hb2⟩
      have HC2 := Lib.hid (HC.out.call hb2)
      have HT2 := Lib.hid (HT.out.step hb2)
      clear hb2 HC HT
      go_wp2_with fail
      refine Calls.mono (show Calls Try.prog 12 _ w2 _ from HP1.out w2 HC2.out) ?_
      rintro e w3 ⟨rfl, ht, -, hc⟩
      have HC3 := Lib.hid (hc (by omega))
      have HT3 := Lib.hid (HT2.out.trans ht)
      clear ht hc HC2 HT2 HP1
      go_wp2_with fail
      refine (HS.out _).mono ?_
      rintro e w4 ⟨rfl, hb2⟩
      have HC4 := Lib.hid (HC3.out.call hb2)
      have HT4 := Lib.hid (HT3.out.step hb2)
      clear hb2 HC3 HT3
      go_wp2_with fail
      refine Calls.mono (show Calls Try.prog 12 _ w4 _ from HP2.out w4 HC4.out) ?_
      rintro e w5 ⟨rfl, ht, -, hc⟩
      have HC5 := Lib.hid (hc (by omega))
      have HT5 := Lib.hid (HT4.out.trans ht)
      clear ht hc HC4 HT4 HP2
      go_wp2_with fail
      refine (mlen_any g b _ _ HC5.out).mono ?_
      rintro e w6 ⟨rfl, rfl⟩
      rw [HFL.out]
      go_wp2_with fail
      refine (HPR.out _ HC5.out).mono ?_
      rintro e w6 ⟨c, rfl, hcl, hM6, hT6⟩
      obtain rfl : c = kk := by have := HKL.out; have := HFL.out; omega
      have HC6 := Lib.hid hM6
      have HT6 := Lib.hid (HT5.out.trans hT6)
      have HL2 := Lib.hid (show L2.length = 128 - c from HKL.out)
      clear hcl hM6 hT6 HC5 HT5 HPR HKL
      go_wp2_with fail
      refine (HS.out _).mono ?_
      rintro e w7 ⟨rfl, hb2⟩
      have HC7 := Lib.hid (HC6.out.call hb2)
      have HT7 := Lib.hid (HT6.out.step hb2)
      clear hb2 HC6 HT6
      go_wp2_with fail
      refine Calls.mono (show Calls Try.prog 12 _ w7 _ from HP3.out w7 HC7.out) ?_
      rintro e w8 ⟨rfl, ht, hc1, hc2⟩
      have HT8 := Lib.hid (HT7.out.trans ht)
      have HH1 := Lib.hid hc1; have HH2 := Lib.hid hc2
      clear ht hc1 hc2 HC7 HT7 HP3
      have HB8 := Lib.hid (HB1.out.trans (HT8.out.below (B := w.heap.size) (by simp; have := HBB.out; omega) HB1.out.size))
      by_cases hz : c = 0
      · subst hz
        have HC8 := Lib.hid (HH2.out (by simp))
        clear HH1 HH2
        rw [if_pos rfl]
        go_wp2_with fail
        refine (awake20_any _).mono ?_
        rintro e w9 ⟨rfl, hb9⟩
        have HB9 := Lib.hid (HB8.out.trans (hb9.mono HB8.out.size))
        clear hb9
        go_wp2_with fail
        go_ret
        exact ⟨rfl, HB9.out⟩
      · have HC8 := Lib.hid (HH1.out (if_neg hz))
        clear HH1 HH2
        rw [if_neg hz]
        have hlen : (L2 ++ [(mi 0 1 1, sm)]).length = 129 - c := by rw [List.length_append, HL2.out, List.length_singleton]; omega
        have HLEN := Lib.hid hlen
        clear hlen
        obtain ⟨L3, hL3⟩ : ∃ q, q = L2 ++ [(mi 0 1 1, sm)] := ⟨_, rfl⟩
        rw [← hL3] at HC8 HLEN
        clear hL3
        have hc0 : (c : Int) ≠ 0 := by omega
        have hcb : ((c : Int) == 0) = false := beq_eq_false_iff_ne.2 hc0
        go_wp2_with fail
        refine (mlen_any g b _ _ HC8.out).mono ?_
        rintro e w9 ⟨rfl, rfl⟩
        rw [HLEN.out, show (((129 - c : Nat)) : Int) = 129 - (c : Int) by omega]
        go_wp2_with fail
        refine (awake20_any _).mono ?_
        rintro e w9 ⟨rfl, hb9⟩
        have HB9 := Lib.hid (HB8.out.trans (hb9.mono HB8.out.size))
        clear hb9
        go_wp2_with fail
        go_ret
        exact ⟨rfl, HB9.out⟩
end Go.Proofs.Ytolbbhbfbpiljaa

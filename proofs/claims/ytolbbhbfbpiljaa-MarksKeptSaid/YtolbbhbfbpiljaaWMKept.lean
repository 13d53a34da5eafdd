/- The walk of seisinlaw20.MarksKept. -/
import Derived.Test.YtolbbhbfbpiljaaMarkU
import Derived.Deep.CutRange
import Derived.Test.YtolbbhbfbpiljaaOpenM
namespace Go.Proofs.Ytolbbhbfbpiljaa
open Go.RowKit
set_option linter.unusedVariables false
set_option maxRecDepth 100000 in
set_option maxHeartbeats 4000000 in
theorem walk_MarksKept (ex : Int) (A : Option Addr) (n c : Nat) (es : List UInt8) (A2 : Option Addr) (n2 c2 : Nat) (is : List UInt8) (w : World) (hx : (Lit.int .u8 ex).wf = true) (hs : Sl w w.heap.size 1 A n (es.map B)) (hn : n ≤ c) (hc : c ≤ maxLen) (hs2 : Sl w w.heap.size 1 A2 n2 (is.map B)) (hn2 : n2 ≤ c2) (hc2 : c2 ≤ maxLen) :
    Calls Try.prog 3 #[.int .u8 ex, .slice A n c, .slice A2 n2 c2] w fun e w' => e = .returned (.bool true) ∧ Below w.heap.size w w' := by
  obtain ⟨x0, x1⟩ : 0 ≤ ex ∧ ex ≤ 255 := by simpa [Lit.wf, IntKind.min, IntKind.max, IntKind.signed, IntKind.bits] using hx
  have HS := Lib.hid hs; have HS2 := Lib.hid hs2
  clear hx hs hs2 hc hc2
  rcases Nat.lt_or_ge 60 n with hb1 | hb1
  · go_enter Try.func3, Try.ntmps3
    have q1 : (60 : Int) < (n : Int) := by omega
    go_wp2_with fail
    refine (awake20_any _).mono ?_
    rintro e w9 ⟨rfl, hb9⟩
    go_wp2_with fail
    go_ret
    exact ⟨rfl, hb9⟩
  rcases Nat.lt_or_ge 60 n2 with hb2 | hb2
  · go_enter Try.func3, Try.ntmps3
    have q1 : (60 : Int) < (n2 : Int) := by omega
    go_wp2_with fail
    refine (awake20_any _).mono ?_
    rintro e w9 ⟨rfl, hb9⟩
    go_wp2_with fail
    go_ret
    exact ⟨rfl, hb9⟩
  have HP0 := Lib.hid (fun g b w (h : MarksAt w g b []) => mput3 g b [] 200 1 0 ex w h (by omega) (by omega) (by omega) (by omega) (by simp [I64]; omega))
  have HR0 := Lib.hid (show putM [] (mi 200 1 0) (someM ex) = 0 by
    unfold putM
    rw [if_neg (by simp [mi]), if_neg (by rw [right_some (by omega) (by omega)]; simp), show lookM [] (mi 200 1 0) = none from rfl, if_neg (by simp), if_neg (by simp)])
  have HSX := Lib.hid (fun w => somex_any ex w (by simp [I64]; omega))
  have HSELF := Lib.hid (fun w => rs20_self (someM ex) w (someM_ok (by simp [I64]; omega)))
  have HML := Lib.hid (markV_length (someM_ok (x := ex) (by simp [I64]; omega))); have HM1 := Lib.hid (markV_one (someM ex))
  have HNL := Lib.hid (markV_length noMrk_ok); have HN1 := Lib.hid (markV_one noMrk)
  go_enter Try.func3, Try.ntmps3
  go_wp2_with fail
  refine (mnew_any _).mono ?_
  rintro e w1 ⟨g, b, rfl, hc, hg, hb, hbw⟩
  have HC1 := Lib.hid hc; have HB1 := Lib.hid hbw
  have HG := Lib.hid hg; have HBB := Lib.hid hb
  clear hc hbw hg hb
  go_wp2_with fail
  refine (HSX.out _).mono ?_
  rintro e w2 ⟨rfl, hb2⟩
  have HC2 := Lib.hid (HC1.out.call hb2)
  have HB2 := Lib.hid (HB1.out.trans (hb2.mono HB1.out.size))
  clear hb2 HC1 HB1
  go_wp2_with fail
  refine Calls.mono (show Calls Try.prog 12 _ w2 _ from HP0.out g b w2 HC2.out) ?_
  rintro e w3 ⟨rfl, ht, hm⟩
  rw [HR0.out]
  have HC3 := Lib.hid (show MarksAt w3 g b [(mi 200 1 0, someM ex)] from by unfold postPut at hm; rw [if_pos HR0.out] at hm; exact hm)
  have HB3 := Lib.hid (HB2.out.trans (ht.below (B := w.heap.size) (by simp; have := HBB.out; omega) HB2.out.size))
  clear ht hm HC2 HB2 HP0
  go_wp2_with fail
  go_loopw [8, 9] (fun s8 iv wr => ∃ (k : Nat) (th : Bool), k ≤ n ∧ iv = .int .i64 k ∧ s8 = .bool th ∧ Hid (∃ L, MarksAt wr g b L ∧ lookM L (mi 200 1 0) = watch th ex ∧ L.length ≤ 1 + 2 * k ∧ Below w.heap.size w wr)) (fun _ iv _ => n - (intOf iv).toNat)
  case atStart => exact ⟨0, true, by omega, rfl, rfl, Lib.hid ⟨_, HC3.out, by simp [lookM, watch], by simp, HB3.out⟩⟩
  case round =>
    obtain ⟨k, th, hk, rfl, rfl, hI⟩ := hrel
    clear HC3 HB3
    obtain ⟨L, hM, hL, hLL, hB⟩ := hI.out
    have HM := Lib.hid hM; have HL := Lib.hid hL; have HLL := Lib.hid hLL; have HB := Lib.hid hB
    clear hI hM hL hLL hB
    by_cases hlt : k < n
    · obtain ⟨eb, eo, u, rfl, hbl, hu, hc⟩ := HS.out.at_ hlt
      rw [List.getElem?_map] at hu
      obtain ⟨ez8, hez, rfl⟩ := Option.map_eq_some_iff.1 hu
      obtain ⟨ez, hezz⟩ : ∃ z : Int, z = b8 ez8 := ⟨_, rfl⟩
      have hzr := b8_range ez8
      rw [← hezz] at hzr
      obtain ⟨z0, z1⟩ : 0 ≤ ez ∧ ez ≤ 255 := by omega
      have c1 := bcell HB.out hc
      rw [show B ez8 = .int .u8 ez by rw [hezz]; rfl] at c1 hc
      have HCE := Lib.hid hc
      have HPR := Lib.hid (prune_any g b L ez wr HM.out (by have := HLL.out; omega) (by simp [I64]; omega))
      have HWK := Lib.hid (watch_kept HM.out.ok.2 HL.out x0 x1 z0 z1)
      clear hu hez hezz hzr hc hbl
      go_wp2_with fail
      refine HPR.out.mono ?_
      rintro e w2 ⟨cc, rfl, hcl, hM2, hT2⟩
      have HM2 := Lib.hid hM2
      have HB2 := Lib.hid (HB.out.trans (hT2.below (B := w.heap.size) (by simp; have := HBB.out; omega) HB.out.size))
      have HL2 := Lib.hid (show (keptM ez L).length ≤ 1 + 2 * k from Nat.le_trans (kept_le ez L) HLL.out)
      have c2 := bcell HB2.out HCE.out
      clear hcl hM2 hT2 HPR HM HL HLL HB c1
      go_upto_region 11 with fail
      go_cut [8] from 46 to 99 (fun s8 wr => ∃ t2, s8 = .bool t2 ∧ Hid (∃ L, MarksAt wr g b L ∧ lookM L (mi 200 1 0) = watch t2 ex ∧ L.length ≤ 1 + 2 * k ∧ Below w.heap.size w wr))
      case first =>
        cases th with
        | false =>
          go_wp2_with fail
          go_meet
          case rel => exact ⟨false, rfl, Lib.hid ⟨_, HM2.out, HWK.out, HL2.out, HB2.out⟩⟩
        | true =>
          by_cases hcz : ez ≤ ex + 2
          · have hw := HWK.out
            rw [decide_eq_true hcz] at hw
            have HW := Lib.hid hw
            clear hw
            go_wp2_with fail
            go_meet
            case rel => exact ⟨true, rfl, Lib.hid ⟨_, HM2.out, HW.out, HL2.out, HB2.out⟩⟩
          · have hw := HWK.out
            rw [decide_eq_false hcz] at hw
            have HW := Lib.hid hw
            clear hw
            go_wp2_with fail
            go_meet
            case rel => exact ⟨false, rfl, Lib.hid ⟨_, HM2.out, HW.out, HL2.out, HB2.out⟩⟩
      case rest =>
        obtain ⟨t2, rfl, hI⟩ := hcut
        clear HM2 HB2 HL2 HWK c2
        obtain ⟨L1, hM, hL, hLL, hB⟩ := hI.out
        have HM := Lib.hid hM; have HL := Lib.hid hL; have HLL := Lib.hid hLL; have HB := Lib.hid hB
        clear hI hM hL hLL hB
        try clear w2
        rename World => w2
        go_upto_if 61 with fail
        go_cut [] from 58 to 99 (fun wr => Hid (∃ L, MarksAt wr g b L ∧ lookM L (mi 200 1 0) = watch t2 ex ∧ L.length ≤ 3 + 2 * k ∧ Below w.heap.size w wr))
        case first =>
          by_cases hki : k < n2
          · obtain ⟨ib, io, u, rfl, hbl, hu, hc⟩ := HS2.out.at_ hki
            rw [List.getElem?_map] at hu
            obtain ⟨iz8, hiz, rfl⟩ := Option.map_eq_some_iff.1 hu
            obtain ⟨x, hxx⟩ : ∃ x : Nat, x = iz8.toNat := ⟨_, rfl⟩
            have hx256 : x < 256 := by rw [hxx]; exact iz8.toNat_lt
            rw [show B iz8 = .int .u8 (x : Int) by rw [hxx]; rfl] at hc
            have HIC := Lib.hid (show ∀ w', Touched [b] w2 w' → w'.cell? ⟨ib, io + k, none⟩ = some (.int .u8 (x : Int)) from fun w' ht => bcell (HB.out.trans (ht.below (B := w.heap.size) (by simp; have := HBB.out; omega) HB.out.size)) hc)
            have HS9 := Lib.hid (fun w => somex_any ((x : Int) % 9) w (by simp [I64]; omega))
            have HPC := Lib.hid (fun w (h : MarksAt w g b L1) => mput3 g b L1 x 0 0 ((x : Int) % 9) w h hx256 (by omega) (by omega) (by omega) (by simp [I64]; omega))
            have HLP := Lib.hid (show lookM (postPut L1 (mi x 0 0) (someM ((x : Int) % 9))) (mi 200 1 0) = watch t2 ex by
              rw [look_post _ (fun h => by have := mi_inj hx256 (by omega) (by omega) (by omega) h; omega)]; exact HL.out)
            have HLN := Lib.hid (post_len L1 (mi x 0 0) (someM ((x : Int) % 9)))
            obtain ⟨r9, hr9⟩ : ∃ r, r = putM L1 (mi x 0 0) (someM ((x : Int) % 9)) := ⟨_, rfl⟩
            obtain ⟨L2, hL2⟩ : ∃ L, L = postPut L1 (mi x 0 0) (someM ((x : Int) % 9)) := ⟨_, rfl⟩
            rw [← hr9, ← hL2] at HPC
            rw [← hL2] at HLP HLN
            obtain ⟨m9, hm9⟩ : ∃ m, m = markA (someM ((x : Int) % 9)) := ⟨_, rfl⟩
            rw [← hm9] at HPC HS9
            have HS255 := Lib.hid (fun w => somex_any 255 w (by simp [I64]))
            have HPD := Lib.hid (fun w (h : MarksAt w g b L2) => mput3 g b L2 200 1 1 255 w h (by omega) (by omega) (by omega) (by omega) (by simp [I64]))
            have HLQ := Lib.hid (show lookM (postPut L2 (mi 200 1 1) (someM 255)) (mi 200 1 0) = watch t2 ex by
              rw [look_post _ (fun h => by have := mi_inj (by omega) (by omega) (by omega) (by omega) h; omega)]; exact HLP.out)
            have HLM := Lib.hid (post_len L2 (mi 200 1 1) (someM 255))
            obtain ⟨r255, hr255⟩ : ∃ r, r = putM L2 (mi 200 1 1) (someM 255) := ⟨_, rfl⟩
            obtain ⟨L3, hL3⟩ : ∃ L, L = postPut L2 (mi 200 1 1) (someM 255) := ⟨_, rfl⟩
            rw [← hr255, ← hL3] at HPD
            rw [← hL3] at HLQ HLM
            obtain ⟨m255, hm255⟩ : ∃ m, m = markA (someM 255) := ⟨_, rfl⟩
            rw [← hm255] at HPD HS255
            clear hu hiz hxx hbl hc hr9 hL2 hm9 hr255 hL3 hm255
            have v9 : IntKind.i64.wrap (x : Int) = (x : Int) := IntWalk.i64_in _ (by omega)
            have v10 : (x : Int).tmod 9 = (x : Int) % 9 := Int.tmod_eq_emod_of_nonneg (by omega)
            go_wp2_with fail
            repeat' (first | (with_reducible refine wp_phase (id := 13) (C13 w2 g b L1 L2) [13] [(0,0),(0,0),(0,0),(0,0),(0,0),(0,0),(0,0),(0,0),(0,0),(0,0),(0,0),(0,0),(0,0),(0,0)] (by kernel_rfl) (by kernel_rfl) ?_ ?_) | go_values | go_skip | go_guarded | go_step | go_upon | go_back)
            · exact ⟨Touched.of_below (Drawn.all (Drawn.one w2)), HM.out.call (Drawn.all (Drawn.one w2))⟩
            refine ph_value rfl (by first | rfl | go_simp) (fun k_ _ _ w_ hC_ => by first | (go_simp; rfl) | (go_simp; done) | rfl) (fun K hK => ?_)
            go_simp
            refine hK _ ?_
            clear hK K
            refine ph_value rfl (by first | rfl | go_simp) (fun k_ _ _ w_ hC_ => by first | (go_simp; rfl) | (go_simp; done) | rfl) (fun K hK => ?_)
            go_simp
            refine hK _ ?_
            clear hK K
            refine ph_value rfl (by first | rfl | go_simp) (fun k_ _ _ w_ hC_ => by first | (go_simp; rfl) | (go_simp; done) | rfl) (fun K hK => ?_)
            go_simp
            refine hK _ ?_
            clear hK K
            refine ph_value rfl (by first | rfl | go_simp) (fun k_ _ _ w_ hC_ => by first | (go_simp; rfl) | (go_simp; done) | rfl) (fun K hK => ?_)
            go_simp
            refine hK _ ?_
            clear hK K
            refine ph_value rfl (by first | rfl | go_simp) (fun k_ _ _ w_ hC_ => by have c1 := HIC.out _ hC_.1; first | (go_simp; rfl) | (go_simp; done) | rfl) (fun K hK => ?_)
            go_simp
            refine hK _ ?_
            clear hK K
            refine ph_value rfl (by first | rfl | go_simp) (fun k_ _ _ w_ hC_ => by first | (go_simp; rfl) | (go_simp; done) | rfl) (fun K hK => ?_)
            go_simp
            refine hK _ ?_
            clear hK K
            refine ph_value rfl (by first | rfl | go_simp) (fun k_ _ _ w_ hC_ => by first | (go_simp; rfl) | (go_simp; done) | rfl) (fun K hK => ?_)
            go_simp
            refine hK _ ?_
            clear hK K
            refine ph_value rfl (by first | rfl | go_simp) (fun k_ _ _ w_ hC_ => by first | (go_simp; rfl) | (go_simp; done) | rfl) (fun K hK => ?_)
            go_simp
            refine hK _ ?_
            clear hK K
            refine ph_value rfl (by first | rfl | go_simp) (fun k_ _ _ w_ hC_ => by first | (go_simp; rfl) | (go_simp; done) | rfl) (fun K hK => ?_)
            go_simp
            refine hK _ ?_
            clear hK K
            refine ph_value rfl (by first | rfl | go_simp) (fun k_ _ _ w_ hC_ => by have c1 := HIC.out _ hC_.1; first | (go_simp; rfl) | (go_simp; done) | rfl) (fun K hK => ?_)
            go_simp
            refine hK _ ?_
            clear hK K
            refine ph_value rfl (by first | rfl | go_simp) (fun k_ _ _ w_ hC_ => by first | (go_simp; rfl) | (go_simp; done) | rfl) (fun K hK => ?_)
            go_simp
            refine hK _ ?_
            clear hK K
            refine ph_value rfl (by first | rfl | go_simp) (fun k_ _ _ w_ hC_ => by first | (go_simp; rfl) | (go_simp; done) | rfl) (fun K hK => ?_)
            go_simp
            refine hK _ ?_
            clear hK K
            refine ph_call rfl (by first | rfl | go_simp) (fun w => by first | rfl | (go_simp; rfl) | go_simp) (fun k _ _ w h => (HS9.out w).mono fun e w' ⟨he, hb⟩ => ⟨he, ⟨h.1.step hb, h.2.call hb⟩⟩) ?_
            (intro K hK; go_simp; refine hK _ ?_; clear hK K)
            refine ph_callw 0 rfl rfl rfl (by first | rfl | go_simp) (fun w => by first | rfl | (go_simp; rfl) | go_simp) (fun w h => (HPC.out w h.2).mono fun e w' ⟨he, ht, hm⟩ => ⟨he, h.1.trans ht, hm⟩) ?_
            (intro K hK; go_simp; refine hK _ ?_; clear hK K)
            refine ph_nil ?_
            intro w4 hC4
            have HM4 := Lib.hid (show MarksAt w4 g b L2 from hC4.2)
            have HB4 := Lib.hid (HB.out.trans (hC4.1.below (B := w.heap.size) (by simp; have := HBB.out; omega) HB.out.size))
            clear hC4 HIC HS9 HPC
            go_wp2_with fail
            refine (HS255.out _).mono ?_
            rintro e w5 ⟨rfl, hb5⟩
            have HM5 := Lib.hid (HM4.out.call hb5)
            have HB5 := Lib.hid (HB4.out.trans (hb5.mono HB4.out.size))
            clear hb5 HM4 HB4
            go_wp2_with fail
            refine Calls.mono (show Calls Try.prog 12 _ w5 _ from HPD.out w5 HM5.out) ?_
            rintro e w6 ⟨rfl, ht, hm6⟩
            have HM6 := Lib.hid hm6
            have HB6 := Lib.hid (HB5.out.trans (ht.below (B := w.heap.size) (by simp; have := HBB.out; omega) HB5.out.size))
            clear ht hm6 HM5 HB5
            go_wp2_with fail
            go_meet
            case rel => exact Lib.hid ⟨L3, HM6.out, HLQ.out, by have := HLL.out; have := HLN.out; have := HLM.out; omega, HB6.out⟩
          · go_wp2_with fail
            go_meet
            case rel => exact Lib.hid ⟨L1, HM.out, HL.out, by have := HLL.out; omega, HB.out⟩
        case rest =>
          clear HM HL HLL HB
          obtain ⟨L2, hM, hL, hLL, hB⟩ := hcut.out
          have HM := Lib.hid hM; have HL := Lib.hid hL; have HLL := Lib.hid hLL; have HB := Lib.hid hB
          clear hcut hM hL hLL hB
          try clear w2
          rename World => w2
          have HGET := Lib.hid (mget3 g b L2 200 1 0 w2 HM.out (by omega) (by omega) (by omega) (by omega))
          rw [HL.out] at HGET
          cases t2 with
          | false =>
            have HGE := Lib.hid (show Calls Try.prog 15 #[.pointer (some ⟨g, 0, none⟩), .int .i64 0, idV 200 1] w2 fun e w' => e = .returned (.tuple #[.agg (markV noMrk).toArray, .bool false]) ∧ Below w2.heap.size w2 w' from HGET.out)
            obtain ⟨ms, hms⟩ : ∃ ms, ms = markV noMrk := ⟨_, rfl⟩
            rw [← hms] at HGE HNL HN1
            clear hms HGET
            go_wp2_with fail
            refine Calls.mono (show Calls Try.prog 15 _ w2 _ from HGE.out) ?_
            rintro e w3 ⟨rfl, hb3⟩
            have HM3 := Lib.hid (HM.out.call hb3)
            have HB3 := Lib.hid (HB.out.trans (hb3.mono HB.out.size))
            clear hb3 HM HB HGE
            go_wp2_with (first | (with_reducible refine wpl_alloc (o := ⟨some 10, _, _, _, _, _⟩) rfl rfl zero_mark ?_))
            intro w4 hb4 hbw4 hsz4
            have HV4 := Lib.hid hb4
            have HM4 := Lib.hid (HM3.out.call hbw4)
            have HB4 := Lib.hid (HB3.out.trans (hbw4.mono HB3.out.size))
            have HGG := Lib.hid (show g ≠ w3.heap.size ∧ b ≠ w3.heap.size ∧ w.heap.size ≤ w3.heap.size by have := HM3.out.ltg; have := HM3.out.ltb; have := HB3.out.size; omega)
            have HNZ := Lib.hid (markV_length noMrk_ok)
            clear hb4 hbw4 hsz4
            go_wp2_with (first | (with_reducible refine wpl_storeb (o := ⟨none, .store _ _ _, _, _, _, _⟩) rfl rfl row_mark HV4.out rfl rfl HNZ.out HNL.out HN1.out ?_))
            intro w5 hb5 hg5 hs5
            have HM5 := Lib.hid (HM4.out.grown hg5 (by simpa using HGG.out.1) (by simpa using HGG.out.2.1))
            have HB5 := Lib.hid (HB4.out.grown hg5 HB4.out.size (fun q hq => by cases hq; exact HGG.out.2.2))
            clear hb5 hg5 hs5 HV4 HM4 HB4 HM3 HB3
            go_wp2_with fail
            repeat' (first | (with_reducible refine wp_phase (id := 16) (fun (_ : Nat) w' => Below w5.heap.size w5 w') [] [(0,0),(0,0),(0,0),(0,0),(0,0),(0,0),(0,0),(0,0),(0,0),(0,0),(0,0),(0,0),(0,0),(0,0)] (by kernel_rfl) (by kernel_rfl) ?_ ?_) | go_values | go_skip | go_guarded | go_step | go_upon | go_back)
            · exact Drawn.all (Drawn.one w5)
            refine ph_value rfl (by first | rfl | go_simp) (fun k_ _ _ w_ hC_ => by first | (go_simp; rfl) | (go_simp; done) | rfl) (fun K hK => ?_)
            go_simp
            refine hK _ ?_
            clear hK K
            refine ph_value rfl (by first | rfl | go_simp) (fun k_ _ _ w_ hC_ => by first | (go_simp; rfl) | (go_simp; done) | rfl) (fun K hK => ?_)
            go_simp
            refine hK _ ?_
            clear hK K
            refine ph_value rfl (by first | rfl | go_simp) (fun k_ _ _ w_ hC_ => by first | (go_simp; rfl) | (go_simp; done) | rfl) (fun K hK => ?_)
            go_simp
            refine hK _ ?_
            clear hK K
            refine ph_value rfl (by first | rfl | go_simp) (fun k_ _ _ w_ hC_ => by first | (go_simp; rfl) | (go_simp; done) | rfl) (fun K hK => ?_)
            go_simp
            refine hK _ ?_
            clear hK K
            refine ph_value rfl (by first | rfl | go_simp) (fun k_ _ _ w_ hC_ => by first | (go_simp; rfl) | (go_simp; done) | rfl) (fun K hK => ?_)
            go_simp
            refine hK _ ?_
            clear hK K
            refine ph_value rfl (by first | rfl | go_simp) (fun k_ _ _ w_ hC_ => by first | (go_simp; rfl) | (go_simp; done) | rfl) (fun K hK => ?_)
            go_simp
            refine hK _ ?_
            clear hK K
            refine ph_skip rfl (by first | rfl | go_simp) ?_
            (intro K hK; go_simp; refine hK _ ?_; clear hK K)
            refine ph_skip rfl (by first | rfl | go_simp) ?_
            (intro K hK; go_simp; refine hK _ ?_; clear hK K)
            refine ph_skip rfl (by first | rfl | go_simp) ?_
            (intro K hK; go_simp; refine hK _ ?_; clear hK K)
            refine ph_skip rfl (by first | rfl | go_simp) ?_
            (intro K hK; go_simp; refine hK _ ?_; clear hK K)
            refine ph_skip rfl (by first | rfl | go_simp) ?_
            (intro K hK; go_simp; refine hK _ ?_; clear hK K)
            refine ph_skip rfl (by first | rfl | go_simp) ?_
            (intro K hK; go_simp; refine hK _ ?_; clear hK K)
            refine ph_value rfl (by first | rfl | go_simp) (fun k_ _ _ w_ hC_ => by first | (go_simp; rfl) | (go_simp; done) | rfl) (fun K hK => ?_)
            go_simp
            refine hK _ ?_
            clear hK K
            refine ph_value rfl (by first | rfl | go_simp) (fun k_ _ _ w_ hC_ => by first | (go_simp; rfl) | (go_simp; done) | rfl) (fun K hK => ?_)
            go_simp
            refine hK _ ?_
            clear hK K
            refine ph_nil ?_
            intro w6 hl6
            have HM6 := Lib.hid (HM5.out.call hl6)
            have HB6 := Lib.hid (HB5.out.trans (hl6.mono HB5.out.size))
            clear hl6 HM5 HB5
            go_wp2_with fail
            go_roundw
            case rel => exact ⟨k + 1, false, by omega, by go_num, rfl, Lib.hid ⟨L2, HM6.out, HL.out, by have := HLL.out; omega, HB6.out⟩⟩
            case measure => simp [intOf]; omega
          | true =>
            have HGE := Lib.hid (show Calls Try.prog 15 #[.pointer (some ⟨g, 0, none⟩), .int .i64 0, idV 200 1] w2 fun e w' => e = .returned (.tuple #[.agg (markV (someM ex)).toArray, .bool true]) ∧ Below w2.heap.size w2 w' from HGET.out)
            unfold markA at HSX HSELF
            obtain ⟨ms, hms⟩ : ∃ ms, ms = markV (someM ex) := ⟨_, rfl⟩
            rw [← hms] at HGE HML HM1 HSX HSELF
            clear hms HGET
            go_wp2_with fail
            refine Calls.mono (show Calls Try.prog 15 _ w2 _ from HGE.out) ?_
            rintro e w3 ⟨rfl, hb3⟩
            have HM3 := Lib.hid (HM.out.call hb3)
            have HB3 := Lib.hid (HB.out.trans (hb3.mono HB.out.size))
            clear hb3 HM HB HGE
            go_wp2_with (first | (with_reducible refine wpl_alloc (o := ⟨some 10, _, _, _, _, _⟩) rfl rfl zero_mark ?_))
            intro w4 hb4 hbw4 hsz4
            have HV4 := Lib.hid hb4
            have HM4 := Lib.hid (HM3.out.call hbw4)
            have HB4 := Lib.hid (HB3.out.trans (hbw4.mono HB3.out.size))
            have HGG := Lib.hid (show g ≠ w3.heap.size ∧ b ≠ w3.heap.size ∧ w.heap.size ≤ w3.heap.size by have := HM3.out.ltg; have := HM3.out.ltb; have := HB3.out.size; omega)
            clear hb4 hbw4 hsz4
            go_wp2_with (first | (with_reducible refine wpl_storeb (o := ⟨none, .store _ _ _, _, _, _, _⟩) rfl rfl row_mark HV4.out rfl rfl HNL.out HML.out HM1.out ?_))
            intro w5 hb5 hg5 hs5
            have HX5 := Lib.hid hb5
            have HM5 := Lib.hid (HM4.out.grown hg5 (by simpa using HGG.out.1) (by simpa using HGG.out.2.1))
            have HB5 := Lib.hid (HB4.out.grown hg5 HB4.out.size (fun q hq => by cases hq; exact HGG.out.2.2))
            clear hb5 hg5 hs5 HV4 HM4 HB4 HM3 HB3
            generalize w3.heap.size = gk at *
            go_wp2_with fail
            repeat' (first | (with_reducible refine wp_phase (id := 16) (fun (_ : Nat) w' => Below w5.heap.size w5 w') [] [(0,0),(0,0),(0,0),(0,0),(0,0),(0,0),(0,0),(0,0),(0,0),(0,0),(0,0),(0,0),(0,0),(0,0)] (by kernel_rfl) (by kernel_rfl) ?_ ?_) | go_values | go_skip | go_guarded | go_step | go_upon | go_back)
            · exact Drawn.all (Drawn.one w5)
            refine ph_value rfl (by first | rfl | go_simp) (fun k_ _ _ w_ hC_ => by first | (go_simp; rfl) | (go_simp; done) | rfl) (fun K hK => ?_)
            go_simp
            refine hK _ ?_
            clear hK K
            refine ph_value rfl (by first | rfl | go_simp) (fun k_ _ _ w_ hC_ => by first | (go_simp; rfl) | (go_simp; done) | rfl) (fun K hK => ?_)
            go_simp
            refine hK _ ?_
            clear hK K
            refine ph_value rfl (by first | rfl | go_simp) (fun k_ _ _ w_ hC_ => by first | (go_simp; rfl) | (go_simp; done) | rfl) (fun K hK => ?_)
            go_simp
            refine hK _ ?_
            clear hK K
            refine ph_value rfl (by first | rfl | go_simp) (fun k_ _ _ w_ hC_ => by first | (go_simp; rfl) | (go_simp; done) | rfl) (fun K hK => ?_)
            go_simp
            refine hK _ ?_
            clear hK K
            refine ph_value rfl (by first | rfl | go_simp) (fun k_ _ _ w_ hC_ => by first | (go_simp; rfl) | (go_simp; done) | rfl) (fun K hK => ?_)
            go_simp
            refine hK _ ?_
            clear hK K
            refine ph_value rfl (by first | rfl | go_simp) (fun k_ _ _ w_ hC_ => by first | (go_simp; rfl) | (go_simp; done) | rfl) (fun K hK => ?_)
            go_simp
            refine hK _ ?_
            clear hK K
            have v3 : IntKind.i64.wrap ex = ex := IntWalk.i64_in _ (by omega)
            refine ph_load rfl (by first | rfl | go_simp) rfl row_mark (fun k _ _ w h => HX5.out.call h) rfl HML.out ?_
            (intro K hK; go_simp; refine hK _ ?_; clear hK K)
            refine ph_value rfl (by first | rfl | go_simp) (fun k_ _ _ w_ hC_ => by first | (go_simp; rfl) | (go_simp; done) | rfl) (fun K hK => ?_)
            go_simp
            refine hK _ ?_
            clear hK K
            refine ph_value rfl (by first | rfl | go_simp) (fun k_ _ _ w_ hC_ => by first | (go_simp; rfl) | (go_simp; done) | rfl) (fun K hK => ?_)
            go_simp
            refine hK _ ?_
            clear hK K
            refine ph_call rfl (by first | rfl | go_simp) (fun w => by first | rfl | (go_simp; rfl) | go_simp) (fun k _ _ w h => (HSX.out w).mono fun e w' ⟨he, hb⟩ => ⟨he, below_step h h.size hb⟩) ?_
            (intro K hK; go_simp; refine hK _ ?_; clear hK K)
            refine ph_call rfl (by first | rfl | go_simp) (fun w => by first | rfl | (go_simp; rfl) | go_simp) (fun k _ _ w h => (HSELF.out w).mono fun e w' ⟨he, hb⟩ => ⟨he, below_step h h.size hb⟩) ?_
            (intro K hK; go_simp; refine hK _ ?_; clear hK K)
            refine ph_value rfl (by first | rfl | go_simp) (fun k_ _ _ w_ hC_ => by first | (go_simp; rfl) | (go_simp; done) | rfl) (fun K hK => ?_)
            go_simp
            refine hK _ ?_
            clear hK K
            refine ph_value rfl (by first | rfl | go_simp) (fun k_ _ _ w_ hC_ => by first | (go_simp; rfl) | (go_simp; done) | rfl) (fun K hK => ?_)
            go_simp
            refine hK _ ?_
            clear hK K
            refine ph_value rfl (by first | rfl | go_simp) (fun k_ _ _ w_ hC_ => by first | (go_simp; rfl) | (go_simp; done) | rfl) (fun K hK => ?_)
            go_simp
            refine hK _ ?_
            clear hK K
            refine ph_nil ?_
            intro w6 hl6
            have HM6 := Lib.hid (HM5.out.call hl6)
            have HB6 := Lib.hid (HB5.out.trans (hl6.mono HB5.out.size))
            clear hl6 HM5 HB5 HX5
            go_wp2_with fail
            go_roundw
            case rel => exact ⟨k + 1, true, by omega, by go_num, rfl, Lib.hid ⟨L2, HM6.out, HL.out, by have := HLL.out; omega, HB6.out⟩⟩
            case measure => simp [intOf]; omega
    · obtain rfl : k = n := by omega
      go_wp2_with fail
      refine (awake20_any _).mono ?_
      rintro e w9 ⟨rfl, hb9⟩
      have HB9 := Lib.hid (HB.out.trans (hb9.mono HB.out.size))
      clear hb9
      go_wp2_with fail
      go_ret
      exact ⟨rfl, HB9.out⟩
end Go.Proofs.Ytolbbhbfbpiljaa

/- The document's example of seisinlaw20, and the walk of MarksOld. -/
import Derived.Test.YtolbbhbfbpiljaaMarkE
namespace Go.Proofs.Ytolbbhbfbpiljaa
open Go.RowKit
set_option linter.unusedVariables false

def oldB (x y : Int) : Bool := inB x 0 1099511627776 && inB y 0 1099511627776 && decide (x + 2 < y)
theorem oldB_iff {x y : Int} : oldB x y = true ↔ (0 ≤ x ∧ x ≤ 1099511627776) ∧ (0 ≤ y ∧ y ≤ 1099511627776) ∧ x + 2 < y := by
  unfold oldB inB; simp; omega
theorem oldB_no {x y : Int} (h : ¬ oldB x y = true) : oldB x y = false := by simpa using h
theorem old_any (x y : Int) (w : World) (hx : I64 x) (hy : I64 y) {r : Bool} (hr : oldB x y = r) : Calls Try.prog 48 #[.int .i64 x, .int .i64 y] w fun e w' => e = .returned (.bool r) ∧ w = w' := by
  rw [← hr]; exact mold_any x y w hx hy
theorem rold_any (x y : Int) (w : World) (hx : I64 x) (hy : I64 y) {r : Bool} (hr : oldB x y = r) : Calls Try.prog 74 #[.int .i64 x, .int .i64 y] w fun e w' => e = .returned (.bool r) ∧ w = w' := by
  obtain ⟨hx1, hx2⟩ := hx
  obtain ⟨hy1, hy2⟩ := hy
  by_cases h1 : 0 ≤ x
  · by_cases h2 : x ≤ 1099511627776
    · by_cases h3 : 3 ≤ y
      · by_cases h4 : y ≤ 1099511627776
        · by_cases h5 : x < y - 2
          · obtain rfl : r = true := by rw [← hr]; exact oldB_iff.2 ⟨⟨h1, h2⟩, ⟨by omega, h4⟩, by omega⟩
            clear hr
            go_enter Try.func74, Try.ntmps74
            go_wp2
            go_ret
            exact ⟨rfl, rfl⟩
          · obtain rfl : r = false := by rw [← hr]; exact oldB_no (fun h => by have := oldB_iff.1 h; omega)
            have d5 : decide (x < y - 2) = false := by simpa using h5
            clear hr
            go_enter Try.func74, Try.ntmps74
            go_wp2
            go_ret
            exact ⟨rfl, rfl⟩
        · obtain rfl : r = false := by rw [← hr]; exact oldB_no (fun h => by have := oldB_iff.1 h; omega)
          have d4 : decide (y ≤ 1099511627776) = false := by simpa using h4
          clear hr
          go_enter Try.func74, Try.ntmps74
          go_wp2
          go_ret
          exact ⟨rfl, rfl⟩
      · obtain rfl : r = false := by rw [← hr]; exact oldB_no (fun h => by have := oldB_iff.1 h; omega)
        have d3 : decide (3 ≤ y) = false := by simpa using h3
        clear hr
        go_enter Try.func74, Try.ntmps74
        go_wp2
        go_ret
        exact ⟨rfl, rfl⟩
    · obtain rfl : r = false := by rw [← hr]; exact oldB_no (fun h => by have := oldB_iff.1 h; omega)
      have d2 : decide (x ≤ 1099511627776) = false := by simpa using h2
      clear hr
      go_enter Try.func74, Try.ntmps74
      go_wp2
      go_ret
      exact ⟨rfl, rfl⟩
  · obtain rfl : r = false := by rw [← hr]; exact oldB_no (fun h => by have := oldB_iff.1 h; omega)
    have d1 : decide (0 ≤ x) = false := by simpa using h1
    clear hr
    go_enter Try.func74, Try.ntmps74
    go_wp2
    go_ret
    exact ⟨rfl, rfl⟩

theorem put1 : putM [] (1, idFour) (someM 3) = 0 := by decide
theorem put2 : putM [((1, idFour), someM 3)] (2, idFour) (someM 3) = 1 := by decide
theorem get1 : lookM [((1, idFour), someM 3)] (1, idFour) = some (someM 3) := by simp [lookM]
theorem mk1 : MKOK (1, idFour) := by simp [MKOK, I64, idFour]
theorem mk2 : MKOK (2, idFour) := by simp [MKOK, I64, idFour]
theorem some_ok : (someM 3).ok := someM_ok (by simp [I64])
theorem exp_at : (markV (someM 3))[137]? = some (.int .i64 3) := mark_exp some_ok
set_option maxRecDepth 100000 in
set_option maxHeartbeats 1000000 in
theorem awake20_any (w : World) : Calls Try.prog 10 #[] w fun e w' => e = .returned (.bool true) ∧ Below w.heap.size w w' := by
  have HNL := Lib.hid (markV_length noMrk_ok)
  have HML := Lib.hid (markV_length some_ok)
  have HM1 := Lib.hid (markV_one (someM 3))
  have T5 := Lib.hid bt5
  have HS := Lib.hid (fun w => some_any w)
  have HP1 := Lib.hid (show ∀ g b w, MarksAt w g b [] → Calls Try.prog 12 #[.pointer (some ⟨g, 0, none⟩), .int .i64 1, .agg (idFour.map B).toArray, markA (someM 3)] w fun e w' => e = .returned (.int .i64 0) ∧ Touched [b] w w' ∧ MarksAt w' g b [((1, idFour), someM 3)] from fun g b w h => (mput_any g b [] (1, idFour) (someM 3) w h mk1 some_ok).mono fun e w' ⟨h1, h2, h3, _⟩ => ⟨by rw [h1, put1], h2, h3 put1⟩)
  have HP2 := Lib.hid (show ∀ g b w, MarksAt w g b [((1, idFour), someM 3)] → Calls Try.prog 12 #[.pointer (some ⟨g, 0, none⟩), .int .i64 2, .agg (idFour.map B).toArray, markA (someM 3)] w fun e w' => e = .returned (.int .i64 1) ∧ Touched [b] w w' ∧ MarksAt w' g b [((1, idFour), someM 3)] from fun g b w h => (mput_any g b [((1, idFour), someM 3)] (2, idFour) (someM 3) w h mk2 some_ok).mono fun e w' ⟨h1, h2, _, h3⟩ => ⟨by rw [h1, put2], h2, h3 (by rw [put2]; decide)⟩)
  have HG := Lib.hid (show ∀ g b w, MarksAt w g b [((1, idFour), someM 3)] → Calls Try.prog 15 #[.pointer (some ⟨g, 0, none⟩), .int .i64 1, .agg (idFour.map B).toArray] w fun e w' => e = .returned (.tuple #[markA (someM 3), .bool true]) ∧ Below w.heap.size w w' from fun g b w h => (mget_any g b [((1, idFour), someM 3)] (1, idFour) w h mk1).mono fun e w' ⟨h1, h2⟩ => ⟨by rw [h1, get1]; rfl, h2⟩)
  have HX := Lib.hid exp_at
  unfold markA at HS HP1 HP2 HG
  obtain ⟨ms, hms⟩ : ∃ ms, ms = markV (someM 3) := ⟨_, rfl⟩
  rw [← hms] at HS HP1 HP2 HG HML HM1 HX
  obtain ⟨ids, hids⟩ : ∃ ids, ids = idFour.map B := ⟨_, rfl⟩
  rw [← hids] at T5 HP1 HP2 HG
  clear hms hids
  obtain ⟨z, hz⟩ : ∃ z, z = w.heap.size := ⟨_, rfl⟩
  have HZ := Lib.hid hz
  clear hz
  go_enter Try.func10, Try.ntmps10
  go_wp2_with fail
  refine (mnew_any _).mono ?_
  rintro e w1 ⟨g, b, rfl, hM, hg, hb, hbw⟩
  rw [← HZ.out] at hg hb hbw
  have HM := Lib.hid hM
  have HB := Lib.hid hbw
  have HSZ := Lib.hid (show z ≤ w1.heap.size by have := hM.ltg; omega)
  clear hM hbw
  go_wp2_with (first | (refine wpl_buildw (o := ⟨some 9, _, _, _, _, _⟩) (by first | rfl | (go_simp; done) | fail) rfl T5.out ?_))
  refine (HS.out _).mono ?_
  rintro e w2 ⟨rfl, hb2⟩
  have HM2 := Lib.hid (HM.out.call hb2)
  have HB2 := Lib.hid (HB.out.trans (hb2.mono HSZ.out))
  have HSZ2 := Lib.hid (Nat.le_trans HSZ.out hb2.size)
  clear hb2 HM HB HSZ
  go_wp2_with fail
  refine (HP1.out g b _ HM2.out).mono ?_
  rintro e w3 ⟨rfl, ht, hM3⟩
  have HM3 := Lib.hid hM3
  have HB3 := Lib.hid (HB2.out.trans (ht.below (by simp; omega) HSZ2.out))
  have HSZ3 := Lib.hid (Nat.le_trans HSZ2.out ht.size)
  clear ht hM3 HM2 HB2 HSZ2
  go_wp2_with (first | (refine wpl_buildw (o := ⟨some 16, _, _, _, _, _⟩) (by first | rfl | (go_simp; done) | fail) rfl T5.out ?_))
  refine (HS.out _).mono ?_
  rintro e w4 ⟨rfl, hb2⟩
  have HM4 := Lib.hid (HM3.out.call hb2)
  have HB4 := Lib.hid (HB3.out.trans (hb2.mono HSZ3.out))
  have HSZ4 := Lib.hid (Nat.le_trans HSZ3.out hb2.size)
  clear hb2 HM3 HB3 HSZ3
  go_wp2_with fail
  refine (HP2.out g b _ HM4.out).mono ?_
  rintro e w5 ⟨rfl, ht, hM5⟩
  have HM5 := Lib.hid hM5
  have HB5 := Lib.hid (HB4.out.trans (ht.below (by simp; omega) HSZ4.out))
  have HSZ5 := Lib.hid (Nat.le_trans HSZ4.out ht.size)
  clear ht hM5 HM4 HB4 HSZ4
  go_wp2_with (first | (refine wpl_build (o := ⟨some 23, _, _, _, _, _⟩) rfl rfl T5.out ?_))
  refine (HG.out g b _ HM5.out).mono ?_
  rintro e w6 ⟨rfl, hb2⟩
  have HM6 := Lib.hid (HM5.out.call hb2)
  have HB6 := Lib.hid (HB5.out.trans (hb2.mono HSZ5.out))
  have HSZ6 := Lib.hid (Nat.le_trans HSZ5.out hb2.size)
  clear hb2 HM5 HB5 HSZ5
  go_wp2_with (first | (with_reducible refine wpl_alloc (o := ⟨some 2, _, _, _, _, _⟩) rfl rfl zero_mark ?_))
  intro w7 hb7 hbw7 hsz7
  have HV7 := Lib.hid hb7
  have HM7 := Lib.hid (HM6.out.call hbw7)
  have HB7 := Lib.hid (HB6.out.trans (hbw7.mono HSZ6.out))
  have HGG := Lib.hid (show g ≠ w6.heap.size ∧ b ≠ w6.heap.size by have := HM6.out.ltg; have := HM6.out.ltb; omega)
  clear hb7 hbw7
  go_wp2_with (first | (with_reducible refine wpl_storeb (o := ⟨none, .store _ _ _, _, _, _, _⟩) rfl rfl row_mark HV7.out rfl rfl HNL.out HML.out HM1.out ?_))
  intro w8 hb8 hg8 hs8
  have c137 := hb8.at_ HX.out
  have HM8 := Lib.hid (show MarksAt w8 g b [((1, idFour), someM 3)] by
    obtain ⟨q1, ⟨es, clock, q2, q3, q4⟩, q5, q6⟩ := HM7.out
    exact ⟨q1.grown hg8 (by simpa using HGG.out.1), ⟨es, clock, (hg8.block b HM7.out.ltb (by simpa using HGG.out.2)).trans q2, q3, q4⟩, q5, q6⟩)
  have HB8 := Lib.hid (HB7.out.grown hg8 (by have := HSZ6.out; omega) (fun k hk => by cases hk; exact HSZ6.out))
  clear hb8 hg8 hs8 HV7 HM7 HB7 HM6 HB6
  go_wp2_with fail
  refine (mlen_any g b _ _ HM8.out).mono ?_
  rintro e w9 ⟨rfl, rfl⟩
  go_wp2_with fail
  refine (old_any 3 5 _ (by simp [I64]) (by simp [I64]) (r := false) (by decide)).mono ?_
  rintro e w9 ⟨rfl, rfl⟩
  go_wp2_with fail
  refine (old_any 3 6 _ (by simp [I64]) (by simp [I64]) (r := true) (by decide)).mono ?_
  rintro e w9 ⟨rfl, rfl⟩
  go_wp2_with fail
  go_ret
  exact ⟨rfl, by rw [← HZ.out]; exact HB8.out⟩
end Go.Proofs.Ytolbbhbfbpiljaa

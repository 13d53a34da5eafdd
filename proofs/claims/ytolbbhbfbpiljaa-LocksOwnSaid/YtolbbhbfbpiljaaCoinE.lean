/- seisinlaw19.awake, and the walk of CoinsOrder. -/
import Derived.Test.YtolbbhbfbpiljaaCoinD
namespace Go.Proofs.Ytolbbhbfbpiljaa
open Go.RowKit
set_option linter.unusedVariables false

def pt (i : Int) : PtK := (List.replicate 32 0, i)
def cn (a : Int) : CoinV := (List.replicate 32 0, a)
theorem pt_ok (i : Int) (h : (Lit.int .i64 i).wf = true) : PtOK (pt i) := ⟨by simp [pt], h⟩
theorem cn_ok (a : Int) (h : 0 ≤ a) (h2 : a ≤ 18446744073709551615) : CoinOK (cn a) := ⟨by simp [cn], h, h2⟩

theorem two_ge {B g b : Nat} (h1 : B ≤ g) (h2 : B ≤ b) : ∀ k ∈ [g, b], B ≤ k := by
  intro k hk
  simp at hk
  rcases hk with rfl | rfl <;> assumption
theorem CoinsAt.grown {w w' : World} {g b : Nat} {L : CoinsL} {s : Int} {row : Option Nat} (h : CoinsAt w g b L s) (hg : w.grownBy w' row) (h1 : some g ≠ row) (h2 : some b ≠ row) : CoinsAt w' g b L s := by
  obtain ⟨q1, ⟨e1, c1, q2, q3, q4⟩, q5, q6⟩ := h
  exact ⟨q1.grown hg h1, ⟨e1, c1, (hg.block b (Array.getElem?_eq_some_iff.1 q2).1 h2).trans q2, q3, q4⟩, q5, q6⟩

set_option maxRecDepth 100000 in
set_option maxHeartbeats 1000000 in
theorem awake19 (w : World) : Calls Try.prog 26 #[] w fun e w' => e = .returned (.bool true) ∧ Below w.heap.size w w' := by
  have e1 : putR [] 0 (pt 0) (cn 0) = 5 := by decide +kernel
  have e2 : putR [] 0 (pt 2) (cn 7) = 0 := by decide +kernel
  have e3 : addE 0 7 = (7, 0) := by decide +kernel
  have e4 : (lookC [(pt 2, cn 7)] (pt 2)) = some (cn 7) := by decide +kernel
  have e5 : cmpP (pt 0) (pt 2) = -1 := by decide +kernel
  have E1 := Lib.hid e1; have E2 := Lib.hid e2; have E3 := Lib.hid e3; have E4 := Lib.hid e4; have E5 := Lib.hid e5
  clear e1 e2 e3 e4 e5
  go_enter Try.func26, Try.ntmps26
  go_wp2_with fail
  refine (new_any _).mono ?_
  rintro e w1 ⟨g, b, rfl, hc, hg, hb, hbw⟩
  have HC1 := Lib.hid hc; have HB1 := Lib.hid hbw
  have HG := Lib.hid hg; have HBB := Lib.hid hb
  clear hc hbw hg hb
  go_wp2_with fail
  refine Calls.mono (show Calls Try.prog 30 _ w1 _ from put_any g b [] 0 (pt 0) (cn 0) w1 HC1.out (pt_ok 0 (by decide)) (cn_ok 0 (by omega) (by omega)) (by omega) (by omega)) ?_
  rintro e w2 ⟨rfl, ht, -, hc⟩
  have HC2 := Lib.hid (hc (by rw [E1.out]; omega))
  have HT2 := Lib.hid ht
  rw [E1.out]
  clear hc ht HC1
  go_wp2_with fail
  refine Calls.mono (show Calls Try.prog 30 _ w2 _ from put_any g b [] 0 (pt 2) (cn 7) w2 HC2.out (pt_ok 2 (by decide)) (cn_ok 7 (by omega) (by omega)) (by omega) (by omega)) ?_
  rintro e w3 ⟨rfl, ht, hc, -⟩
  have HC3 := Lib.hid (hc E2.out)
  have HT3 := Lib.hid (HT2.out.trans ht)
  rw [E2.out]
  clear hc ht HC2 HT2
  go_wp2_with fail
  refine Calls.mono (show Calls Try.prog 33 _ w3 _ from get_any g b _ _ (pt 2) w3 HC3.out (pt_ok 2 (by decide))) ?_
  rintro e w4 ⟨rfl, hb4⟩
  have HC4 := Lib.hid (HC3.out.call hb4)
  have HT4 := Lib.hid (HT3.out.step hb4)
  rw [show lookC ([] ++ [(pt 2, cn 7)]) (pt 2) = some (cn 7) from E4.out]
  clear hb4 HC3 HT3
  rw [show coinA ((some (cn 7)).getD noCoin) = .agg (coinV (cn 7)).toArray from rfl]
  obtain ⟨cs, hcs⟩ : ∃ cs, cs = coinV (cn 7) := ⟨_, rfl⟩
  rw [← hcs]
  have HL := Lib.hid (show cs.length = 33 by rw [hcs]; rfl)
  have HO := Lib.hid (show ∀ u ∈ cs, u.oneCell' = true by rw [hcs]; exact coinV_one _)
  have HI := Lib.hid (show cs[32]? = some (.int .u64 7) by rw [hcs]; rfl)
  clear hcs
  go_wp2_with (first | (with_reducible refine wpl_alloc (o := ⟨some 2, _, _, _, _, _⟩) rfl rfl zero_coin ?_))
  intro w5 hb5 hbw5 hsz5
  have HC5 := Lib.hid (HC4.out.call hbw5)
  have HT5 := Lib.hid (HT4.out.step hbw5)
  have HX5 := Lib.hid hb5
  have hgx := HC4.out.ltg
  have hbx := HC4.out.ltb
  have hxx : w.heap.size ≤ w4.heap.size := Nat.le_trans HB1.out.size HT4.out.size
  generalize hxg : w4.heap.size = xg at *
  clear hbw5 hsz5 hb5 HC4
  go_wp2_with (first | (with_reducible refine wpl_storeb (o := ⟨none, .store _ _ _, _, _, _, _⟩) rfl rfl row_coin HX5.out rfl rfl (coinV_length noCoin_ok) HL.out HO.out ?_))
  intro w6 hb6 hg6 hs6
  have HC6 := Lib.hid (HC5.out.grown hg6 (by simp; omega) (by simp; omega))
  have HB6 := Lib.hid ((HB1.out.trans (HT5.out.below (B := w.heap.size) (two_ge HG.out HBB.out) HB1.out.size)).grown hg6 (Nat.le_trans HB1.out.size HT5.out.size) (fun k hk => by cases hk; exact hxx))
  have c6 := hb6.at_ HI.out
  clear hb6 hg6 hs6 HX5 HC5 HT5 hgx hbx hxx hxg
  go_wp2_with fail
  refine (len_any _ _ _ _ _ HC6.out).mono ?_
  rintro e w7 ⟨rfl, rfl⟩
  go_wp2_with fail
  refine (csum_any _ _ _ _ _ HC6.out).mono ?_
  rintro e w7 ⟨rfl, rfl⟩
  rw [show (addE 0 (cn 7).2).1 = 7 by rw [show (cn 7).2 = 7 from rfl, E3.out]]
  go_wp2_with fail
  refine Calls.mono (show Calls Try.prog 59 _ w6 _ from ccmp_any (pt 0) (pt 2) w6 (by simp [pt]) (by simp [pt])) ?_
  rintro e w7 ⟨rfl, hb7⟩
  rw [E5.out]
  have HB7 := Lib.hid (HB6.out.trans (hb7.mono HB6.out.size))
  clear hb7
  go_wp2_with fail
  go_ret
  exact ⟨rfl, HB7.out⟩
end Go.Proofs.Ytolbbhbfbpiljaa

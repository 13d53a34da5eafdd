/- The walk of awake (layer 26). -/
import Derived.Test.YtmchpopllhnahaaQK
namespace Go.Proofs.Ytmchpopllhnahaa
open Go.RowKit
set_option linter.unusedVariables false
def wNan : Wt := ⟨0, 1, 9221120237041090561, []⟩
def wTwo : Wt := ⟨0, 2, 0, []⟩
def wInf : Wt := ⟨0, 3, 9218868437227405312, []⟩
theorem push_1 : pushP [] wNan = ([wNan], noWt, 0) := by decide +kernel
theorem push_2 : pushP [wNan] wTwo = ([wTwo, wNan], noWt, 0) := by decide +kernel
theorem push_3 : pushP [wTwo, wNan] wInf = ([wInf, wTwo, wNan], noWt, 0) := by decide +kernel
theorem bt_nan : Try.prog.built 29 [(1, .int .i64 1), (2, .float .f64 9221120237041090561)] = some (wtV nilS wNan).toArray := by rw [built_wt]; rfl
theorem bt_two : Try.prog.built 29 [(1, .int .i64 2)] = some (wtV nilS wTwo).toArray := by rw [built_wt]; rfl
theorem bt_inf : Try.prog.built 29 [(1, .int .i64 3), (2, .float .f64 9218868437227405312)] = some (wtV nilS wInf).toArray := by rw [built_wt]; rfl
theorem npush_1 {w : World} {base g : Nat} {M : List Nat} (h : QP w base g [] M []) : Calls Try.prog 9 #[.pointer (some ⟨g, 0, none⟩), .agg (wtV nilS wNan).toArray] w fun e w' => ∃ vo M', e = .returned (.tuple #[.agg (wtV vo noWt).toArray, .int .i64 0]) ∧ QP w' base g [] M' [wNan] ∧ Step w M w' M' := by
  refine (lpush_any (v := nilS) (p := wNan) h (BV.nil w M) ⟨by decide, by decide⟩).mono ?_
  rintro e w' ⟨vo, M', h1, _, h3, h4⟩
  rw [push_1] at h1 h3
  exact ⟨vo, M', h1, h3, h4⟩
theorem npush_2 {w : World} {base g : Nat} {M : List Nat} (h : QP w base g [] M [wNan]) : Calls Try.prog 9 #[.pointer (some ⟨g, 0, none⟩), .agg (wtV nilS wTwo).toArray] w fun e w' => ∃ vo M', e = .returned (.tuple #[.agg (wtV vo noWt).toArray, .int .i64 0]) ∧ QP w' base g [] M' [wTwo, wNan] ∧ Step w M w' M' := by
  refine (lpush_any (v := nilS) (p := wTwo) h (BV.nil w M) ⟨by decide, by decide⟩).mono ?_
  rintro e w' ⟨vo, M', h1, _, h3, h4⟩
  rw [push_2] at h1 h3
  exact ⟨vo, M', h1, h3, h4⟩
theorem npush_3 {w : World} {base g : Nat} {M : List Nat} (h : QP w base g [] M [wTwo, wNan]) : Calls Try.prog 9 #[.pointer (some ⟨g, 0, none⟩), .agg (wtV nilS wInf).toArray] w fun e w' => ∃ vo M', e = .returned (.tuple #[.agg (wtV vo noWt).toArray, .int .i64 0]) ∧ QP w' base g [] M' [wInf, wTwo, wNan] ∧ Step w M w' M' := by
  refine (lpush_any (v := nilS) (p := wInf) h (BV.nil w M) ⟨by decide, by decide⟩).mono ?_
  rintro e w' ⟨vo, M', h1, _, h3, h4⟩
  rw [push_3] at h1 h3
  exact ⟨vo, M', h1, h3, h4⟩
theorem npop_1 {w : World} {base g : Nat} {M : List Nat} (h : QP w base g [] M [wInf, wTwo, wNan]) : Calls Try.prog 11 #[.pointer (some ⟨g, 0, none⟩)] w fun e w' => ∃ vo, e = .returned (.tuple #[.agg (wtV vo wInf).toArray, .bool true]) ∧ vo.oneCell' = true ∧ QP w' base g [] M [wTwo, wNan] ∧ Step w M w' M := by
  refine (lpop_any h).mono ?_
  rintro e w' ⟨vo, h1, h2, h3, h4⟩
  exact ⟨vo, h1, h2.one, h3, h4⟩
theorem npop_2 {w : World} {base g : Nat} {M : List Nat} (h : QP w base g [] M [wTwo, wNan]) : Calls Try.prog 11 #[.pointer (some ⟨g, 0, none⟩)] w fun e w' => ∃ vo, e = .returned (.tuple #[.agg (wtV vo wTwo).toArray, .bool true]) ∧ vo.oneCell' = true ∧ QP w' base g [] M [wNan] ∧ Step w M w' M := by
  refine (lpop_any h).mono ?_
  rintro e w' ⟨vo, h1, h2, h3, h4⟩
  exact ⟨vo, h1, h2.one, h3, h4⟩
theorem npop_3 {w : World} {base g : Nat} {M : List Nat} (h : QP w base g [] M [wNan]) : Calls Try.prog 11 #[.pointer (some ⟨g, 0, none⟩)] w fun e w' => ∃ vo, e = .returned (.tuple #[.agg (wtV vo wNan).toArray, .bool true]) ∧ vo.oneCell' = true ∧ QP w' base g [] M [] ∧ Step w M w' M := by
  refine (lpop_any h).mono ?_
  rintro e w' ⟨vo, h1, h2, h3, h4⟩
  exact ⟨vo, h1, h2.one, h3, h4⟩
theorem npop_4 {w : World} {base g : Nat} {M : List Nat} (h : QP w base g [] M []) : Calls Try.prog 11 #[.pointer (some ⟨g, 0, none⟩)] w fun e w' => ∃ vo, e = .returned (.tuple #[.agg (wtV vo noWt).toArray, .bool false]) ∧ vo.oneCell' = true ∧ QP w' base g [] M [] ∧ Step w M w' M := by
  refine (lpop_any h).mono ?_
  rintro e w' ⟨vo, h1, h2, h3, h4⟩
  exact ⟨vo, h1, h2.one, h3, h4⟩
set_option maxRecDepth 100000 in
set_option maxHeartbeats 4000000 in
theorem awake26_any (w : World) : Calls Try.prog 7 #[] w fun e w' => e = .returned (.bool true) ∧ Grow w w' := by
  have HB1 := Lib.hid bt_nan; have HB2 := Lib.hid bt_two; have HB3 := Lib.hid bt_inf
  go_enter Try.func7, Try.ntmps7
  go_wp2_with fail
  refine (lnew_any (Nat.le_refl _)).mono ?_
  rintro e w1 ⟨g, rfl, hq, hb, hg⟩
  have HQ := Lib.hid hq
  have HB := Lib.hid (show Below w.heap.size w w1 from hb)
  clear hq hb hg
  go_wp2_with fail
  refine ((mnan _)).mono ?_
  rintro e w_ ⟨rfl, rfl⟩
  go_wp2_with (first | (with_reducible refine wpl_stop (o := ⟨some 15, _, _, _, _, _⟩) ?_))
  refine stop_go ?_
  refine wpl_build rfl rfl HB1.out ?_
  go_wp2_with fail
  refine (npush_1 HQ.out).mono ?_
  rintro e w2 ⟨vo, M2, rfl, hq, hs⟩
  have HQ2 := Lib.hid hq
  have HBq := Lib.hid (HQ.out.below HB.out hs)
  clear hq hs HQ HB
  go_wp2_with (first | (with_reducible refine wpl_stop (o := ⟨some 18, _, _, _, _, _⟩) ?_))
  refine stop_go ?_
  refine wpl_build rfl rfl HB2.out ?_
  go_wp2_with fail
  refine (npush_2 HQ2.out).mono ?_
  rintro e w3 ⟨vo2, M3, rfl, hq, hs⟩
  have HQ3 := Lib.hid hq
  have HB := Lib.hid (HQ2.out.below HBq.out hs)
  clear hq hs HQ2 HBq
  go_wp2_with fail
  refine ((minf_pos _)).mono ?_
  rintro e w_ ⟨rfl, rfl⟩
  go_wp2_with (first | (with_reducible refine wpl_stop (o := ⟨some 22, _, _, _, _, _⟩) ?_))
  refine stop_go ?_
  refine wpl_build rfl rfl HB3.out ?_
  go_wp2_with fail
  refine (npush_3 HQ3.out).mono ?_
  rintro e w4 ⟨vo3, M, rfl, hq, hs⟩
  have HQ := Lib.hid hq
  have HBq := Lib.hid (HQ3.out.below HB.out hs)
  clear hq hs HQ3 HB
  try clear w1
  try clear w2
  try clear w3
  have HB := HBq
  clear HBq
  rename World => w_
  go_wp2_with fail
  refine (npop_1 HQ.out).mono ?_
  rintro e w2_ ⟨v1, rfl, h1, hq, hs⟩
  have HD := Lib.hid (wtV_cl wInf h1)
  have HQ_ := Lib.hid hq
  have HB_ := Lib.hid (HQ.out.below HB.out hs)
  clear hq hs HQ HB h1
  have HQ := HQ_; have HB := HB_
  clear HQ_ HB_
  try clear w_
  rename World => w_
  have HA0 := Lib.hid (show (wtV v1 wInf)[1]? = some (.int .i64 3) from rfl)
  obtain ⟨y1, hy⟩ : ∃ x, x = wtV v1 wInf := ⟨_, rfl⟩
  rw [← hy] at HD HA0 ⊢
  clear hy
  have HML_ := Lib.hid (fun b hb => (HQ.out.lts b hb).2)
  go_wp2_with (first | (with_reducible refine wpl_alloc (o := ⟨some 2, _, _, _, _, _⟩) rfl rfl zero_wait ?_))
  intro w1_ hb1_ hbw1_ hsz1_
  have HB1_ := Lib.hid (at_mk hb1_ len_wait)
  have HBW1_ := Lib.hid hbw1_
  have HZ1_ := Lib.hid hsz1_
  clear hb1_ hbw1_ hsz1_
  go_wp2_with (first | (with_reducible refine wpl_storeb (o := ⟨none, .store _ _ _, _, _, _, _⟩) rfl rfl row_wait HB1_.out.blk rfl rfl HB1_.out.len HD.out.len HD.out.one ?_))
  intro w2_ hb2_ hg2_ hsz2_
  have HG_ := Lib.hid HB.out.size
  have hb_ := var_grow HBW1_.out HZ1_.out hg2_
  have HX_ := Lib.hid (at_mk hb2_ HD.out.len)
  clear hb2_ hg2_ hsz2_ HB1_ HBW1_ HZ1_
  have HB_ := Lib.hid (HB.out.grow' hb_)
  clear HB
  have HB := HB_
  clear HB_
  have HQ_ := Lib.hid (HQ.out.grow hb_)
  clear HQ
  have HQ := HQ_
  clear HQ_
  generalize hg_ : w_.heap.size = gA at HX_ HG_ HML_ ⊢
  clear hg_
  have HA := HX_
  clear hb_ HX_
  clear w1_
  try clear w_
  rename World => w_
  have HA_g := HG_
  clear HG_
  have HA_n := Lib.hid (show gA ∉ M from fun hm => Nat.lt_irrefl _ (HML_.out _ hm))
  clear HML_
  go_wp2_with fail
  refine (npop_2 HQ.out).mono ?_
  rintro e w2_ ⟨v2, rfl, h1, hq, hs⟩
  have HD := Lib.hid (wtV_cl wTwo h1)
  have HQ_ := Lib.hid hq
  have HB_ := Lib.hid (HQ.out.below HB.out hs)
  have HA_ := Lib.hid (HA.out.step HA_n.out hs)
  clear hq hs HQ HB h1 HA
  have HQ := HQ_; have HB := HB_
  have HA := Lib.hid HA_.out.1
  clear HQ_ HB_ HA_
  try clear w_
  rename World => w_
  have HC0 := Lib.hid (show (wtV v2 wTwo)[1]? = some (.int .i64 2) from rfl)
  obtain ⟨y2, hy⟩ : ∃ x, x = wtV v2 wTwo := ⟨_, rfl⟩
  rw [← hy] at HD HC0 ⊢
  clear hy
  have HML_ := Lib.hid (fun b hb => (HQ.out.lts b hb).2)
  go_wp2_with (first | (with_reducible refine wpl_alloc (o := ⟨some 4, _, _, _, _, _⟩) rfl rfl zero_wait ?_))
  intro w1_ hb1_ hbw1_ hsz1_
  have HB1_ := Lib.hid (at_mk hb1_ len_wait)
  have HBW1_ := Lib.hid hbw1_
  have HZ1_ := Lib.hid hsz1_
  clear hb1_ hbw1_ hsz1_
  go_wp2_with (first | (with_reducible refine wpl_storeb (o := ⟨none, .store _ _ _, _, _, _, _⟩) rfl rfl row_wait HB1_.out.blk rfl rfl HB1_.out.len HD.out.len HD.out.one ?_))
  intro w2_ hb2_ hg2_ hsz2_
  have HG_ := Lib.hid HB.out.size
  have hb_ := var_grow HBW1_.out HZ1_.out hg2_
  have HX_ := Lib.hid (at_mk hb2_ HD.out.len)
  clear hb2_ hg2_ hsz2_ HB1_ HBW1_ HZ1_
  have HB_ := Lib.hid (HB.out.grow' hb_)
  clear HB
  have HB := HB_
  clear HB_
  have HQ_ := Lib.hid (HQ.out.grow hb_)
  clear HQ
  have HQ := HQ_
  clear HQ_
  have HA_ := Lib.hid (HA.out.grow hb_)
  clear HA
  have HA := HA_
  clear HA_
  generalize hg_ : w_.heap.size = gC at HX_ HG_ HML_ ⊢
  clear hg_
  have HC := HX_
  clear hb_ HX_
  clear w1_
  try clear w_
  rename World => w_
  have HC_g := HG_
  clear HG_
  have HC_n := Lib.hid (show gC ∉ M from fun hm => Nat.lt_irrefl _ (HML_.out _ hm))
  clear HML_
  go_wp2_with fail
  refine (npop_3 HQ.out).mono ?_
  rintro e w2_ ⟨v3, rfl, h1, hq, hs⟩
  have HD := Lib.hid (wtV_cl wNan h1)
  have HQ_ := Lib.hid hq
  have HB_ := Lib.hid (HQ.out.below HB.out hs)
  have HA_ := Lib.hid (HA.out.step HA_n.out hs)
  have HC_ := Lib.hid (HC.out.step HC_n.out hs)
  clear hq hs HQ HB h1 HA HC
  have HQ := HQ_; have HB := HB_
  have HA := Lib.hid HA_.out.1
  have HC := Lib.hid HC_.out.1
  clear HQ_ HB_ HA_ HC_
  try clear w_
  rename World => w_
  have HE0 := Lib.hid (show (wtV v3 wNan)[1]? = some (.int .i64 1) from rfl)
  obtain ⟨y3, hy⟩ : ∃ x, x = wtV v3 wNan := ⟨_, rfl⟩
  rw [← hy] at HD HE0 ⊢
  clear hy
  have HML_ := Lib.hid (fun b hb => (HQ.out.lts b hb).2)
  go_wp2_with (first | (with_reducible refine wpl_alloc (o := ⟨some 6, _, _, _, _, _⟩) rfl rfl zero_wait ?_))
  intro w1_ hb1_ hbw1_ hsz1_
  have HB1_ := Lib.hid (at_mk hb1_ len_wait)
  have HBW1_ := Lib.hid hbw1_
  have HZ1_ := Lib.hid hsz1_
  clear hb1_ hbw1_ hsz1_
  go_wp2_with (first | (with_reducible refine wpl_storeb (o := ⟨none, .store _ _ _, _, _, _, _⟩) rfl rfl row_wait HB1_.out.blk rfl rfl HB1_.out.len HD.out.len HD.out.one ?_))
  intro w2_ hb2_ hg2_ hsz2_
  have HG_ := Lib.hid HB.out.size
  have hb_ := var_grow HBW1_.out HZ1_.out hg2_
  have HX_ := Lib.hid (at_mk hb2_ HD.out.len)
  clear hb2_ hg2_ hsz2_ HB1_ HBW1_ HZ1_
  have HB_ := Lib.hid (HB.out.grow' hb_)
  clear HB
  have HB := HB_
  clear HB_
  have HQ_ := Lib.hid (HQ.out.grow hb_)
  clear HQ
  have HQ := HQ_
  clear HQ_
  have HA_ := Lib.hid (HA.out.grow hb_)
  clear HA
  have HA := HA_
  clear HA_
  have HC_ := Lib.hid (HC.out.grow hb_)
  clear HC
  have HC := HC_
  clear HC_
  generalize hg_ : w_.heap.size = gE at HX_ HG_ HML_ ⊢
  clear hg_
  have HE := HX_
  clear hb_ HX_
  clear w1_
  try clear w_
  rename World => w_
  have HE_g := HG_
  clear HG_
  have HE_n := Lib.hid (show gE ∉ M from fun hm => Nat.lt_irrefl _ (HML_.out _ hm))
  clear HML_
  go_wp2_with fail
  refine (npop_4 HQ.out).mono ?_
  rintro e w2_ ⟨v4, rfl, h1, hq, hs⟩
  have HD := Lib.hid (wtV_cl noWt h1)
  have HQ_ := Lib.hid hq
  have HB_ := Lib.hid (HQ.out.below HB.out hs)
  have HA_ := Lib.hid (HA.out.step HA_n.out hs)
  have HC_ := Lib.hid (HC.out.step HC_n.out hs)
  have HE_ := Lib.hid (HE.out.step HE_n.out hs)
  clear hq hs HQ HB h1 HA HC HE
  have HQ := HQ_; have HB := HB_
  have HA := Lib.hid HA_.out.1
  have HC := Lib.hid HC_.out.1
  have HE := Lib.hid HE_.out.1
  clear HQ_ HB_ HA_ HC_ HE_
  try clear w_
  rename World => w_
  have HF0 := Lib.hid (show (wtV v4 noWt)[1]? = some (.int .i64 0) from rfl)
  obtain ⟨y4, hy⟩ : ∃ x, x = wtV v4 noWt := ⟨_, rfl⟩
  rw [← hy] at HD HF0 ⊢
  clear hy
  have HML_ := Lib.hid (fun b hb => (HQ.out.lts b hb).2)
  go_wp2_with (first | (with_reducible refine wpl_alloc (o := ⟨some 8, _, _, _, _, _⟩) rfl rfl zero_wait ?_))
  intro w1_ hb1_ hbw1_ hsz1_
  have HB1_ := Lib.hid (at_mk hb1_ len_wait)
  have HBW1_ := Lib.hid hbw1_
  have HZ1_ := Lib.hid hsz1_
  clear hb1_ hbw1_ hsz1_
  go_wp2_with (first | (with_reducible refine wpl_storeb (o := ⟨none, .store _ _ _, _, _, _, _⟩) rfl rfl row_wait HB1_.out.blk rfl rfl HB1_.out.len HD.out.len HD.out.one ?_))
  intro w2_ hb2_ hg2_ hsz2_
  have HG_ := Lib.hid HB.out.size
  have hb_ := var_grow HBW1_.out HZ1_.out hg2_
  have HX_ := Lib.hid (at_mk hb2_ HD.out.len)
  clear hb2_ hg2_ hsz2_ HB1_ HBW1_ HZ1_
  have HB_ := Lib.hid (HB.out.grow' hb_)
  clear HB
  have HB := HB_
  clear HB_
  have HQ_ := Lib.hid (HQ.out.grow hb_)
  clear HQ
  have HQ := HQ_
  clear HQ_
  have HA_ := Lib.hid (HA.out.grow hb_)
  clear HA
  have HA := HA_
  clear HA_
  have HC_ := Lib.hid (HC.out.grow hb_)
  clear HC
  have HC := HC_
  clear HC_
  have HE_ := Lib.hid (HE.out.grow hb_)
  clear HE
  have HE := HE_
  clear HE_
  generalize hg_ : w_.heap.size = gF at HX_ HG_ HML_ ⊢
  clear hg_
  have HF := HX_
  clear hb_ HX_
  clear w1_
  try clear w_
  rename World => w_
  have HF_g := HG_
  clear HG_
  have HF_n := Lib.hid (show gF ∉ M from fun hm => Nat.lt_irrefl _ (HML_.out _ hm))
  clear HML_
  have c1 := HA.out.blk.at_ HA0.out
  have c2 := HC.out.blk.at_ HC0.out
  have c3 := HE.out.blk.at_ HE0.out
  go_wp2_with fail
  go_ret
  exact ⟨rfl, HB.out⟩
end Go.Proofs.Ytmchpopllhnahaa

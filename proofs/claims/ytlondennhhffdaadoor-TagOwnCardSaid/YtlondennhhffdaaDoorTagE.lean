/- The walks of seisinlaw06: awake, TagTells, TagRings. -/
import Derived.Test.YtlondennhhffdaaDoorTagD
import Derived.Test.YtlondennhhffdaaDoorOpenE
import Derived.Test.YtlondennhhffdaaDoorRefG
namespace Go.Proofs.YtlondennhhffdaaDoor
open Go.RowKit Go.Shelf
set_option linter.unusedVariables false

theorem awake6_ne : tagB (tagB [1] [0]) [5] ≠ tagB (tagB [1] [1]) [5] := by decide +kernel
theorem tis_b {d : Bool} (A A2 : Option Addr) (n c n2 c2 : Nat) (key bs t : List UInt8) {xs : List Value} (hd : decide (tagB key bs = t) = d) (hx : Dig xs t) (w : World) (hs : Sl w w.heap.size 1 A n (key.map B)) (hs2 : Sl w w.heap.size 1 A2 n2 (bs.map B)) (hc : n ≤ c) (hc2 : n2 ≤ c2) (hn : n ≤ 1099511627776) (hn2 : n2 ≤ 1000000) (ht : Tabs w) :
    Calls Tryd.prog 30 #[.slice A n c, .slice A2 n2 c2, .agg xs.toArray] w fun e w' => e = .returned (.bool d) ∧ Below w.heap.size w w' := by
  subst hd; exact tis_any A A2 n c n2 c2 key bs t hx w hs hs2 hc hc2 hn hn2 ht
theorem ris_b {b : Bool} {g : Nat} {A A2 : Option Addr} {n c n2 c2 k : Nat} {ds : List (List UInt8)} {bs d t : List UInt8} {xs : List Value} (hb : decide (tagB d bs = t) = b) (hd : ds[k]? = some d) (hx : Dig xs t) (w : World) (hr : RingAt w g A n c ds) (hn : n ≤ 64) (hs2 : Sl w w.heap.size 1 A2 n2 (bs.map B)) (hc2 : n2 ≤ c2) (hn2 : n2 ≤ 1000000) (ht : Tabs w) :
    Calls Tryd.prog 34 #[.pointer (some ⟨g, 0, none⟩), .int .i64 k, .slice A2 n2 c2, .agg xs.toArray] w fun e w' => e = .returned (.bool b) ∧ Below w.heap.size w w' := by
  subst hb; exact ris_yes hd hx w hr hn hs2 hc2 hn2 ht
set_option maxRecDepth 100000 in
theorem eql_bb (d : Bool) (w : World) : (binOp .eql 4 (.bool d) (.bool d)).run Tryd.prog w = .ok (.bool true) w := by
  cases d <;> rfl
theorem eq_comm_b (a b : List UInt8) : (b == a) = decide (a = b) := by
  by_cases h : a = b
  · subst h; simp
  · simp [h, Ne.symm h]

set_option maxRecDepth 100000 in
set_option maxHeartbeats 2000000 in
theorem awake6_any (w : World) (ht : Tabs w) : Calls Tryd.prog 27 #[] w fun e w' => e = .returned (.bool true) ∧ Below w.heap.size w w' := by
  have HT := Lib.hid ht
  have HB := Lib.hid (Below.refl w.heap.size w)
  clear ht
  obtain ⟨xs, hxs⟩ : ∃ xs, xs = (tagB (tagB [1] [0]) [5]).map B := ⟨_, rfl⟩
  obtain ⟨ys, hys⟩ : ∃ ys, ys = (tagB (tagB [1] [1]) [5]).map B := ⟨_, rfl⟩
  have HX := Lib.hid (show Dig xs (tagB (tagB [1] [0]) [5]) from ⟨hxs, tagB_length _ _⟩)
  have HY := Lib.hid (show Dig ys (tagB (tagB [1] [1]) [5]) from ⟨hys, tagB_length _ _⟩)
  clear hxs hys
  have hne : ∀ w, (binOp .neq 26 (.agg xs.toArray) (.agg ys.toArray)).run Tryd.prog w = .ok (.bool true) w := fun w => by
    rw [HX.out.neq HY.out w]
    have := awake6_ne
    simp [this]
  go_enter Tryd.func27, Tryd.ntmps27
  go_wp2_with fail
  generalize hw_ : World.alloc w _ = w2_
  obtain ⟨hX_, hb_, hs_⟩ := alloc_eq hw_
  have HL := Lib.hid hX_
  clear hw_ hX_
  have HB_ := Lib.hid (HB.out.grow' hb_)
  clear HB
  have HB := HB_
  clear HB_
  have HT_ := Lib.hid (HT.out.grow hb_)
  clear HT
  have HT := HT_
  clear HT_
  clear hb_ hs_
  rename World => w_
  have HS := Lib.hid (show Sl w_ w_.heap.size 1 (some ⟨w.heap.size, 0, none⟩) 1 ([1].map B) from HL.out.sl rfl)
  go_wp2_with fail
  refine (keys_yes _ 1 1 2 [1] _ HS.out (by omega) (by omega) (by omega) (by omega) HT.out).mono ?_
  rintro e w_ ⟨g, A1, c1, rfl, hr_, hb_⟩
  have HB_ := Lib.hid (HB.out.grow' hb_)
  clear HB
  have HB := HB_
  clear HB_
  have HT_ := Lib.hid (HT.out.grow hb_)
  clear HT
  have HT := HT_
  clear HT_
  clear hb_
  have HRA := Lib.hid hr_
  clear hr_ HL HS
  go_wp2_with fail
  refine (rlen_any _ HRA.out).mono ?_
  rintro e w_ ⟨rfl, hb_⟩
  have HB_ := Lib.hid (HB.out.grow' hb_)
  clear HB
  have HB := HB_
  clear HB_
  have HRA_ := Lib.hid (HRA.out.grow hb_)
  clear HRA
  have HRA := HRA_
  clear HRA_
  have HT_ := Lib.hid (HT.out.grow hb_)
  clear HT
  have HT := HT_
  clear HT_
  clear hb_
  go_wp2_with fail
  generalize hw_ : World.alloc w_ _ = w2_
  obtain ⟨hX_, hb_, hs_⟩ := alloc_eq hw_
  generalize hg_ : w_.heap.size = g1 at hX_ hs_ ⊢
  have HL := Lib.hid hX_
  clear hw_ hX_
  have HB_ := Lib.hid (HB.out.grow' hb_)
  clear HB
  have HB := HB_
  clear HB_
  have HRA_ := Lib.hid (HRA.out.grow hb_)
  clear HRA
  have HRA := HRA_
  clear HRA_
  have HT_ := Lib.hid (HT.out.grow hb_)
  clear HT
  have HT := HT_
  clear HT_
  clear hb_ hs_
  clear hg_
  try clear w_
  rename World => w_
  have HS := Lib.hid (show Sl w_ w_.heap.size 1 (some ⟨g1, 0, none⟩) 1 ([5].map B) from HL.out.sl rfl)
  go_wp2_with fail
  refine (sign_yes (k := 0) (ringB_at [1] (by omega)) HX.out _ HRA.out (by omega) HS.out (by omega) (by omega) HT.out).mono ?_
  rintro e w_ ⟨rfl, hb_⟩
  have HB_ := Lib.hid (HB.out.grow' hb_)
  clear HB
  have HB := HB_
  clear HB_
  have HRA_ := Lib.hid (HRA.out.grow hb_)
  clear HRA
  have HRA := HRA_
  clear HRA_
  have HT_ := Lib.hid (HT.out.grow hb_)
  clear HT
  have HT := HT_
  clear HT_
  clear hb_
  clear HL HS
  go_wp2_with (first | (with_reducible refine wpl_alloc (o := ⟨some 2, _, _, _, _, _⟩) rfl rfl zero_id ?_))
  intro w1_ hb1_ hbw1_ hsz1_
  have HB1_ := Lib.hid (at_mk hb1_ len_id)
  have HBW1_ := Lib.hid hbw1_
  have HZ1_ := Lib.hid hsz1_
  clear hb1_ hbw1_ hsz1_
  go_wp2_with (first | (with_reducible refine wpl_storeb (o := ⟨none, .store _ _ _, _, _, _, _⟩) rfl rfl row_id HB1_.out.blk rfl rfl HB1_.out.len HX.out.len HX.out.one ?_))
  intro w2_ hb2_ hg2_ hsz2_
  have hb_ := var_grow HBW1_.out HZ1_.out hg2_
  have HX_ := Lib.hid (at_mk hb2_ HX.out.len)
  clear hb2_ hg2_ hsz2_ HB1_ HBW1_ HZ1_
  have HB_ := Lib.hid (HB.out.grow' hb_)
  clear HB
  have HB := HB_
  clear HB_
  have HRA_ := Lib.hid (HRA.out.grow hb_)
  clear HRA
  have HRA := HRA_
  clear HRA_
  have HT_ := Lib.hid (HT.out.grow hb_)
  clear HT
  have HT := HT_
  clear HT_
  generalize hg_ : w_.heap.size = gx at HX_ ⊢
  clear hg_
  have HVX := HX_
  clear hb_ HX_
  clear w1_
  try clear w_
  rename World => w_
  go_wp2_with fail
  generalize hw_ : World.alloc w_ _ = w2_
  obtain ⟨hX_, hb_, hs_⟩ := alloc_eq hw_
  generalize hg_ : w_.heap.size = g2 at hX_ hs_ ⊢
  have HL := Lib.hid hX_
  clear hw_ hX_
  have HB_ := Lib.hid (HB.out.grow' hb_)
  clear HB
  have HB := HB_
  clear HB_
  have HRA_ := Lib.hid (HRA.out.grow hb_)
  clear HRA
  have HRA := HRA_
  clear HRA_
  have HT_ := Lib.hid (HT.out.grow hb_)
  clear HT
  have HT := HT_
  clear HT_
  have HVX_ := Lib.hid (HVX.out.grow hb_)
  clear HVX
  have HVX := HVX_
  clear HVX_
  clear hb_ hs_
  clear hg_
  try clear w_
  rename World => w_
  have HS := Lib.hid (show Sl w_ w_.heap.size 1 (some ⟨g2, 0, none⟩) 1 ([5].map B) from HL.out.sl rfl)
  go_wp2_with fail
  refine (sign_yes (k := 1) (ringB_at [1] (by omega)) HY.out _ HRA.out (by omega) HS.out (by omega) (by omega) HT.out).mono ?_
  rintro e w_ ⟨rfl, hb_⟩
  have HB_ := Lib.hid (HB.out.grow' hb_)
  clear HB
  have HB := HB_
  clear HB_
  have HRA_ := Lib.hid (HRA.out.grow hb_)
  clear HRA
  have HRA := HRA_
  clear HRA_
  have HT_ := Lib.hid (HT.out.grow hb_)
  clear HT
  have HT := HT_
  clear HT_
  have HVX_ := Lib.hid (HVX.out.grow hb_)
  clear HVX
  have HVX := HVX_
  clear HVX_
  clear hb_
  clear HL HS
  go_wp2_with (first | (with_reducible refine wpl_alloc (o := ⟨some 4, _, _, _, _, _⟩) rfl rfl zero_id ?_))
  intro w1_ hb1_ hbw1_ hsz1_
  have HB1_ := Lib.hid (at_mk hb1_ len_id)
  have HBW1_ := Lib.hid hbw1_
  have HZ1_ := Lib.hid hsz1_
  clear hb1_ hbw1_ hsz1_
  go_wp2_with (first | (with_reducible refine wpl_storeb (o := ⟨none, .store _ _ _, _, _, _, _⟩) rfl rfl row_id HB1_.out.blk rfl rfl HB1_.out.len HY.out.len HY.out.one ?_))
  intro w2_ hb2_ hg2_ hsz2_
  have hb_ := var_grow HBW1_.out HZ1_.out hg2_
  have HX_ := Lib.hid (at_mk hb2_ HY.out.len)
  clear hb2_ hg2_ hsz2_ HB1_ HBW1_ HZ1_
  have HB_ := Lib.hid (HB.out.grow' hb_)
  clear HB
  have HB := HB_
  clear HB_
  have HRA_ := Lib.hid (HRA.out.grow hb_)
  clear HRA
  have HRA := HRA_
  clear HRA_
  have HT_ := Lib.hid (HT.out.grow hb_)
  clear HT
  have HT := HT_
  clear HT_
  have HVX_ := Lib.hid (HVX.out.grow hb_)
  clear HVX
  have HVX := HVX_
  clear HVX_
  generalize hg_ : w_.heap.size = gy at HX_ ⊢
  clear hg_
  have HVY := HX_
  clear hb_ HX_
  clear w1_
  try clear w_
  rename World => w_
  have ha := alloc_new w_ #[.int .u8 5] 5
  have HVA := Lib.hid (HVX.out.grow ha.2.1)
  clear ha
  go_wp2_with (first | (with_reducible refine wpl_loadb (o := ⟨_, .load _ _, _, _, _, _⟩) rfl rfl row_id HVX.out.blk rfl HVX.out.len ?_) | (with_reducible refine wpl_loadw (o := ⟨_, .load _ _, _, _, _, _⟩) (by first | rfl | (go_simp; done)) rfl row_id HVX.out.blk rfl HVX.out.len ?_) | (with_reducible refine wpl_loadb (o := ⟨_, .load _ _, _, _, _, _⟩) rfl rfl row_id HVY.out.blk rfl HVY.out.len ?_) | (with_reducible refine wpl_loadw (o := ⟨_, .load _ _, _, _, _, _⟩) (by first | rfl | (go_simp; done)) rfl row_id HVY.out.blk rfl HVY.out.len ?_) | (with_reducible refine wpl_loadb (o := ⟨_, .load _ _, _, _, _, _⟩) rfl rfl row_id HVA.out.blk rfl HVA.out.len ?_) | (with_reducible refine wpl_loadw (o := ⟨_, .load _ _, _, _, _, _⟩) (by first | rfl | (go_simp; done)) rfl row_id HVA.out.blk rfl HVA.out.len ?_))
  clear HVA
  go_wp2_with fail
  generalize hw_ : World.alloc w_ _ = w2_
  obtain ⟨hX_, hb_, hs_⟩ := alloc_eq hw_
  generalize hg_ : w_.heap.size = g3 at hX_ hs_ ⊢
  have HL := Lib.hid hX_
  clear hw_ hX_
  have HB_ := Lib.hid (HB.out.grow' hb_)
  clear HB
  have HB := HB_
  clear HB_
  have HRA_ := Lib.hid (HRA.out.grow hb_)
  clear HRA
  have HRA := HRA_
  clear HRA_
  have HT_ := Lib.hid (HT.out.grow hb_)
  clear HT
  have HT := HT_
  clear HT_
  have HVX_ := Lib.hid (HVX.out.grow hb_)
  clear HVX
  have HVX := HVX_
  clear HVX_
  have HVY_ := Lib.hid (HVY.out.grow hb_)
  clear HVY
  have HVY := HVY_
  clear HVY_
  clear hb_ hs_
  clear hg_
  try clear w_
  rename World => w_
  have HS := Lib.hid (show Sl w_ w_.heap.size 1 (some ⟨g3, 0, none⟩) 1 ([5].map B) from HL.out.sl rfl)
  go_wp2_with fail
  refine (ris_b (b := true) (k := 0) (by simp) (ringB_at [1] (by omega)) HX.out _ HRA.out (by omega) HS.out (by omega) (by omega) HT.out).mono ?_
  rintro e w_ ⟨rfl, hb_⟩
  have HB_ := Lib.hid (HB.out.grow' hb_)
  clear HB
  have HB := HB_
  clear HB_
  have HRA_ := Lib.hid (HRA.out.grow hb_)
  clear HRA
  have HRA := HRA_
  clear HRA_
  have HT_ := Lib.hid (HT.out.grow hb_)
  clear HT
  have HT := HT_
  clear HT_
  have HVX_ := Lib.hid (HVX.out.grow hb_)
  clear HVX
  have HVX := HVX_
  clear HVX_
  have HVY_ := Lib.hid (HVY.out.grow hb_)
  clear HVY
  have HVY := HVY_
  clear HVY_
  clear hb_
  clear HL HS
  have ha := alloc_new w_ #[.int .u8 5] 5
  have HVA := Lib.hid (HVX.out.grow ha.2.1)
  clear ha
  go_wp2_with (first | (with_reducible refine wpl_loadb (o := ⟨_, .load _ _, _, _, _, _⟩) rfl rfl row_id HVA.out.blk rfl HVA.out.len ?_) | (with_reducible refine wpl_loadw (o := ⟨_, .load _ _, _, _, _, _⟩) (by first | rfl | (go_simp; done)) rfl row_id HVA.out.blk rfl HVA.out.len ?_))
  clear HVA
  go_wp2_with fail
  generalize hw_ : World.alloc w_ _ = w2_
  obtain ⟨hX_, hb_, hs_⟩ := alloc_eq hw_
  generalize hg_ : w_.heap.size = g4 at hX_ hs_ ⊢
  have HL := Lib.hid hX_
  clear hw_ hX_
  have HB_ := Lib.hid (HB.out.grow' hb_)
  clear HB
  have HB := HB_
  clear HB_
  have HRA_ := Lib.hid (HRA.out.grow hb_)
  clear HRA
  have HRA := HRA_
  clear HRA_
  have HT_ := Lib.hid (HT.out.grow hb_)
  clear HT
  have HT := HT_
  clear HT_
  have HVX_ := Lib.hid (HVX.out.grow hb_)
  clear HVX
  have HVX := HVX_
  clear HVX_
  have HVY_ := Lib.hid (HVY.out.grow hb_)
  clear HVY
  have HVY := HVY_
  clear HVY_
  clear hb_ hs_
  clear hg_
  try clear w_
  rename World => w_
  have HS := Lib.hid (show Sl w_ w_.heap.size 1 (some ⟨g4, 0, none⟩) 1 ([5].map B) from HL.out.sl rfl)
  go_wp2_with fail
  refine (ris_b (b := false) (k := 1) (by have := awake6_ne; simp; exact fun h => this h.symm) (ringB_at [1] (by omega)) HX.out _ HRA.out (by omega) HS.out (by omega) (by omega) HT.out).mono ?_
  rintro e w_ ⟨rfl, hb_⟩
  have HB_ := Lib.hid (HB.out.grow' hb_)
  clear HB
  have HB := HB_
  clear HB_
  clear hb_
  go_wp2_with fail
  go_ret
  exact ⟨rfl, HB.out⟩

set_option maxRecDepth 100000 in
set_option maxHeartbeats 2000000 in
theorem tagTells_walk (A : Option Addr) (n c : Nat) (key : List UInt8) (A2 : Option Addr) (n2 c2 : Nat) (bs : List UInt8) (t : List UInt8) (w : World) (hs : Sl w w.heap.size 1 A n (key.map B)) (hc : n ≤ c) (hm : c ≤ maxLen) (hs2 : Sl w w.heap.size 1 A2 n2 (bs.map B)) (hc2 : n2 ≤ c2) (hm2 : c2 ≤ maxLen) (htl : t.length = 32) (ht : Tabs w) :
    Calls Tryd.prog 8 #[.slice A n c, .slice A2 n2 c2, .agg (t.map B).toArray] w fun e w' => e = .returned (.bool true) ∧ Below w.heap.size w w' := by
  have HS := Lib.hid hs; have HT := Lib.hid ht; have HS2 := Lib.hid hs2
  have HB := Lib.hid (Below.refl w.heap.size w)
  clear hs ht hs2 hm hm2
  obtain ⟨ts, hts⟩ : ∃ ts, ts = t.map B := ⟨_, rfl⟩
  have HTD := Lib.hid (show Dig ts t from ⟨hts, htl⟩)
  rw [← hts]
  clear hts htl
  by_cases h1 : n ≤ 200
  · have g1 : decide (200 < (n : Int)) = false := by simp; omega
    by_cases h2 : n2 ≤ 200
    · have g2 : decide (200 < (n2 : Int)) = false := by simp; omega
      obtain ⟨xs, hxs⟩ : ∃ xs, xs = (tagB key bs).map B := ⟨_, rfl⟩
      have HX := Lib.hid (show Dig xs (tagB key bs) from ⟨hxs, tagB_length _ _⟩)
      obtain ⟨d, hd⟩ : ∃ d, decide (tagB key bs = t) = d := ⟨_, rfl⟩
      have HDD := Lib.hid hd
      have heq := fun w => HX.out.self w
      have heq2 : ∀ w, (binOp .eql 26 (.agg ts.toArray) (.agg xs.toArray)).run Tryd.prog w = .ok (.bool d) w := fun w => by rw [HTD.out.eql HX.out w, eq_comm_b, HDD.out]
      have heqb := eql_bb d
      clear hxs hd
      go_enter Tryd.func8, Tryd.ntmps8
      go_wp2_with (first | (with_reducible refine wpl_box (o := ⟨some 5, _, _, _, _, _⟩) rfl rfl rfl ?_))
      intro w2_ hb2_ hb_ hsz2_
      have HX_ := Lib.hid (at_mk hb2_ HTD.out.len)
      clear hb2_ hsz2_
      have HB_ := Lib.hid (HB.out.grow' hb_)
      clear HB
      have HB := HB_
      clear HB_
      have HS_ := Lib.hid (HS.out.grow hb_)
      clear HS
      have HS := HS_
      clear HS_
      have HS2_ := Lib.hid (HS2.out.grow hb_)
      clear HS2
      have HS2 := HS2_
      clear HS2_
      have HT_ := Lib.hid (HT.out.grow hb_)
      clear HT
      have HT := HT_
      clear HT_
      have HV0 := HX_
      clear hb_ HX_
      try clear w_
      rename World => w_
      go_wp2_with fail
      refine (trof_any _ _ _ _ _ _ _ _ HX.out _ HS.out HS2.out (by omega) (by omega)).mono ?_
      rintro e w_ ⟨rfl, hb_⟩
      have HB_ := Lib.hid (HB.out.grow' hb_)
      clear HB
      have HB := HB_
      clear HB_
      have HV0_ := Lib.hid (HV0.out.grow hb_)
      clear HV0
      have HV0 := HV0_
      clear HV0_
      have HS_ := Lib.hid (HS.out.grow hb_)
      clear HS
      have HS := HS_
      clear HS_
      have HS2_ := Lib.hid (HS2.out.grow hb_)
      clear HS2
      have HS2 := HS2_
      clear HS2_
      have HT_ := Lib.hid (HT.out.grow hb_)
      clear HT
      have HT := HT_
      clear HT_
      clear hb_
      go_wp2_with (first | (with_reducible refine wpl_alloc (o := ⟨some 7, _, _, _, _, _⟩) rfl rfl zero_id ?_))
      intro w1_ hb1_ hbw1_ hsz1_
      have HB1_ := Lib.hid (at_mk hb1_ len_id)
      have HBW1_ := Lib.hid hbw1_
      have HZ1_ := Lib.hid hsz1_
      clear hb1_ hbw1_ hsz1_
      go_wp2_with (first | (with_reducible refine wpl_storeb (o := ⟨none, .store _ _ _, _, _, _, _⟩) rfl rfl row_id HB1_.out.blk rfl rfl HB1_.out.len HX.out.len HX.out.one ?_))
      intro w2_ hb2_ hg2_ hsz2_
      have hb_ := var_grow HBW1_.out HZ1_.out hg2_
      have HX_ := Lib.hid (at_mk hb2_ HX.out.len)
      clear hb2_ hg2_ hsz2_ HB1_ HBW1_ HZ1_
      have HB_ := Lib.hid (HB.out.grow' hb_)
      clear HB
      have HB := HB_
      clear HB_
      have HV0_ := Lib.hid (HV0.out.grow hb_)
      clear HV0
      have HV0 := HV0_
      clear HV0_
      have HS_ := Lib.hid (HS.out.grow hb_)
      clear HS
      have HS := HS_
      clear HS_
      have HS2_ := Lib.hid (HS2.out.grow hb_)
      clear HS2
      have HS2 := HS2_
      clear HS2_
      have HT_ := Lib.hid (HT.out.grow hb_)
      clear HT
      have HT := HT_
      clear HT_
      generalize hg_ : w_.heap.size = gv at HX_ ⊢
      clear hg_
      have HV := HX_
      clear hb_ HX_
      clear w1_
      try clear w_
      rename World => w_
      try go_wp2_with fail
      repeat' (first | (with_reducible refine wp_plan (id := 4) Grow [0,0,4,1,0,0,0,0,2,3,0,0,0,0,2,4,1,1,0,0,0,0,3,0,0] (.get 0 (.get 1 (.get 3 (.act 2 (.get 4 (.get 5 (.get 6 (.get 7 (.get 8 (.act 9 (.get 10 (.get 11 (.get 12 (.get 13 (.get 14 (.get 16 (.get 17 (.get 18 (.act 15 (.get 19 (.get 20 (.get 21 (.act 22 (.get 23 (.get 24 .done))))))))))))))))))))))))) (by kernel_rfl) (by kernel_rfl) Grow.refl Grow.trans ?_) | go_values | go_skip | go_guarded | go_step | go_upon | go_back)
      intro w_ hd_
      have hb_ := hd_.grow
      have HB_ := Lib.hid (HB.out.grow' hb_)
      clear HB
      have HB := HB_
      clear HB_
      have HV_ := Lib.hid (HV.out.grow hb_)
      clear HV
      have HV := HV_
      clear HV_
      have HV0_ := Lib.hid (HV0.out.grow hb_)
      clear HV0
      have HV0 := HV0_
      clear HV0_
      have HS_ := Lib.hid (HS.out.grow hb_)
      clear HS
      have HS := HS_
      clear HS_
      have HS2_ := Lib.hid (HS2.out.grow hb_)
      clear HS2
      have HS2 := HS2_
      clear HS2_
      have HT_ := Lib.hid (HT.out.grow hb_)
      clear HT
      have HT := HT_
      clear HT_
      clear hb_ hd_
      repeat (first | (refine pl_calm rfl rfl (by first | exact wanted_none rfl | (go_simp; done) | rfl) (fun w_ => by first | (go_simp; rfl) | (go_simp; done) | rfl) (fun K hK => ?_); go_simp; refine hK _ _ ?_; clear hK K) | (refine pl_skip rfl (by first | (go_simp; done) | rfl) (fun K hK => ?_); go_simp; refine hK _ _ ?_; clear hK K) | (refine pl_skipa rfl (by first | (go_simp; done) | rfl) (fun K hK => ?_); go_simp; refine hK _ _ ?_; clear hK K) | (refine pl_loadb rfl rfl (by first | exact wanted_none rfl | (go_simp; done) | rfl) rfl row_id HV.out.blk (by first | rfl | (go_simp; done) | rfl) HV.out.len (fun K hK => ?_); go_simp; refine hK _ _ ?_; clear hK K) | (refine pl_loadbnow rfl rfl (by first | exact wanted_none rfl | (go_simp; done) | rfl) rfl row_id HV.out.blk (by first | rfl | (go_simp; done) | rfl) HV.out.len (fun K hK => ?_); go_simp; refine hK _ _ ?_; clear hK K) | (refine pl_loadb rfl rfl (by first | exact wanted_none rfl | (go_simp; done) | rfl) rfl row_id HV0.out.blk (by first | rfl | (go_simp; done) | rfl) HV0.out.len (fun K hK => ?_); go_simp; refine hK _ _ ?_; clear hK K) | (refine pl_loadbnow rfl rfl (by first | exact wanted_none rfl | (go_simp; done) | rfl) rfl row_id HV0.out.blk (by first | rfl | (go_simp; done) | rfl) HV0.out.len (fun K hK => ?_); go_simp; refine hK _ _ ?_; clear hK K))
      refine pl_act rfl (by first | exact wanted_none rfl | (go_simp; done) | rfl) (fun K hK => ?_)
      go_wp2_with fail
      refine (tof_any _ _ _ _ _ _ _ _ HX.out _ HS.out HS2.out hc hc2 (by omega) (by omega) HT.out).mono ?_
      rintro e w_ ⟨rfl, hb_⟩
      go_wp2_with fail
      refine hK _ _ (fun _ => hb_) ?_
      clear hK K
      have HB_ := Lib.hid (HB.out.grow' hb_)
      clear HB
      have HB := HB_
      clear HB_
      have HV_ := Lib.hid (HV.out.grow hb_)
      clear HV
      have HV := HV_
      clear HV_
      have HV0_ := Lib.hid (HV0.out.grow hb_)
      clear HV0
      have HV0 := HV0_
      clear HV0_
      have HS_ := Lib.hid (HS.out.grow hb_)
      clear HS
      have HS := HS_
      clear HS_
      have HS2_ := Lib.hid (HS2.out.grow hb_)
      clear HS2
      have HS2 := HS2_
      clear HS2_
      have HT_ := Lib.hid (HT.out.grow hb_)
      clear HT
      have HT := HT_
      clear HT_
      clear hb_
      repeat (first | (refine pl_calm rfl rfl (by first | exact wanted_none rfl | (go_simp; done) | rfl) (fun w_ => by first | (go_simp; rfl) | (go_simp; done) | rfl) (fun K hK => ?_); go_simp; refine hK _ _ ?_; clear hK K) | (refine pl_skip rfl (by first | (go_simp; done) | rfl) (fun K hK => ?_); go_simp; refine hK _ _ ?_; clear hK K) | (refine pl_skipa rfl (by first | (go_simp; done) | rfl) (fun K hK => ?_); go_simp; refine hK _ _ ?_; clear hK K) | (refine pl_loadb rfl rfl (by first | exact wanted_none rfl | (go_simp; done) | rfl) rfl row_id HV.out.blk (by first | rfl | (go_simp; done) | rfl) HV.out.len (fun K hK => ?_); go_simp; refine hK _ _ ?_; clear hK K) | (refine pl_loadbnow rfl rfl (by first | exact wanted_none rfl | (go_simp; done) | rfl) rfl row_id HV.out.blk (by first | rfl | (go_simp; done) | rfl) HV.out.len (fun K hK => ?_); go_simp; refine hK _ _ ?_; clear hK K) | (refine pl_loadb rfl rfl (by first | exact wanted_none rfl | (go_simp; done) | rfl) rfl row_id HV0.out.blk (by first | rfl | (go_simp; done) | rfl) HV0.out.len (fun K hK => ?_); go_simp; refine hK _ _ ?_; clear hK K) | (refine pl_loadbnow rfl rfl (by first | exact wanted_none rfl | (go_simp; done) | rfl) rfl row_id HV0.out.blk (by first | rfl | (go_simp; done) | rfl) HV0.out.len (fun K hK => ?_); go_simp; refine hK _ _ ?_; clear hK K))
      refine pl_act rfl (by first | exact wanted_none rfl | (go_simp; done) | rfl) (fun K hK => ?_)
      go_wp2_with fail
      refine (tis_b (d := true) _ _ _ _ _ _ _ _ _ (by simp) HX.out _ HS.out HS2.out hc hc2 (by omega) (by omega) HT.out).mono ?_
      rintro e w_ ⟨rfl, hb_⟩
      go_wp2_with fail
      refine hK _ _ (fun _ => hb_) ?_
      clear hK K
      have HB_ := Lib.hid (HB.out.grow' hb_)
      clear HB
      have HB := HB_
      clear HB_
      have HV_ := Lib.hid (HV.out.grow hb_)
      clear HV
      have HV := HV_
      clear HV_
      have HV0_ := Lib.hid (HV0.out.grow hb_)
      clear HV0
      have HV0 := HV0_
      clear HV0_
      have HS_ := Lib.hid (HS.out.grow hb_)
      clear HS
      have HS := HS_
      clear HS_
      have HS2_ := Lib.hid (HS2.out.grow hb_)
      clear HS2
      have HS2 := HS2_
      clear HS2_
      have HT_ := Lib.hid (HT.out.grow hb_)
      clear HT
      have HT := HT_
      clear HT_
      clear hb_
      repeat (first | (refine pl_calm rfl rfl (by first | exact wanted_none rfl | (go_simp; done) | rfl) (fun w_ => by first | (go_simp; rfl) | (go_simp; done) | rfl) (fun K hK => ?_); go_simp; refine hK _ _ ?_; clear hK K) | (refine pl_skip rfl (by first | (go_simp; done) | rfl) (fun K hK => ?_); go_simp; refine hK _ _ ?_; clear hK K) | (refine pl_skipa rfl (by first | (go_simp; done) | rfl) (fun K hK => ?_); go_simp; refine hK _ _ ?_; clear hK K) | (refine pl_loadb rfl rfl (by first | exact wanted_none rfl | (go_simp; done) | rfl) rfl row_id HV.out.blk (by first | rfl | (go_simp; done) | rfl) HV.out.len (fun K hK => ?_); go_simp; refine hK _ _ ?_; clear hK K) | (refine pl_loadbnow rfl rfl (by first | exact wanted_none rfl | (go_simp; done) | rfl) rfl row_id HV.out.blk (by first | rfl | (go_simp; done) | rfl) HV.out.len (fun K hK => ?_); go_simp; refine hK _ _ ?_; clear hK K) | (refine pl_loadb rfl rfl (by first | exact wanted_none rfl | (go_simp; done) | rfl) rfl row_id HV0.out.blk (by first | rfl | (go_simp; done) | rfl) HV0.out.len (fun K hK => ?_); go_simp; refine hK _ _ ?_; clear hK K) | (refine pl_loadbnow rfl rfl (by first | exact wanted_none rfl | (go_simp; done) | rfl) rfl row_id HV0.out.blk (by first | rfl | (go_simp; done) | rfl) HV0.out.len (fun K hK => ?_); go_simp; refine hK _ _ ?_; clear hK K))
      refine pl_act rfl (by first | exact wanted_none rfl | (go_simp; done) | rfl) (fun K hK => ?_)
      go_wp2_with fail
      refine (tis_b (d := d) _ _ _ _ _ _ _ _ _ HDD.out HTD.out _ HS.out HS2.out hc hc2 (by omega) (by omega) HT.out).mono ?_
      rintro e w_ ⟨rfl, hb_⟩
      go_wp2_with fail
      refine hK _ _ (fun _ => hb_) ?_
      clear hK K
      have HB_ := Lib.hid (HB.out.grow' hb_)
      clear HB
      have HB := HB_
      clear HB_
      have HT_ := Lib.hid (HT.out.grow hb_)
      clear HT
      have HT := HT_
      clear HT_
      clear hb_
      repeat (first | (refine pl_calm rfl rfl (by first | exact wanted_none rfl | (go_simp; done) | rfl) (fun w_ => by first | (go_simp; rfl) | (go_simp; done) | rfl) (fun K hK => ?_); go_simp; refine hK _ _ ?_; clear hK K) | (refine pl_skip rfl (by first | (go_simp; done) | rfl) (fun K hK => ?_); go_simp; refine hK _ _ ?_; clear hK K) | (refine pl_skipa rfl (by first | (go_simp; done) | rfl) (fun K hK => ?_); go_simp; refine hK _ _ ?_; clear hK K))
      refine pl_act rfl (by first | exact wanted_none rfl | (go_simp; done) | rfl) (fun K hK => ?_)
      go_wp2_with fail
      refine (awake6_any _ HT.out).mono ?_
      rintro e w_ ⟨rfl, hb_⟩
      go_wp2_with fail
      refine hK _ _ (fun _ => hb_) ?_
      clear hK K
      have HB_ := Lib.hid (HB.out.grow' hb_)
      clear HB
      have HB := HB_
      clear HB_
      clear hb_
      repeat (first | (refine pl_calm rfl rfl (by first | exact wanted_none rfl | (go_simp; done) | rfl) (fun w_ => by first | (go_simp; rfl) | (go_simp; done) | rfl) (fun K hK => ?_); go_simp; refine hK _ _ ?_; clear hK K) | (refine pl_skip rfl (by first | (go_simp; done) | rfl) (fun K hK => ?_); go_simp; refine hK _ _ ?_; clear hK K) | (refine pl_skipa rfl (by first | (go_simp; done) | rfl) (fun K hK => ?_); go_simp; refine hK _ _ ?_; clear hK K))
      refine pl_done ?_
      go_wp2_with fail
      go_ret
      exact ⟨rfl, HB.out⟩
    · have g2 : decide (200 < (n2 : Int)) = true := by simp; omega
      go_enter Tryd.func8, Tryd.ntmps8
      go_wp2_with (first | (with_reducible refine wpl_box (o := ⟨some 5, _, _, _, _, _⟩) rfl rfl rfl ?_))
      intro w2_ hb2_ hb_ hsz2_
      have HX_ := Lib.hid (at_mk hb2_ HTD.out.len)
      clear hb2_ hsz2_
      have HB_ := Lib.hid (HB.out.grow' hb_)
      clear HB
      have HB := HB_
      clear HB_
      have HT_ := Lib.hid (HT.out.grow hb_)
      clear HT
      have HT := HT_
      clear HT_
      have HV0 := HX_
      clear hb_ HX_
      try clear w_
      rename World => w_
      go_wp2_with fail
      refine (awake6_any _ HT.out).mono ?_
      rintro e w_ ⟨rfl, hb_⟩
      have HB_ := Lib.hid (HB.out.grow' hb_)
      clear HB
      have HB := HB_
      clear HB_
      clear hb_
      go_wp2_with fail
      go_ret
      exact ⟨rfl, HB.out⟩
  · have g1 : decide (200 < (n : Int)) = true := by simp; omega
    go_enter Tryd.func8, Tryd.ntmps8
    go_wp2_with (first | (with_reducible refine wpl_box (o := ⟨some 5, _, _, _, _, _⟩) rfl rfl rfl ?_))
    intro w2_ hb2_ hb_ hsz2_
    have HX_ := Lib.hid (at_mk hb2_ HTD.out.len)
    clear hb2_ hsz2_
    have HB_ := Lib.hid (HB.out.grow' hb_)
    clear HB
    have HB := HB_
    clear HB_
    have HT_ := Lib.hid (HT.out.grow hb_)
    clear HT
    have HT := HT_
    clear HT_
    have HV0 := HX_
    clear hb_ HX_
    try clear w_
    rename World => w_
    go_wp2_with fail
    refine (awake6_any _ HT.out).mono ?_
    rintro e w_ ⟨rfl, hb_⟩
    have HB_ := Lib.hid (HB.out.grow' hb_)
    clear HB
    have HB := HB_
    clear HB_
    clear hb_
    go_wp2_with fail
    go_ret
    exact ⟨rfl, HB.out⟩
end Go.Proofs.YtlondennhhffdaaDoor

/- The given card SpendNoneCardSaid, out of the walk spendNone_walk: for every input the law returns true, and each argument reads as it did; the tables of package sha are tied to the program's text. No condition. -/
import Derived.Test.YtnnjjbkdjkjnpaaGreatDoorSpendNoneT6
import Derived.Test.YtnnjjbkdjkjnpaaGreatDoorSpendNoneT30
import Derived.Test.YtnnjjbkdjkjnpaaGreatDoorSpendNoneT2
import Derived.ShutString
import Derived.ChangeOld
import Derived.Below
set_option linter.unusedSimpArgs false
/- Arguments opened: digests, lists of digests. -/
namespace Go.Proofs.YtnnjjbkdjkjnpaaGreatDoor
open Go.RowKit Go.ChangeShapes Go.WideShapes
set_option linter.unusedVariables false
set_option maxRecDepth 100000
section
variable {H : Type} {enc : TypeId × Value → H} {w : World} {r : Reach} {b0 base : Nat} {spare : Nat → Bool} {held : Bool}
theorem open_dig {v : Value} {d : DataW H} {ps : List MemPlace} (hval : Value.okWide Tryz.prog w r b0 46 v) (h : DataW.Trod enc Tryz.prog w base spare held 46 v d ps) :
    ∃ ds : List UInt8, v = .agg (ds.map B).toArray ∧ ds.length = 32 :=
  open_arr32 Tryz.underlying46 Tryz.underlying5 (by kernel_rfl) (by kernel_rfl) hval h
end
end Go.Proofs.YtnnjjbkdjkjnpaaGreatDoor
/- The walk of seisinlaw22.SpendNone. -/
namespace Go.Proofs.YtnnjjbkdjkjnpaaGreatDoor
open Go.RowKit Go.Shelf
set_option linter.unusedVariables false
set_option maxRecDepth 100000 in
set_option maxHeartbeats 2000000 in
theorem lock_nil {tv : List Value} {t : Txn} (n me : Int) (p q : Option Addr) (hpq : p = none ∨ (∃ a, p = some a) ∧ q = none) (w : World) (h : TxAt w tv t) :
    Calls Tryz.prog 17 #[.agg tv.toArray, .int .i64 n, .int .i64 me, .pointer p, .pointer q] w fun e w' => e = .returned (.tuple #[.int .u64 0, .int .i64 1]) ∧ Grow w w' := by
  have HTC := Lib.hid h.cl
  have HIN := Lib.hid (fun w' (k : Grow w w') => inputs_nil n me p q hpq w' (h.grow k))
  obtain ⟨w_, hw⟩ : ∃ x, x = w := ⟨_, rfl⟩
  have HB := Lib.hid (show Below w.heap.size w w_ by rw [hw]; exact Below.refl _ _)
  suffices H : Calls Tryz.prog 17 #[.agg tv.toArray, .int .i64 n, .int .i64 me, .pointer p, .pointer q] w_ (fun e w' => e = .returned (.tuple #[.int .u64 0, .int .i64 1]) ∧ Grow w w') by rw [hw] at H; exact H
  clear hw h hpq
  go_enter Tryz.func17, Tryz.ntmps17
  go_wp2_with (first | (with_reducible refine wpl_box (o := ⟨some 5, _, _, _, _, _⟩) rfl rfl rfl ?_))
  intro w2_ hb2_ hb_ hsz2_
  have HX_ := Lib.hid (at_mk hb2_ HTC.out.len)
  clear hb2_ hsz2_
  have HG_ := Lib.hid HB.out.size
  have HB_ := Lib.hid (HB.out.grow' hb_)
  clear HB
  have HB := HB_
  clear HB_
  generalize hg_ : w_.heap.size = g1 at HX_ HG_ ⊢
  clear hg_
  have HX_g := HG_
  clear HG_
  have HX := HX_
  clear hb_ HX_
  try clear w_
  rename World => w_
  go_wp2_with (first | (with_reducible refine wpl_loadb (o := ⟨some 22, _, _, _, _, _⟩) rfl rfl row_tx HX.out.blk rfl HX.out.len ?_))
  refine (HIN.out _ HB.out).mono ?_
  rintro e w_ ⟨rfl, hb_⟩
  have HB_ := Lib.hid (HB.out.grow' hb_)
  clear HB
  have HB := HB_
  clear HB_
  have HX_ := Lib.hid (HX.out.grow hb_)
  clear HX
  have HX := HX_
  clear HX_
  clear hb_
  go_wp2_with fail
  go_ret2
  exact ⟨rfl, HB.out⟩
set_option maxRecDepth 100000 in
set_option maxHeartbeats 2000000 in
theorem mint_nil {tv : List Value} (hc : Cl 4 tv) (n me : Int) (w : World) :
    Calls Tryz.prog 13 #[.agg tv.toArray, .int .i64 n, .int .i64 me, .pointer none] w fun e w' => e = .returned (.tuple #[.int .u64 0, .int .i64 1]) ∧ Grow w w' := by
  have HTC := Lib.hid hc
  have HB := Lib.hid (Below.refl w.heap.size w)
  clear hc
  go_enter Tryz.func13, Tryz.ntmps13
  go_wp2_with (first | (with_reducible refine wpl_box (o := ⟨some 4, _, _, _, _, _⟩) rfl rfl rfl ?_))
  intro w2_ hb2_ hb_ hsz2_
  have HX_ := Lib.hid (at_mk hb2_ HTC.out.len)
  clear hb2_ hsz2_
  have HB_ := Lib.hid (HB.out.grow' hb_)
  clear HB
  have HB := HB_
  clear HB_
  have HX := HX_
  clear hb_ HX_
  try clear w_
  rename World => w_
  go_wp2_with fail
  go_ret2
  exact ⟨rfl, HB.out⟩
set_option maxRecDepth 100000 in
set_option maxHeartbeats 2000000 in
theorem back_nil (id : List UInt8) (hi : id.length = 32) (q : Option Addr) (w : World) : Calls Tryz.prog 18 #[.agg (id.map B).toArray, .pointer none, .pointer q] w fun e w' => e = .returned (.tuple #[.int .u64 0, .int .i64 1]) ∧ Grow w w' := by
  have HIC := Lib.hid (aidV_cl hi)
  obtain ⟨xs, hxs⟩ : ∃ x, x = id.map B := ⟨_, rfl⟩
  rw [← hxs] at HIC ⊢
  have HB := Lib.hid (Below.refl w.heap.size w)
  clear hxs hi
  cases q with
  | none =>
    go_enter Tryz.func18, Tryz.ntmps18
    go_wp2_with (first | (with_reducible refine wpl_box (o := ⟨some 3, _, _, _, _, _⟩) rfl rfl rfl ?_))
    intro w2_ hb2_ hb_ hsz2_
    have HX_ := Lib.hid (at_mk hb2_ HIC.out.len)
    clear hb2_ hsz2_
    have HB_ := Lib.hid (HB.out.grow' hb_)
    clear HB
    have HB := HB_
    clear HB_
    have HX := HX_
    clear hb_ HX_
    try clear w_
    rename World => w_
    go_wp2_with fail
    go_ret2
    exact ⟨rfl, HB.out⟩
  | some q =>
    go_enter Tryz.func18, Tryz.ntmps18
    go_wp2_with (first | (with_reducible refine wpl_box (o := ⟨some 3, _, _, _, _, _⟩) rfl rfl rfl ?_))
    intro w2_ hb2_ hb_ hsz2_
    have HX_ := Lib.hid (at_mk hb2_ HIC.out.len)
    clear hb2_ hsz2_
    have HB_ := Lib.hid (HB.out.grow' hb_)
    clear HB
    have HB := HB_
    clear HB_
    have HX := HX_
    clear hb_ HX_
    try clear w_
    rename World => w_
    go_wp2_with fail
    go_ret2
    exact ⟨rfl, HB.out⟩
set_option maxRecDepth 100000 in
set_option maxHeartbeats 2000000 in
theorem back_none {id : List UInt8} (hi : id.length = 32) {Y K : LocksL} {s2 : Int} {g g2 b2 : Nat} (h0 : ofK Y id = []) (w : World) (hk : LocksAt w g2 b2 K s2) (hrk : RelK Y K s2) :
    Calls Tryz.prog 18 #[.agg (id.map B).toArray, .pointer (some ⟨g, 0, none⟩), .pointer (some ⟨g2, 0, none⟩)] w fun e w' => e = .returned (.tuple #[.int .u64 0, .int .i64 13]) ∧ Grow w w' := by
  have HIC := Lib.hid (aidV_cl hi)
  have HOF := Lib.hid (fun w' (k : Grow w w') => kof_pts hrk hi w' (hk.call k))
  rw [h0] at HOF
  obtain ⟨xs, hxs⟩ : ∃ x, x = id.map B := ⟨_, rfl⟩
  rw [← hxs] at HIC HOF ⊢
  obtain ⟨w_, hw⟩ : ∃ x, x = w := ⟨_, rfl⟩
  have HB := Lib.hid (show Below w.heap.size w w_ by rw [hw]; exact Below.refl _ _)
  suffices H : Calls Tryz.prog 18 #[.agg xs.toArray, .pointer (some ⟨g, 0, none⟩), .pointer (some ⟨g2, 0, none⟩)] w_ (fun e w' => e = .returned (.tuple #[.int .u64 0, .int .i64 13]) ∧ Grow w w') by rw [hw] at H; exact H
  clear hw hxs hi hk hrk h0
  go_enter Tryz.func18, Tryz.ntmps18
  go_wp2_with (first | (with_reducible refine wpl_box (o := ⟨some 3, _, _, _, _, _⟩) rfl rfl rfl ?_))
  intro w2_ hb2_ hb_ hsz2_
  have HX_ := Lib.hid (at_mk hb2_ HIC.out.len)
  clear hb2_ hsz2_
  have HG_ := Lib.hid HB.out.size
  have HB_ := Lib.hid (HB.out.grow' hb_)
  clear HB
  have HB := HB_
  clear HB_
  generalize hg_ : w_.heap.size = g3 at HX_ HG_ ⊢
  clear hg_
  have HX_g := HG_
  clear HG_
  have HX := HX_
  clear hb_ HX_
  try clear w_
  rename World => w_
  go_wp2_with (first | (with_reducible refine wpl_loadb (o := ⟨some 23, _, _, _, _, _⟩) rfl rfl row_id HX.out.blk rfl HX.out.len ?_))
  refine (HOF.out _ HB.out).mono ?_
  rintro e w2_ ⟨A3, c3, rfl, hp_, hb_⟩
  replace HB := Lib.hid (HB.out.grow' hb_)
  clear hp_ hb_ HX
  go_wp2_with fail
  go_ret2
  exact ⟨rfl, HB.out⟩
theorem great_tx {A : Option Addr} {n c : Nat} {A2 : Option Addr} {n2 c2 : Nat} {l : List (Value × Inp)} {os : List Outp} {fee ex : Int} {w : World} (hi : InsAt w A n c l) (ho : OutsAt w A2 n2 c2 os) (hf : U64 fee) (hx : I64 ex) (hg : greatT ⟨l.map Prod.snd, os, fee, ex⟩ = false) : TxAt w (txV A n c A2 n2 c2 fee ex) ⟨l.map Prod.snd, os, fee, ex⟩ := by
  unfold greatT at hg
  simp only [Bool.or_eq_false_iff, decide_eq_false_iff_not] at hg
  have h1 := hi.2.2.1; have h2 := ho.2.2.1
  have h3 : (l.map Prod.snd).length = l.length := List.length_map ..
  refine ⟨A, n, c, A2, n2, c2, fee, ex, l, os, rfl, rfl, hi, ho, by have := hg.1.1; simp only [h3] at this; omega, by have := hg.1.2; omega, hf, hx⟩
set_option maxRecDepth 100000 in
set_option maxHeartbeats 8000000 in
theorem spendNone_walk (A : Option Addr) (n c : Nat) (A2 : Option Addr) (n2 c2 : Nat) (l : List (Value × Inp)) (os : List Outp) (fee ex : Int) (z1 z2 : Int) (d : List UInt8) (w : World) (hi : InsAt w A n c l) (ho : OutsAt w A2 n2 c2 os) (hf : U64 fee) (hx : I64 ex) (hm : c ≤ maxLen) (hm2 : c2 ≤ maxLen) (wz1 : (Lit.int .i64 z1).wf = true) (wz2 : (Lit.int .i64 z2).wf = true) (hd : d.length = 32) (ht : Tabs w) :
    Calls Tryz.prog 4 #[.agg (txV A n c A2 n2 c2 fee ex).toArray, .int .i64 z1, .int .i64 z2, .agg (d.map B).toArray] w fun e w' => e = .returned (.bool true) ∧ Below w.heap.size w w' := by
  have HGR := Lib.hid (fun w' (k : Grow w w') => rtgreat_any w' (hi.grow k) ho.2.2.1 (A := A) (c := c) (A2 := A2) (c2 := c2) (fee := fee) (ex := ex) (by have := hi.2.2.2; unfold maxLen at hm; omega) (by have := ho.2.2.2; unfold maxLen at hm2; omega))
  have HAW := Lib.hid (fun w' (k : Grow w w') => awake22_any w' (ht.grow k))
  have HTX := Lib.hid (fun hg => great_tx hi ho hf hx hg)
  have HTT := Lib.hid ht
  have HTC := Lib.hid (txV_cl (A := A) (n := n) (c := c) (A2 := A2) (n2 := n2) (c2 := c2) (fee := fee) (ex := ex))
  have HIC := Lib.hid (aidV_cl hd)
  obtain ⟨t, htt⟩ : ∃ t : Txn, t = ⟨l.map Prod.snd, os, fee, ex⟩ := ⟨_, rfl⟩
  rw [← htt] at HGR HTX
  obtain ⟨tv, htv⟩ : ∃ q, q = txV A n c A2 n2 c2 fee ex := ⟨_, rfl⟩
  rw [← htv] at HGR HTX HTC ⊢
  have HBN := Lib.hid (fun (w' : World) (q : Option Addr) => back_nil d hd q w')
  have HFN := Lib.hid (fun (w' : World) => free_nil d hd w')
  have HBE := Lib.hid (fun w' g g2 b2 (h : LocksAt w' g2 b2 [] 0) => back_none (g := g) hd (Y := []) rfl w' h RelK.nil)
  obtain ⟨ds, hds⟩ : ∃ q, q = d.map B := ⟨_, rfl⟩
  rw [← hds] at HIC HBN HFN HBE ⊢
  obtain ⟨gt, hgt⟩ : ∃ q, q = greatT t := ⟨_, rfl⟩
  rw [← hgt] at HGR HTX
  obtain ⟨w_, hw⟩ : ∃ x, x = w := ⟨_, rfl⟩
  have HB := Lib.hid (show Below w.heap.size w w_ by rw [hw]; exact Below.refl _ _)
  suffices H : Calls Tryz.prog 4 #[.agg tv.toArray, .int .i64 z1, .int .i64 z2, .agg ds.toArray] w_ (fun e w' => e = .returned (.bool true) ∧ Below w.heap.size w w') by rw [hw] at H; exact H
  clear hw hi ho hf hx hm hm2 wz1 wz2 hd ht htt htv hds hgt
  go_enter Tryz.func4, Tryz.ntmps4
  go_wp2_with (first | (with_reducible refine wpl_box (o := ⟨some 4, _, _, _, _, _⟩) rfl rfl rfl ?_))
  intro w2_ hb2_ hb_ hsz2_
  have HX_ := Lib.hid (at_mk hb2_ HTC.out.len)
  clear hb2_ hsz2_
  have HG_ := Lib.hid HB.out.size
  have HB_ := Lib.hid (HB.out.grow' hb_)
  clear HB
  have HB := HB_
  clear HB_
  generalize hg_ : w_.heap.size = g4 at HX_ HG_ ⊢
  clear hg_
  have HX_g := HG_
  clear HG_
  have HX := HX_
  clear hb_ HX_
  try clear w_
  rename World => w_
  go_wp2_with (first | (with_reducible refine wpl_box (o := ⟨some 7, _, _, _, _, _⟩) rfl rfl rfl ?_))
  intro w2_ hb2_ hb_ hsz2_
  have HX_ := Lib.hid (at_mk hb2_ HIC.out.len)
  clear hb2_ hsz2_
  have HG_ := Lib.hid HB.out.size
  have HB_ := Lib.hid (HB.out.grow' hb_)
  clear HB
  have HB := HB_
  clear HB_
  have HX_ := Lib.hid (HX.out.grow hb_)
  clear HX
  have HX := HX_
  clear HX_
  generalize hg_ : w_.heap.size = g7 at HX_ HG_ ⊢
  clear hg_
  have HD_g := HG_
  clear HG_
  have HD := HX_
  clear hb_ HX_
  try clear w_
  rename World => w_
  go_wp2_with (first | (with_reducible refine wpl_loadb (o := ⟨some 26, _, _, _, _, _⟩) rfl rfl row_tx HX.out.blk rfl HX.out.len ?_))
  refine (HGR.out _ HB.out).mono ?_
  rintro e w_ ⟨rfl, hb_⟩
  have HB_ := Lib.hid (HB.out.grow' hb_)
  clear HB
  have HB := HB_
  clear HB_
  have HX_ := Lib.hid (HX.out.grow hb_)
  clear HX
  have HX := HX_
  clear HX_
  have HD_ := Lib.hid (HD.out.grow hb_)
  clear HD
  have HD := HD_
  clear HD_
  clear hb_
  cases gt with
  | true =>
    go_wp2_with fail
    refine (HAW.out _ HB.out).mono ?_
    rintro e w_ ⟨rfl, hb_⟩
    have HB_ := Lib.hid (HB.out.grow' hb_)
    clear HB
    have HB := HB_
    clear HB_
    have HX_ := Lib.hid (HX.out.grow hb_)
    clear HX
    have HX := HX_
    clear HX_
    clear hb_
    go_wp2_with fail
    go_ret
    exact ⟨rfl, HB.out⟩
  | false =>
    have HT := Lib.hid (HTX.out rfl)
    clear HTX HGR
    go_wp2_with fail
    refine (new_any _).mono ?_
    rintro e w2_ ⟨g, b, rfl, hc, _, _, hb_⟩
    have HC := Lib.hid hc
    replace HX := Lib.hid (HX.out.grow hb_); replace HD := Lib.hid (HD.out.grow hb_); replace HB := Lib.hid (HB.out.grow' hb_)
    clear hc hb_
    try clear w_
    rename World => w_
    go_wp2_with fail
    refine (knew_any _).mono ?_
    rintro e w2_ ⟨g2, b2, rfl, hk, _, _, hb_⟩
    have HK := Lib.hid hk
    replace HC := Lib.hid (HC.out.grow hb_); replace HX := Lib.hid (HX.out.grow hb_); replace HD := Lib.hid (HD.out.grow hb_); replace HB := Lib.hid (HB.out.grow' hb_)
    clear hk hb_
    try clear w_
    rename World => w_
    go_wp2_with (first | (with_reducible refine wpl_loadb (o := ⟨some 39, _, _, _, _, _⟩) rfl rfl row_tx HX.out.blk rfl HX.out.len ?_))
    refine (inputs_nil z1 z2 none (some ⟨g2, 0, none⟩) (.inl rfl) _ (HT.out.grow HB.out)).mono ?_
    rintro e w_ ⟨rfl, hb_⟩
    have HB_ := Lib.hid (HB.out.grow' hb_)
    clear HB
    have HB := HB_
    clear HB_
    have HX_ := Lib.hid (HX.out.grow hb_)
    clear HX
    have HX := HX_
    clear HX_
    have HD_ := Lib.hid (HD.out.grow hb_)
    clear HD
    have HD := HD_
    clear HD_
    have HC_ := Lib.hid (HC.out.grow hb_)
    clear HC
    have HC := HC_
    clear HC_
    have HK_ := Lib.hid (HK.out.grow hb_)
    clear HK
    have HK := HK_
    clear HK_
    clear hb_
    go_wp2_with (first | (with_reducible refine wpl_loadb (o := ⟨some 47, _, _, _, _, _⟩) rfl rfl row_tx HX.out.blk rfl HX.out.len ?_))
    refine (pay_nil z1 z2 (some ⟨g, 0, none⟩) none (.inr ⟨⟨_, rfl⟩, rfl⟩) _ (HT.out.grow HB.out)).mono ?_
    rintro e w_ ⟨rfl, hb_⟩
    have HB_ := Lib.hid (HB.out.grow' hb_)
    clear HB
    have HB := HB_
    clear HB_
    have HX_ := Lib.hid (HX.out.grow hb_)
    clear HX
    have HX := HX_
    clear HX_
    have HD_ := Lib.hid (HD.out.grow hb_)
    clear HD
    have HD := HD_
    clear HD_
    have HC_ := Lib.hid (HC.out.grow hb_)
    clear HC
    have HC := HC_
    clear HC_
    have HK_ := Lib.hid (HK.out.grow hb_)
    clear HK
    have HK := HK_
    clear HK_
    clear hb_
    go_wp2_with (first | (with_reducible refine wpl_loadb (o := ⟨some 55, _, _, _, _, _⟩) rfl rfl row_tx HX.out.blk rfl HX.out.len ?_))
    refine (lock_nil z1 z2 none none (.inl rfl) _ (HT.out.grow HB.out)).mono ?_
    rintro e w_ ⟨rfl, hb_⟩
    have HB_ := Lib.hid (HB.out.grow' hb_)
    clear HB
    have HB := HB_
    clear HB_
    have HX_ := Lib.hid (HX.out.grow hb_)
    clear HX
    have HX := HX_
    clear HX_
    have HD_ := Lib.hid (HD.out.grow hb_)
    clear HD
    have HD := HD_
    clear HD_
    have HC_ := Lib.hid (HC.out.grow hb_)
    clear HC
    have HC := HC_
    clear HC_
    have HK_ := Lib.hid (HK.out.grow hb_)
    clear HK
    have HK := HK_
    clear HK_
    clear hb_
    go_wp2_with (first | (with_reducible refine wpl_loadb (o := ⟨some 62, _, _, _, _, _⟩) rfl rfl row_tx HX.out.blk rfl HX.out.len ?_))
    refine (mint_nil HTC.out z1 z2 _).mono ?_
    rintro e w_ ⟨rfl, hb_⟩
    have HB_ := Lib.hid (HB.out.grow' hb_)
    clear HB
    have HB := HB_
    clear HB_
    have HX_ := Lib.hid (HX.out.grow hb_)
    clear HX
    have HX := HX_
    clear HX_
    have HD_ := Lib.hid (HD.out.grow hb_)
    clear HD
    have HD := HD_
    clear HD_
    have HC_ := Lib.hid (HC.out.grow hb_)
    clear HC
    have HC := HC_
    clear HC_
    have HK_ := Lib.hid (HK.out.grow hb_)
    clear HK
    have HK := HK_
    clear HK_
    clear hb_
    go_wp2_with (first | (with_reducible refine wpl_loadb (o := ⟨some 69, _, _, _, _, _⟩) rfl rfl row_id HD.out.blk rfl HD.out.len ?_))
    refine (HBN.out w_ _).mono ?_
    rintro e w_ ⟨rfl, hb_⟩
    have HB_ := Lib.hid (HB.out.grow' hb_)
    clear HB
    have HB := HB_
    clear HB_
    have HX_ := Lib.hid (HX.out.grow hb_)
    clear HX
    have HX := HX_
    clear HX_
    have HD_ := Lib.hid (HD.out.grow hb_)
    clear HD
    have HD := HD_
    clear HD_
    have HC_ := Lib.hid (HC.out.grow hb_)
    clear HC
    have HC := HC_
    clear HC_
    have HK_ := Lib.hid (HK.out.grow hb_)
    clear HK
    have HK := HK_
    clear HK_
    clear hb_
    go_wp2_with (first | (with_reducible refine wpl_loadb (o := ⟨some 75, _, _, _, _, _⟩) rfl rfl row_id HD.out.blk rfl HD.out.len ?_))
    refine (HBE.out _ g g2 b2 HK.out).mono ?_
    rintro e w_ ⟨rfl, hb_⟩
    have HB_ := Lib.hid (HB.out.grow' hb_)
    clear HB
    have HB := HB_
    clear HB_
    have HX_ := Lib.hid (HX.out.grow hb_)
    clear HX
    have HX := HX_
    clear HX_
    have HD_ := Lib.hid (HD.out.grow hb_)
    clear HD
    have HD := HD_
    clear HD_
    have HC_ := Lib.hid (HC.out.grow hb_)
    clear HC
    have HC := HC_
    clear HC_
    have HK_ := Lib.hid (HK.out.grow hb_)
    clear HK
    have HK := HK_
    clear HK_
    clear hb_
    have HIN := Lib.hid (inputs_any z1 z2 w_ (HT.out.grow HB.out) HC.out RelC.nil HK.out RelK.nil (HTT.out.grow HB.out))
    have HI0 := Lib.hid (show checkT t ≠ 0 → (inputsR [] [] t z1 z2).2 = checkT t from fun h => by unfold inputsR; rw [if_pos h])
    have HI1 := Lib.hid (fun h => inputs_none t z1 z2 h)
    obtain ⟨R, hR⟩ : ∃ R, R = inputsR [] [] t z1 z2 := ⟨_, rfl⟩
    rw [← hR] at HIN HI0 HI1
    clear hR
    obtain ⟨ra, rb⟩ := R
    go_wp2_with (first | (with_reducible refine wpl_loadb (o := ⟨some 82, _, _, _, _, _⟩) rfl rfl row_tx HX.out.blk rfl HX.out.len ?_))
    refine HIN.out.mono ?_
    clear HIN
    rintro e w_ ⟨rfl, hb_⟩
    have HB_ := Lib.hid (HB.out.grow' hb_)
    clear HB
    have HB := HB_
    clear HB_
    have HX_ := Lib.hid (HX.out.grow hb_)
    clear HX
    have HX := HX_
    clear HX_
    have HD_ := Lib.hid (HD.out.grow hb_)
    clear HD
    have HD := HD_
    clear HD_
    clear hb_
    go_wp2_with (first | (with_reducible refine wpl_loadb (o := ⟨some 90, _, _, _, _, _⟩) rfl rfl row_tx HX.out.blk rfl HX.out.len ?_))
    refine ((HT.out.grow HB.out).rcheck).mono ?_
    rintro e w_ ⟨rfl, hb_⟩
    have HB_ := Lib.hid (HB.out.grow' hb_)
    clear HB
    have HB := HB_
    clear HB_
    have HX_ := Lib.hid (HX.out.grow hb_)
    clear HX
    have HX := HX_
    clear HX_
    have HD_ := Lib.hid (HD.out.grow hb_)
    clear HD
    have HD := HD_
    clear HD_
    clear hb_
    clear HC HK
    obtain ⟨ck, hck⟩ : ∃ k, k = checkT t := ⟨_, rfl⟩
    rw [← hck] at HI0 HI1 ⊢
    clear hck HX
    go_wp2_with (first | (with_reducible refine wpl_loadb (o := ⟨some 115, _, _, _, _, _⟩) rfl rfl row_id HD.out.blk rfl HD.out.len ?_) | (with_reducible refine wpl_loadw (o := ⟨some 115, _, _, _, _, _⟩) (by first | rfl | (go_simp; done) | fail) rfl row_id HD.out.blk rfl HD.out.len ?_))
    refine (HFN.out w_).mono ?_
    rintro e w_ ⟨rfl, hb_⟩
    have HB_ := Lib.hid (HB.out.grow' hb_)
    clear HB
    have HB := HB_
    clear HB_
    have HD_ := Lib.hid (HD.out.grow hb_)
    clear HD
    have HD := HD_
    clear HD_
    clear hb_
    by_cases hk0 : ck = 0
    · subst hk0
      have z1_ : ((0 : Int) == 0) = true := by decide
      have z2_ : ((0 : Int) != 0) = false := by decide
      rcases HI1.out rfl with h | h
      · change rb = _ at h
        subst h
        go_wp2_with fail
        refine (HAW.out _ HB.out).mono ?_
        rintro e w_ ⟨rfl, hb_⟩
        have HB_ := Lib.hid (HB.out.grow' hb_)
        clear HB
        have HB := HB_
        clear HB_
        have HD_ := Lib.hid (HD.out.grow hb_)
        clear HD
        have HD := HD_
        clear HD_
        clear hb_
        go_wp2_with fail
        go_ret
        exact ⟨rfl, HB.out⟩
      · change rb = _ at h
        subst h
        go_wp2_with fail
        refine (HAW.out _ HB.out).mono ?_
        rintro e w_ ⟨rfl, hb_⟩
        have HB_ := Lib.hid (HB.out.grow' hb_)
        clear HB
        have HB := HB_
        clear HB_
        have HD_ := Lib.hid (HD.out.grow hb_)
        clear HD
        have HD := HD_
        clear HD_
        clear hb_
        go_wp2_with fail
        go_ret
        exact ⟨rfl, HB.out⟩
    · have h := HI0.out hk0
      change rb = _ at h
      subst h
      have z1_ : (rb == 0) = false := by simpa using hk0
      have z2_ : (rb != 0) = true := by simpa using hk0
      have z3_ : (rb == rb) = true := by simp
      go_wp2_with fail
      refine (HAW.out _ HB.out).mono ?_
      rintro e w_ ⟨rfl, hb_⟩
      have HB_ := Lib.hid (HB.out.grow' hb_)
      clear HB
      have HB := HB_
      clear HB_
      have HD_ := Lib.hid (HD.out.grow hb_)
      clear HD
      have HD := HD_
      clear HD_
      clear hb_
      go_wp2_with fail
      go_ret
      exact ⟨rfl, HB.out⟩
end Go.Proofs.YtnnjjbkdjkjnpaaGreatDoor
/- The given card SpendNoneCardSaid, out of the walk spendNone_walk: for every input the law returns true, and each argument reads as it did; the tables of package sha are tied to the program's text. No condition. -/
namespace Go.Proofs.YtnnjjbkdjkjnpaaGreatDoor.lawSpendNone
open Go.ChangeShapes Go.WideShapes Go.ChangeAt Go.RowKit
open Go.ChangeMaps (open_string shut_string)
set_option linter.unusedVariables false
theorem laidOut : laidOutB Tryz.prog = true := laid_out
set_option maxRecDepth 100000 in
theorem contract (H : Type) (enc : TypeId × Value → H) (W : World) (base : Nat) (args : Array Value) (ds gs : List (DataW H)) (before : List MemPlace)
    (hval0 : ∀ (j : Nat) t v, Tryz.f4.params[j]? = some t → args[j]? = some v → Value.okWide Tryz.prog W .any base t v)
    (hW : DataW.Whole enc Tryz.prog Tryz.f4.params.toList Rows.spendNoneSpec.vars false W args.toList ds gs before) (hL : laidMetH Tryz.prog Rows.spendNoneRow.laid W) :
    Calls Tryz.prog 4 args W fun e W' => ∃ v, e = .returned v ∧ Rows.spendNoneSpec.post enc Tryz.prog Tryz.f4 false true false false W args v W' := by
  have hval : ∀ (j : Nat) t v, Tryz.f4.params[j]? = some t → args[j]? = some v → Value.okWide Tryz.prog W .any base t v := hval0
  have hW' := hW
  obtain ⟨p, q, hA0, hV, rfl, hfz, hnd⟩ := hW
  have hA : DataW.TrodAll enc Tryz.prog W 0 (fun _ => true) true Tryz.f4.params.toList args.toList ds p := hA0
  rw [Tryz.params4] at hA hval
  obtain ⟨v0, vs0, d0, ds0, p0, q0, hargs, rfl, rfl, h0, r0⟩ := trodAll_cons hA
  obtain ⟨v1, vs1, d1, ds1, p1, q1, rfl, rfl, rfl, h1, r1⟩ := trodAll_cons r0
  obtain ⟨v2, vs2, d2, ds2, p2, q2, rfl, rfl, rfl, h2, r2⟩ := trodAll_cons r1
  obtain ⟨v3, vs3, d3, ds3, p3, q3, rfl, rfl, rfl, h3, r3⟩ := trodAll_cons r2
  obtain ⟨rfl, rfl, rfl⟩ := trodAll_nil r3
  obtain rfl : args = #[v0, v1, v2, v3] := by cases args; simp_all
  obtain ⟨rfl, rfl⟩ := trodVars_none hV
  have k0 := h0
  have lt0 : ∀ x ∈ p0, x.block < W.heap.size := by obtain ⟨m, hm⟩ := k0; exact DataW.trod_lt m _ _ _ hm
  obtain ⟨x0_0, x0_1, x0_2, x0_3, x0_4, x0_5, x0_6, x0_7, x0_8, x0_9, rfl, f0_0, f0_1, f0_2, f0_3, f0_4, f0_5⟩ := open_tx (hval 0 27 v0 rfl rfl) h0
  have k1 := h1
  have lt1 : ∀ x ∈ p1, x.block < W.heap.size := by obtain ⟨m, hm⟩ := k1; exact DataW.trod_lt m _ _ _ hm
  obtain ⟨a1, rfl, rfl, rfl, w1⟩ := open_int Tryz.underlying3 (hval 1 3 v1 rfl rfl) h1
  have k2 := h2
  have lt2 : ∀ x ∈ p2, x.block < W.heap.size := by obtain ⟨m, hm⟩ := k2; exact DataW.trod_lt m _ _ _ hm
  obtain ⟨a2, rfl, rfl, rfl, w2⟩ := open_int Tryz.underlying3 (hval 2 3 v2 rfl rfl) h2
  have k3 := h3
  have lt3 : ∀ x ∈ p3, x.block < W.heap.size := by obtain ⟨m, hm⟩ := k3; exact DataW.trod_lt m _ _ _ hm
  obtain ⟨x3_0, rfl, f3_0⟩ := open_dig (hval 3 46 v3 rfl rfl) h3
  have htabs : Tabs W := tabs_of hL
  clear hA0 hval0 hL
  refine (spendNone_walk x0_0 x0_1 x0_2 x0_3 x0_4 x0_5 x0_6 x0_7 x0_8 x0_9 a1 a2 x3_0 W f0_0 f0_1 f0_2 f0_3 f0_4 f0_5 w1 w2 f3_0 htabs).mono fun e W' ⟨he, bel⟩ => ?_
  subst he
  exact ⟨_, rfl, _, _, _, [], _, [], hW', trodAll_mk1 (shut_bool Tryz.underlying4 _), (trodAll_cons_mk (Below.trod laidOut (by kernel_rfl) (of_decide_eq_true (by kernel_rfl)) k0 bel lt0) (trodAll_cons_mk (Below.trod laidOut (by kernel_rfl) (of_decide_eq_true (by kernel_rfl)) k1 bel lt1) (trodAll_cons_mk (Below.trod laidOut (by kernel_rfl) (of_decide_eq_true (by kernel_rfl)) k2 bel lt2) (trodAll_cons_mk (Below.trod laidOut (by kernel_rfl) (of_decide_eq_true (by kernel_rfl)) k3 bel lt3) trodAll_mk0)))), rfl, bel.frame _, fun h => by cases h⟩
theorem laid_met (os : Os) : laidMet Tryz.prog Rows.spendNoneRow.laid ((laidWorld os).forCall (fun _ _ => 0) ⟨#[], #[.agg (txV none 0 0 none 0 0 0 0).toArray, .int .i64 0, .int .i64 0, .agg (zeroD.map B).toArray], []⟩).memory :=
  laidMet_of_run' 8 (by kernel_rfl) (by kernel_rfl)
theorem reads (os : Os) {H : Type} (enc : TypeId × Value → H) : ∃ ds places, DataW.whole enc Tryz.prog ((laidWorld os).forCall (fun _ _ => 0) ⟨#[], #[.agg (txV none 0 0 none 0 0 0 0).toArray, .int .i64 0, .int .i64 0, .agg (zeroD.map B).toArray], []⟩).memory Tryz.f4.params.toList Rows.spendNoneSpec.vars false #[.agg (txV none 0 0 none 0 0 0 0).toArray, .int .i64 0, .int .i64 0, .agg (zeroD.map B).toArray].toList 8 = some (ds, [], places) := by
  obtain ⟨⟨ds, gs, pl⟩, h, e⟩ := Option.map_eq_some_iff.1 (show (DataW.whole enc Tryz.prog ((laidWorld os).forCall (fun _ _ => 0) ⟨#[], #[.agg (txV none 0 0 none 0 0 0 0).toArray, .int .i64 0, .int .i64 0, .agg (zeroD.map B).toArray], []⟩).memory Tryz.f4.params.toList Rows.spendNoneSpec.vars false #[.agg (txV none 0 0 none 0 0 0 0).toArray, .int .i64 0, .int .i64 0, .agg (zeroD.map B).toArray].toList 8).map (fun x => x.2.1) = some [] by kernel_rfl)
  simp only at e
  subst e
  exact ⟨ds, pl, h⟩
set_option maxRecDepth 100000 in
theorem lifted (os : Os) (started : os.Started) (H : Type) (enc : TypeId × Value → H) (F : Stop.Interp) :
    ReturnsInHanded {} Tryz.checked os 4 .any ((OpenSpec.ofChange Rows.spendNoneSpec).preRow enc Tryz.prog Tryz.f4 Rows.spendNoneRow.domain false Rows.spendNoneRow.laid) (((OpenSpec.ofChange Rows.spendNoneSpec).at F).post enc Tryz.prog Tryz.f4 false true false false) := by
  obtain ⟨ds, places, hx⟩ := reads os enc
  refine returnsInHanded_of_row (C := Tryz.checked) (s := OpenSpec.ofChange Rows.spendNoneSpec) own_knob started (by kernel_rfl) Tryz.func4
    (witness_row_at (enc := enc) (C := Tryz.checked) false (laidWorld os) #[.agg (txV none 0 0 none 0 0 0 0).toArray, .int .i64 0, .int .i64 0, .agg (zeroD.map B).toArray] rfl (by kernel_rfl) (by kernel_rfl) (by kernel_rfl)
      (OpenSpec.preRow_of_cond 8 hx (by kernel_rfl) (fun k hk => by cases hk) (by kernel_rfl) (laid_met os))) ?_
  intro W base args ds gs before hval hW _ _ _ hL _ _
  exact contract H enc W base args ds gs before hval hW hL
theorem said : Rows.SpendNoneSaid :=
  OpenClaim.holds_of_cond 4 Tryz.f4 rfl rfl rfl rfl rfl rfl rfl ⟨rfl, rfl, rfl, rfl, rfl⟩ rfl rfl rfl rfl rfl (by kernel_rfl) Tryz.func4 (by kernel_rfl)
    (of_decide_eq_true (by kernel_rfl)) (by unfold Func.isWrapper; first | (rw [if_pos (by decide +kernel)]; kernel_rfl) | (rw [if_neg (by decide +kernel)]; exact ⟨rfl, rfl⟩))
    (fun os started H enc _ F => by rw [OpenClaim.pre_eq_preRow]; exact lifted os started H enc F)
theorem plain (f : FuncId) (fn : Func) (hf : Tryz.pinned.checked.prog.funcNamed "seisin/seisinlaw22.SpendNone" = some f) (hfn : Tryz.pinned.checked.prog.funcs[f]? = some fn) :
    true = Tryz.pinned.checked.prog.looks [] ∧ ∀ (j : Nat) t, fn.params[j]? = some t → Tryz.pinned.checked.prog.wantsStandIn t = false := by
  obtain rfl : f = 4 := Option.some.inj ((show Tryz.prog.funcNamed "seisin/seisinlaw22.SpendNone" = some 4 by kernel_rfl).symm.trans hf) |>.symm
  obtain rfl : fn = Tryz.f4 := (Option.some.inj (Tryz.func4.symm.trans hfn)).symm
  refine ⟨by kernel_rfl, fun j t ht => ?_⟩
  rw [Tryz.params4] at ht
  have hm : t ∈ [27, 3, 3, 46] := by simpa using Array.mem_of_getElem? ht
  have hall : ([27, 3, 3, 46].all fun u => !Tryz.prog.wantsStandIn u) = true := by kernel_rfl
  exact (show Tryz.prog.wantsStandIn t = false by simpa using List.all_eq_true.1 hall t hm)
theorem proved : Rows.SpendNoneCardSaid :=
  Claim7.holds_tied_plain_at .later [] _ _ _ _ said (fun _ h => by cases h) (by kernel_rfl) (fun _ h => by cases h) spendNone_row_tie rfl ⟨rfl, rfl⟩ (by kernel_rfl) rfl plain (by kernel_rfl)
#print axioms proved
end Go.Proofs.YtnnjjbkdjkjnpaaGreatDoor.lawSpendNone

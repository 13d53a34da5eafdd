/- The document's coins: Bytes. Printed by mkrfd.py. -/
import Derived.Test.YtnnjjbkdjkjnpaaGreatDoorSpendOnceT30
import Derived.Test.YtnnjjbkdjkjnpaaGreatDoorSpendOnceT27
import Derived.Test.YtnnjjbkdjkjnpaaGreatDoorSpendOnceT13
import Derived.Test.YtnnjjbkdjkjnpaaGreatDoorSpendOnceT6
import Derived.Test.YtnnjjbkdjkjnpaaGreatDoorSpendOnceT2
import Derived.Test.YtnnjjbkdjkjnpaaGreatDoorSpendOnceT20
import Derived.Test.YtnnjjbkdjkjnpaaGreatDoorSpendOnceT21
import Derived.Test.YtnnjjbkdjkjnpaaGreatDoorSpendOnceT29
set_option linter.unusedSimpArgs false
/- The document's coins: Bytes. Printed by mkrfd.py. -/
namespace Go.Proofs.YtnnjjbkdjkjnpaaGreatDoor
open Go.RowKit
set_option linter.unusedVariables false
end Go.Proofs.YtnnjjbkdjkjnpaaGreatDoor
/- maps.Keys over a map from outputs to coins: the iterator's value gives the keys, each once, in some order. Printed by mkkeys.py. -/
namespace Go.Proofs.YtnnjjbkdjkjnpaaGreatDoor
open Go.RowKit Go.Maps Go.Sort Go.Shelf
set_option linter.unusedVariables false
end Go.Proofs.YtnnjjbkdjkjnpaaGreatDoor
/- The contract of coins.All. Printed by mkcall.py. -/
namespace Go.Proofs.YtnnjjbkdjkjnpaaGreatDoor
open Go.RowKit Go.Maps Go.Sort Go.Shelf
set_option linter.unusedVariables false
end Go.Proofs.YtnnjjbkdjkjnpaaGreatDoor
/- The contract of coins.Put1. Printed by mkcoinp.py. -/
namespace Go.Proofs.YtnnjjbkdjkjnpaaGreatDoor
open Go.RowKit
set_option linter.unusedVariables false
theorem CoinsAt.grow {w w' : World} {g b : Nat} {L : CoinsL} {s : Int} (h : CoinsAt w g b L s) (k : Grow w w') : CoinsAt w' g b L s := h.call k
end Go.Proofs.YtnnjjbkdjkjnpaaGreatDoor
/- The example of seisinlaw22. -/
namespace Go.Proofs.YtnnjjbkdjkjnpaaGreatDoor
open Go.RowKit Go.Shelf
set_option linter.unusedVariables false
def out22 : Outp := ⟨zeroD, 5⟩
def tA22 : Txn := ⟨[inp7], [out22], 0, 0⟩
def p22 : PtK := (zeroD, 0)
def c22 : CoinV := (ownerB [], 5)
theorem chk22 : checkT tA22 = 0 := by decide
theorem here22 : hereI tA22 1 0 = [0] := by
  unfold hereI shrI
  rw [if_pos ⟨chk22, by omega, by omega⟩]
  show placesI [shd inp7.pt 1] 0 = [0]
  rw [shd_one]; decide
theorem p22_ok : PtOK p22 := ⟨by simp [p22, zeroD], by decide⟩
theorem c22_ok : CoinOK c22 := ⟨sha_length _, by simp [c22], by simp [c22]⟩
theorem l22_ok : LockOK (cn 5, idx 1) := ⟨cn_ok 5 (by omega) (by omega), idx_len 1⟩
theorem put22 : rputC [] p22 c22 = ([(p22, c22)], 0) := by simp [rputC, p22, c22, lookC, insC, amtC]
theorem putR22 : putR [] 0 p22 c22 = 0 := by simp [putR, p22, c22, lookC, addE]
theorem putK22 : rputK [] p22 (cn 5, idx 1) = ([(p22, (cn 5, idx 1))], 0) := by simp [rputK, p22, cn, lookL, insK, amtK]
theorem putQ22 : putQ [] 0 p22 (cn 5) = 0 := by simp [putQ, p22, cn, lookL, addE]
theorem rel22 : RelC [(p22, c22)] [(p22, c22)] 5 := by
  have h := RelC.nil.put p22_ok c22_ok putR22
  rw [put22] at h
  have e : (addE 0 c22.2).1 = 5 := by simp [addE, c22]
  rw [e] at h; exact h
theorem relK22 : RelK [(p22, (cn 5, idx 1))] [(p22, (cn 5, idx 1))] 5 := by
  have h := RelK.nil.put p22_ok l22_ok putQ22
  rw [putK22] at h
  have e : (addE 0 (cn 5).2).1 = 5 := by simp [addE, cn]
  have e' : (addE 0 (cn 5, idx 1).1.2).1 = 5 := e
  rw [e'] at h; exact h
theorem in22a : inputsR [(p22, c22)] [(p22, (cn 5, idx 1))] tA22 1 0 = (0, 14) := by
  unfold inputsR
  rw [chk22, here22]
  have e : inputE [(p22, c22)] [(p22, (cn 5, idx 1))] inp7 = 14 := by
    unfold inputE
    rw [if_pos]
    show (lookL [(p22, (cn 5, idx 1))] p22).isSome = true
    simp [lookL]
  simp [sumsR, tA22, e]
theorem in22b : inputsR [(p22, c22)] [] tA22 1 0 = (5, 0) := by
  unfold inputsR
  rw [chk22, here22]
  have e : inputE [(p22, c22)] [] inp7 = 0 := by
    have h1 : lookC [(p22, c22)] inp7.pt = some c22 := by
      show lookC [(p22, c22)] p22 = some c22
      simp [lookC]
    unfold inputE
    rw [h1]
    simp [lookL, c22, inp7]
  have e2 : w64 (0 + 5) = 5 := by decide
  simp [sumsR, tA22, e]
  exact e2
theorem pay22 : payX [(p22, c22)] [] tA22 1 0 = [] := by
  unfold payX
  rw [in22b, here22]
  have : ptsOf tA22.ins [0] = [p22] := rfl
  rw [if_neg (by decide), this]
  simp [cutsC, cutC]
theorem pay22a : payX [(p22, c22)] [(p22, (cn 5, idx 1))] tA22 1 0 = [(p22, c22)] := by
  unfold payX
  rw [in22a, if_pos (by decide)]
theorem rest22 : restK [(p22, (cn 5, idx 1))] (idx 1) = [] := by simp [restK]
theorem bt_tx22 {A A2 : Option Addr} {n c n2 c2 : Nat} : Tryz.prog.built 27 [(0, .slice A n c), (1, .slice A2 n2 c2)] = some (txV A n c A2 n2 c2 0 0).toArray := by
  rw [built_tx0, fill_cons (off := 0) (s := 1) (cs := [.slice A n c]) rfl rfl rfl (by simp [txV]), fill_cons (off := 1) (s := 1) (cs := [.slice A2 n2 c2]) rfl rfl rfl (by simp [txV, splice]), fill_nil]; rfl
theorem built_coin8 (parts : List (Nat × Value)) : Tryz.prog.built 77 parts = Instr.fill (fun i => (#[(0, 32), (32, 1)] : Array (Nat × Nat))[i]?) (coinV noCoin).toArray parts := by kernel_rfl
theorem bt_coin8 {xs : List Value} {z : Int} (h : xs.length = 32) : Tryz.prog.built 77 [(0, .agg xs.toArray), (1, .int .u64 z)] = some (xs ++ [Value.int .u64 z]).toArray := by
  rw [built_coin8, fill_cons (off := 0) (s := 32) (cs := xs) (by simp) rfl h (by rw [coinV_length noCoin_ok]; omega)]
  have e : splice (coinV noCoin) 0 xs = xs ++ [Value.int .u64 0] := by
    rw [show coinV noCoin = [] ++ ((List.replicate 32 (0 : UInt8)).map B ++ [Value.int .u64 0]) from rfl, splice_mid (off := 0) (by rfl) (by simp [h])]; rfl
  rw [e, fill_cons (off := 32) (s := 1) (cs := [Value.int .u64 z]) (by simp) rfl rfl (by simp [h]), fill_nil]
  rw [show xs ++ [Value.int .u64 0] = xs ++ ([Value.int .u64 0] ++ []) from by simp, splice_mid (off := 32) (by simp [h]) (by simp)]; simp
theorem bt_p22 : Tryz.prog.built 69 [] = some (ptV p22).toArray := by kernel_rfl
theorem bt_i22 : Tryz.prog.built 46 [(0, .int .u8 1)] = some ((idx 1).map B).toArray := by kernel_rfl
theorem bt_c22 : Tryz.prog.built 77 [(1, .int .u64 5)] = some (coinV (cn 5)).toArray := by kernel_rfl
theorem tx22 {w : World} {r1 r2 : Nat} {t1 t2 : TypeId} (h1 : Blk w r1 t1 (inV nilS inp7)) (h2 : Blk w r2 t2 (outV out22)) : TxAt w (txV (some ⟨r1, 0, none⟩) 1 1 (some ⟨r2, 0, none⟩) 1 1 0 0) tA22 :=
  ⟨_, _, _, _, _, _, _, _, [(nilS, inp7)], [out22], rfl, rfl,
    ⟨by have h := Blk.sl (sz := 35) (n := 1) h1 rfl; exact h, fun p hp => by rw [List.mem_singleton.1 hp]; exact ⟨⟨none, 0, rfl, Nat.le_refl _, Sl.nil⟩, by simp [inp7, Inp.ok, zeroD, I64, U64]⟩, rfl, Nat.le_refl _⟩,
    ⟨by have h := Blk.sl (sz := 33) (n := 1) h2 rfl; exact h, fun p hp => by rw [List.mem_singleton.1 hp]; simp [out22, Outp.ok, zeroD, U64], rfl, Nat.le_refl _⟩, by omega, by omega, by simp [U64], by simp [I64]⟩
theorem RelC.nilL {L : CoinsL} {s : Int} (h : RelC [] L s) : L = [] := List.Perm.eq_nil h.perm.symm
set_option maxRecDepth 100000 in
set_option maxHeartbeats 8000000 in
theorem awake22_any (w : World) (ht : Tabs w) : Calls Tryz.prog 8 #[] w fun e w' => e = .returned (.bool true) ∧ Grow w w' := by
  have HTT := Lib.hid (fun w' (k : Grow w w') => ht.grow k)
  have HB := Lib.hid (Below.refl w.heap.size w)
  have HRO := Lib.hid (fun w' => rtowner_any (A := none) (n := 0) (c := 0) (bs := []) (zs := (ownerB []).map B) ⟨rfl, sha_length _⟩ w' Sl.nil (by omega))
  have T1 := Lib.hid bt_p22
  have T2 := Lib.hid (show Tryz.prog.built 77 [(0, .agg ((ownerB []).map B).toArray), (1, .int .u64 5)] = some (coinV c22).toArray by rw [bt_coin8 (by rw [List.length_map]; exact sha_length _)]; rfl)
  have T3 := Lib.hid bt_i22
  have T4 := Lib.hid bt_c22
  have HPU := Lib.hid (fun w' g b (h : CoinsAt w' g b [] 0) => put_any g b [] 0 p22 c22 w' h p22_ok c22_ok (by omega) (by omega))
  have HKU := Lib.hid (fun w' g b (h : LocksAt w' g b [] 0) => kput_any g b [] 0 p22 (idx 1) (cn 5) w' h p22_ok (idx_len 1) (cn_ok 5 (by omega) (by omega)) (by omega) (by omega))
  rw [putR22] at HPU
  rw [putQ22] at HKU
  unfold ptA coinA at HPU HKU
  have HE5 := Lib.hid (show (addE 0 c22.2).1 = 5 ∧ (addE 0 (cn 5).2).1 = 5 from ⟨by simp [addE, c22], by simp [addE, cn]⟩)
  have HFA := Lib.hid (fun w' g2 b2 (h : LocksAt w' g2 b2 [(p22, (cn 5, idx 1))] 5) => free_any (idx_len 1) w' h relK22)
  rw [rest22] at HFA
  obtain ⟨cs, hcs⟩ : ∃ q, q = coinV c22 := ⟨_, rfl⟩
  rw [← hcs] at T2 HPU
  obtain ⟨c5, hc5⟩ : ∃ q, q = coinV (cn 5) := ⟨_, rfl⟩
  rw [← hc5] at T4 HKU
  obtain ⟨is, his⟩ : ∃ q, q = (idx 1).map B := ⟨_, rfl⟩
  rw [← his] at T3 HKU HFA
  obtain ⟨zs, hzs⟩ : ∃ q, q = (ownerB []).map B := ⟨_, rfl⟩
  rw [← hzs] at T2 HRO
  obtain ⟨ps, hps⟩ : ∃ q, q = ptV p22 := ⟨_, rfl⟩
  rw [← hps] at T1 HPU HKU
  clear hcs hc5 his hzs hps ht
  go_enter Tryz.func8, Tryz.ntmps8
  go_wp2_with fail
  refine (new_any _).mono ?_
  rintro e w1 ⟨g, b, rfl, hc, hg, hb, hbw⟩
  have HC := Lib.hid hc
  have HGB := Lib.hid (show w.heap.size ≤ g ∧ w.heap.size ≤ b from ⟨hg, hb⟩)
  replace HB := Lib.hid (HB.out.grow' hbw)
  clear hc hg hb hbw
  go_wp2_with fail
  refine (knew_any _).mono ?_
  rintro e w2 ⟨g2, b2, rfl, hk, hg, hb, hbw⟩
  have HK := Lib.hid hk
  have HNE := Lib.hid (show g2 ∉ [g, b] ∧ b2 ∉ [g, b] ∧ g ∉ [g2, b2] ∧ b ∉ [g2, b2] by have h1 := HC.out.ltg; have h2 := HC.out.ltb; simp; omega)
  have HGB2 := Lib.hid (show ∀ x ∈ [g2, b2], w.heap.size ≤ x from fun x hx => by have := HB.out.size; simp only [List.mem_cons, List.not_mem_nil, or_false] at hx; rcases hx with rfl | rfl <;> omega)
  have HGB1 := Lib.hid (show ∀ x ∈ [g, b], w.heap.size ≤ x from fun x hx => by have := HGB.out; simp only [List.mem_cons, List.not_mem_nil, or_false] at hx; rcases hx with rfl | rfl <;> omega)
  replace HC := Lib.hid (HC.out.grow hbw); replace HB := Lib.hid (HB.out.grow' hbw)
  clear hk hg hb hbw HGB
  try clear w1
  rename World => w_
  go_wp2_with (first | (with_reducible refine wpl_stop (o := ⟨some 14, _, _, _, _, _⟩) ?_))
  refine stop_go ?_
  generalize hw1 : World.alloc w_ _ = w1
  generalize hw2 : World.alloc w1 _ = w2
  obtain ⟨hX1, hb1, hs1⟩ := alloc_eq hw1
  obtain ⟨hX2, hb2, hs2⟩ := alloc_eq hw2
  rw [hs1] at hX2
  have HX1 := Lib.hid (show At w2 w_.heap.size 72 35 (inV nilS inp7) from ⟨hX1.grow hb2, rfl⟩)
  have HX2 := Lib.hid (show At w2 (w_.heap.size + 1) 74 33 (outV out22) from ⟨hX2, rfl⟩)
  have HG12 := Lib.hid (Grow.trans _ _ _ hb1 hb2)
  have HLT := Lib.hid (show ∀ x ∈ [g, b, g2, b2], x < w_.heap.size from fun x hx => by
    have h1 := HC.out.ltg; have h2 := HC.out.ltb; have h3 := HK.out.ltg; have h4 := HK.out.ltb
    simp only [List.mem_cons, List.not_mem_nil, or_false] at hx; rcases hx with rfl | rfl | rfl | rfl <;> omega)
  have HT3 := Lib.hid (bt_tx22 (A := some ⟨w_.heap.size, 0, none⟩) (n := 1) (c := 1) (A2 := some ⟨w_.heap.size + 1, 0, none⟩) (n2 := 1) (c2 := 1))
  have HTC := Lib.hid (txV_cl (A := some ⟨w_.heap.size, 0, none⟩) (n := 1) (c := 1) (A2 := some ⟨w_.heap.size + 1, 0, none⟩) (n2 := 1) (c2 := 1) (fee := 0) (ex := 0))
  have HTA := Lib.hid (fun w' (h1 : At w' w_.heap.size 72 35 (inV nilS inp7)) (h2 : At w' (w_.heap.size + 1) 74 33 (outV out22)) => tx22 h1.blk h2.blk)
  obtain ⟨tv, htv⟩ : ∃ q, q = txV (some ⟨w_.heap.size, 0, none⟩) 1 1 (some ⟨w_.heap.size + 1, 0, none⟩) 1 1 0 0 := ⟨_, rfl⟩
  rw [← htv] at HT3 HTC HTA
  replace HC := Lib.hid (HC.out.grow HG12.out); replace HK := Lib.hid (HK.out.grow HG12.out); replace HB := Lib.hid (HB.out.grow' HG12.out)
  clear hw1 hw2 hX1 hX2 hb1 hb2 hs1 hs2 htv HG12
  refine wpl_build rfl rfl HT3.out ?_
  clear HT3
  obtain ⟨r1, hr1⟩ : ∃ q, q = w_.heap.size := ⟨_, rfl⟩
  rw [← hr1] at HX1 HX2 HLT HTA ⊢
  clear hr1 w1
  try clear w_
  rename World => w_
  go_wp2_with (first | (with_reducible refine wpl_alloc (o := ⟨some 3, _, _, _, _, _⟩) rfl rfl zero_tx ?_))
  intro w1_ hb1_ hbw1_ hsz1_
  have HB1_ := Lib.hid (at_mk hb1_ len_tx)
  have HBW1_ := Lib.hid hbw1_
  have HZ1_ := Lib.hid hsz1_
  clear hb1_ hbw1_ hsz1_
  go_wp2_with (first | (with_reducible refine wpl_storeb (o := ⟨none, .store _ _ _, _, _, _, _⟩) rfl rfl row_tx HB1_.out.blk rfl rfl HB1_.out.len HTC.out.len HTC.out.one ?_))
  intro w2_ hb2_ hg2_ hsz2_
  have hb_ := var_grow HBW1_.out HZ1_.out hg2_
  have HX_ := Lib.hid (at_mk hb2_ HTC.out.len)
  clear hb2_ hg2_ hsz2_ HB1_ HBW1_ HZ1_
  have HB_ := Lib.hid (HB.out.grow' hb_)
  clear HB
  have HB := HB_
  clear HB_
  have HX1_ := Lib.hid (HX1.out.grow hb_)
  clear HX1
  have HX1 := HX1_
  clear HX1_
  have HX2_ := Lib.hid (HX2.out.grow hb_)
  clear HX2
  have HX2 := HX2_
  clear HX2_
  have HC_ := Lib.hid (HC.out.grow hb_)
  clear HC
  have HC := HC_
  clear HC_
  have HK_ := Lib.hid (HK.out.grow hb_)
  clear HK
  have HK := HK_
  clear HK_
  generalize hg_ : w_.heap.size = g3 at HX_ ⊢
  clear hg_
  have HX := HX_
  clear hb_ HX_
  clear w1_
  try clear w_
  rename World => w_
  have HNC := Lib.hid (fun w' L s (h : CoinsAt w' g b L s) (h0 : At w' g3 27 4 tv) (h1 : At w' r1 72 35 (inV nilS inp7)) (h2 : At w' (r1 + 1) 74 33 (outV out22)) => show g3 ∉ [g, b] ∧ r1 ∉ [g, b] ∧ r1 + 1 ∉ [g, b] from ⟨h0.ne_coins h (by decide), h1.ne_coins h (by decide), h2.ne_coins h (by decide)⟩)
  have HNK := Lib.hid (fun w' L s (h : LocksAt w' g2 b2 L s) (h0 : At w' g3 27 4 tv) (h1 : At w' r1 72 35 (inV nilS inp7)) (h2 : At w' (r1 + 1) 74 33 (outV out22)) => show g3 ∉ [g2, b2] ∧ r1 ∉ [g2, b2] ∧ r1 + 1 ∉ [g2, b2] from ⟨h0.ne_locks h (by decide), h1.ne_locks h (by decide), h2.ne_locks h (by decide)⟩)
  go_wp2_with (first | (with_reducible refine wpl_stop (o := ⟨some 23, _, _, _, _, _⟩) ?_))
  refine stop_go ?_
  refine wpl_buildg (by first | rfl | (go_simp; done) | fail) rfl T1.out ?_
  go_wp2_with fail
  refine (HRO.out _).mono ?_
  rintro e w_ ⟨rfl, hb_⟩
  have HB_ := Lib.hid (HB.out.grow' hb_)
  clear HB
  have HB := HB_
  clear HB_
  have HX_ := Lib.hid (HX.out.grow hb_)
  clear HX
  have HX := HX_
  clear HX_
  have HX1_ := Lib.hid (HX1.out.grow hb_)
  clear HX1
  have HX1 := HX1_
  clear HX1_
  have HX2_ := Lib.hid (HX2.out.grow hb_)
  clear HX2
  have HX2 := HX2_
  clear HX2_
  have HC_ := Lib.hid (HC.out.grow hb_)
  clear HC
  have HC := HC_
  clear HC_
  have HK_ := Lib.hid (HK.out.grow hb_)
  clear HK
  have HK := HK_
  clear HK_
  clear hb_
  go_wp2_with (first | (with_reducible refine wpl_stop (o := ⟨some 25, _, _, _, _, _⟩) ?_))
  refine stop_go ?_
  refine wpl_buildg (by first | rfl | (go_simp; done) | fail) rfl T2.out ?_
  go_wp2_with fail
  refine Calls.mono (show Calls Tryz.prog 32 _ w_ _ from HPU.out w_ g b HC.out) ?_
  rintro e w2_ ⟨rfl, ht_, hm_, -⟩
  have hn_ := HNC.out _ _ _ HC.out HX.out HX1.out HX2.out
  replace HC := Lib.hid (show CoinsAt w2_ g b [(p22, c22)] 5 by have := hm_ (by first | trivial | rfl); rw [HE5.out.1] at this; exact this)
  replace HK := Lib.hid (HK.out.touchd ht_ HNE.out.1 HNE.out.2.1)
  replace HX := Lib.hid (HX.out.touchd ht_ hn_.1); replace HX1 := Lib.hid (HX1.out.touchd ht_ hn_.2.1); replace HX2 := Lib.hid (HX2.out.touchd ht_ hn_.2.2)
  replace HB := Lib.hid (below_touch HB.out ht_ HGB1.out)
  clear ht_ hm_ hn_
  try clear w_
  rename World => w_
  go_wp2_with (first | (with_reducible refine wpl_stop (o := ⟨some 31, _, _, _, _, _⟩) ?_))
  refine stop_go ?_
  refine wpl_buildg (by first | rfl | (go_simp; done) | fail) rfl T1.out ?_
  go_wp2_with (first | (with_reducible refine wpl_stop (o := ⟨some 32, _, _, _, _, _⟩) ?_))
  refine stop_go ?_
  refine wpl_buildg (by first | rfl | (go_simp; done) | fail) rfl T3.out ?_
  go_wp2_with (first | (with_reducible refine wpl_stop (o := ⟨some 33, _, _, _, _, _⟩) ?_))
  refine stop_go ?_
  refine wpl_buildg (by first | rfl | (go_simp; done) | fail) rfl T4.out ?_
  go_wp2_with fail
  refine Calls.mono (show Calls Tryz.prog 34 _ w_ _ from HKU.out w_ g2 b2 HK.out) ?_
  rintro e w2_ ⟨rfl, ht_, hm_, -⟩
  have hn_ := HNK.out _ _ _ HK.out HX.out HX1.out HX2.out
  replace HK := Lib.hid (show LocksAt w2_ g2 b2 [(p22, (cn 5, idx 1))] 5 by have := hm_ (by first | trivial | rfl); rw [HE5.out.2] at this; exact this)
  replace HC := Lib.hid (HC.out.touchd ht_ HNE.out.2.2.1 HNE.out.2.2.2)
  replace HX := Lib.hid (HX.out.touchd ht_ hn_.1); replace HX1 := Lib.hid (HX1.out.touchd ht_ hn_.2.1); replace HX2 := Lib.hid (HX2.out.touchd ht_ hn_.2.2)
  replace HB := Lib.hid (below_touch HB.out ht_ HGB2.out)
  clear ht_ hm_ hn_
  try clear w_
  rename World => w_
  go_wp2_with (first | (with_reducible refine wpl_loadb (o := ⟨some 38, _, _, _, _, _⟩) rfl rfl row_tx HX.out.blk rfl HX.out.len ?_))
  have HP1 := Lib.hid (pay_any 1 0 w_ (fun w' ht => HTA.out w' (HX1.out.touchd ht (HNC.out _ _ _ HC.out HX.out HX1.out HX2.out).2.1) (HX2.out.touchd ht (HNC.out _ _ _ HC.out HX.out HX1.out HX2.out).2.2)) (HTT.out _ HB.out) HC.out rel22 HK.out relK22)
  rw [in22a, pay22a] at HP1
  refine HP1.out.mono ?_
  rintro e w2_ ⟨rfl, ⟨L', s', hc_, hr_⟩, ht_⟩
  have hn_ := HNC.out _ _ _ HC.out HX.out HX1.out HX2.out
  replace HC := Lib.hid hc_
  have HR := Lib.hid hr_
  replace HK := Lib.hid (HK.out.touchd ht_ HNE.out.1 HNE.out.2.1)
  replace HX := Lib.hid (HX.out.touchd ht_ hn_.1); replace HX1 := Lib.hid (HX1.out.touchd ht_ hn_.2.1); replace HX2 := Lib.hid (HX2.out.touchd ht_ hn_.2.2)
  replace HB := Lib.hid (below_touch HB.out ht_ HGB1.out)
  clear ht_ hc_ hr_ hn_ HP1
  try clear w_
  rename World => w_
  go_wp2_with (first | (with_reducible refine wpl_stop (o := ⟨some 44, _, _, _, _, _⟩) ?_))
  refine stop_go ?_
  refine wpl_build rfl rfl T3.out ?_
  go_wp2_with fail
  refine (HFA.out w_ g2 b2 HK.out).mono ?_
  rintro e w2_ ⟨rfl, ⟨K', s2', hk_, hr_⟩, ht_⟩
  have hn_ := HNK.out _ _ _ HK.out HX.out HX1.out HX2.out
  replace HK := Lib.hid hk_
  have HRK := Lib.hid hr_
  replace HC := Lib.hid (HC.out.touchd ht_ HNE.out.2.2.1 HNE.out.2.2.2)
  replace HX := Lib.hid (HX.out.touchd ht_ hn_.1); replace HX1 := Lib.hid (HX1.out.touchd ht_ hn_.2.1); replace HX2 := Lib.hid (HX2.out.touchd ht_ hn_.2.2)
  replace HB := Lib.hid (below_touch HB.out ht_ HGB2.out)
  clear ht_ hk_ hr_ hn_
  try clear w_
  rename World => w_
  generalize freeR [(p22, (cn 5, idx 1))] (idx 1) = fq
  go_wp2_with (first | (with_reducible refine wpl_loadb (o := ⟨some 48, _, _, _, _, _⟩) rfl rfl row_tx HX.out.blk rfl HX.out.len ?_))
  have HP1 := Lib.hid (pay_any 1 0 w_ (fun w' ht => HTA.out w' (HX1.out.touchd ht (HNC.out _ _ _ HC.out HX.out HX1.out HX2.out).2.1) (HX2.out.touchd ht (HNC.out _ _ _ HC.out HX.out HX1.out HX2.out).2.2)) (HTT.out _ HB.out) HC.out HR.out HK.out HRK.out)
  rw [in22b, pay22] at HP1
  refine HP1.out.mono ?_
  rintro e w2_ ⟨rfl, ⟨L2, s3, hc_, hr_⟩, ht_⟩
  have hl2 := hr_.nilL
  subst hl2
  have HCL := Lib.hid (clen_any g b [] s3 w2_ hc_)
  replace HB := Lib.hid (below_touch HB.out ht_ HGB1.out)
  clear ht_ hc_ hr_ HP1 HC HK HX HX1 HX2 HR HRK
  try clear w_
  rename World => w_
  go_wp2_with fail
  refine HCL.out.mono ?_
  rintro e w2_ ⟨rfl, rfl⟩
  go_wp2_with fail
  go_ret
  exact ⟨rfl, HB.out⟩
end Go.Proofs.YtnnjjbkdjkjnpaaGreatDoor

/- The given card SpendBackCardSaid, out of the walk spendBack_walk: for every input the law returns true, and each argument reads as it did; the tables of package sha are tied to the program's text. No condition. -/
import Derived.Test.YtnnjjbkdjkjnpaaGreatDoorSpendBackRd36
import Derived.ShutString
import Derived.ChangeOld
set_option linter.unusedSimpArgs false
set_option linter.unusedVariables false
set_option maxRecDepth 100000
set_option maxHeartbeats 16000000
namespace Go.Proofs.YtnnjjbkdjkjnpaaGreatDoor
open Go.RowKit Go.Shelf
theorem spendBack_walk (A : Option Addr) (n c : Nat) (l : List HeldV) (A1 : Option Addr) (n1 c1 : Nat) (A2 : Option Addr) (n2 c2 : Nat) (li : List (Value × Inp)) (os : List Outp) (fee ex : Int) (z me : Int) (w : World) (hh : HeldsAt w A n l) (hn : n ≤ 9223372036854775807) (hi : InsAt w A1 n1 c1 li) (ho : OutsAt w A2 n2 c2 os) (hf : U64 fee) (hx : I64 ex) (hm : c1 ≤ maxLen) (hm2 : c2 ≤ maxLen) (wz : (Lit.int .u8 z).wf = true) (wm : (Lit.int .i64 me).wf = true) (ht : Tabs w) :
  Calls Tryz.prog 5 #[.slice A n c, .agg (txV A1 n1 c1 A2 n2 c2 fee ex).toArray, .int .u8 z, .int .i64 me] w fun e w' => e = .returned (.bool true) ∧ Below w.heap.size w w' := by
 have HGR := kp (fun w' (k : Grow w w') => rtgreat_any w' (hi.grow k) ho.2.2.1 (A := A1) (c := c1) (A2 := A2) (c2 := c2) (fee := fee) (ex := ex) (by have := hi.2.2.2; unfold maxLen at hm; omega) (by have := ho.2.2.2; unfold maxLen at hm2; omega))
 have HAW := kp (fun w' (k : Grow w w') => awake22_any w' (ht.grow k))
 have HTX := kp (fun hg => great_tx hi ho hf hx hg)
 have HTT := kp (fun w' (k : Grow w w') => ht.grow k)
 have HTC := kp (txV_cl (A := A1) (n := n1) (c := c1) (A2 := A2) (n2 := n2) (c2 := c2) (fee := fee) (ex := ex))
 have HH := kp hh
 obtain ⟨t, htt⟩ : ∃ t : Txn, t = ⟨li.map Prod.snd, os, fee, ex⟩ := ⟨_, rfl⟩
 rw [← htt] at HGR HTX
 obtain ⟨tv, htv⟩ : ∃ q, q = txV A1 n1 c1 A2 n2 c2 fee ex := ⟨_, rfl⟩
 rw [← htv] at HGR HTX HTC ⊢
 obtain ⟨gt, hgt⟩ : ∃ q, q = greatT t := ⟨_, rfl⟩
 rw [← hgt] at HGR HTX
 have b1 := bounds_u8 wz
 have e1 : z.tmod 64 = z % 64 := Int.tmod_eq_emod_of_nonneg b1.1
 obtain ⟨md, hmd⟩ : ∃ q, q = z % 64 := ⟨_, rfl⟩
 have hmd1 : 0 ≤ md ∧ md ≤ 63 := by omega
 rw [← hmd] at e1
 obtain ⟨w_, hw⟩ : ∃ x, x = w := ⟨_, rfl⟩
 have HB := kp (show Below w.heap.size w w_ by rw [hw]; exact Below.refl _ _)
 suffices H : Calls Tryz.prog 5 #[.slice A n c, .agg tv.toArray, .int .u8 z, .int .i64 me] w_ (fun e w' => e = .returned (.bool true) ∧ Below w.heap.size w w') by rw [hw] at H; exact H
 clear hw hh hi ho hf hx hm hm2 wz wm ht htt htv hgt hmd
 go_enter Tryz.func5, Tryz.ntmps5
 go_wp2_with (first | (with_reducible refine wpl_box (o := ⟨some 5, _, _, _, _, _⟩) rfl rfl rfl ?_))
 intro w2_ hb2_ hb_ hsz2_
 have HX_ := kp (at_mk hb2_ HTC.out.len)
 clear hb2_ hsz2_
 have HG_ := kp HB.out.size
 replace HB := kp (HB.out.grow' hb_)
 generalize hg_ : w_.heap.size = g5 at HX_ HG_ ⊢
 clear hg_
 have HX_g := HG_
 clear HG_
 have HX := HX_
 clear hb_ HX_
 try clear w_
 rename World => w_
 by_cases h30 : 30 < n
 ·have h31 : (30 : Int) < (n : Int) := by omega
  go_wp2_with fail
  refine (HAW.out _ HB.out).mono ?_
  rintro e w_ ⟨rfl, hb_⟩
  replace HB := kp (HB.out.grow' hb_)
  replace HX := kp (HX.out.grow hb_)
  clear hb_
  go_wp2_with fail
  go_ret
  exact ⟨rfl, HB.out⟩
 have h31 : ¬ ((30 : Int) < (n : Int)) := by omega
 go_wp2_with (first | (with_reducible refine wlb 25 row_tx HX.out.blk HX.out.len ?_) | (with_reducible refine wpl_loadw (o := ⟨some 25, _, _, _, _, _⟩) (by first | rfl | (go_simp; done) | fail) rfl row_tx HX.out.blk rfl HX.out.len ?_))
 refine (HGR.out _ HB.out).mono ?_
 rintro e w_ ⟨rfl, hb_⟩
 replace HB := kp (HB.out.grow' hb_)
 replace HX := kp (HX.out.grow hb_)
 clear hb_
 cases gt with
 | true =>
  go_wp2_with fail
  refine (HAW.out _ HB.out).mono ?_
  rintro e w_ ⟨rfl, hb_⟩
  replace HB := kp (HB.out.grow' hb_)
  replace HX := kp (HX.out.grow hb_)
  clear hb_
  go_wp2_with fail
  go_ret
  exact ⟨rfl, HB.out⟩
 | false =>
  have HT := kp (HTX.out rfl)
  clear HTX HGR
  have HGC0 := kp (sttC_good l HH.out.2.2 [] GoodC.nil)
  have HGC := kp (show GoodC (sttC l) from HGC0.out)
  clear HGC0
  have HST := kp (fun w' (k : Grow w w') => state_any (c := c) (c2 := 0) w' (HH.out.grow k) (HeldsAt.nil w') (by omega) (by omega))
  rw [show sttK [] = [] from rfl] at HST
  obtain ⟨X, hX⟩ : ∃ q, q = sttC l := ⟨_, rfl⟩
  rw [← hX] at HGC HST
  clear hX
  have q64 : 1 + md ≤ 64 := by omega
  go_wp2_with fail
  refine (HST.out _ HB.out).mono ?_
  rintro e w2_ ⟨A3, n3, c3, A4, n4, c4, rfl, hr3, hr4, hb_⟩
  have HR3 := kp hr3; have HR4 := kp hr4
  replace HX := kp (HX.out.grow hb_); replace HB := kp (HB.out.grow' hb_)
  clear hr3 hr4 hb_ HST
  try clear w_
  rename World => w_
  have HMD := kp (fun w' (h1 : RowC w' A3 n3 X) (h2 : RowK w' A4 n4 []) => made_any (c := c3) (c2 := c4) w' HGC.out GoodK.nil h1 h2)
  have HIS := kp (fun w' g b L s g2 b2 K s2 (h1 : RowC w' A3 n3 X) (h2 : RowK w' A4 n4 []) (hc : CoinsAt w' g b L s) (hr : RelC X L s) (hk : LocksAt w' g2 b2 K s2) (hrk : RelK [] K s2) => is22_any (c := c3) (c2 := c4) w' hc hr hk hrk h1 h2)
  have HSC := kp (stV_cl (A := A3) (n := n3) (c := c3) (A2 := A4) (n2 := n4) (c2 := c4))
  obtain ⟨sv, hsv⟩ : ∃ q, q = stV A3 n3 c3 A4 n4 c4 := ⟨_, rfl⟩
  rw [← hsv] at HMD HIS HSC ⊢
  clear hsv
  go_wp2_with (first | (with_reducible refine wpl_alloc (o := ⟨some 10, _, _, _, _, _⟩) rfl rfl zero_state ?_))
  intro w1_ hb1_ hbw1_ hsz1_
  have HB1_ := kp (at_mk hb1_ len_state)
  have HBW1_ := kp hbw1_
  have HZ1_ := kp hsz1_
  clear hb1_ hbw1_ hsz1_
  go_wp2_with (with_reducible refine wsb row_state HB1_.out.blk HB1_.out.len HSC.out.len HSC.out.one ?_)
  intro w2_ hb2_ hg2_ hsz2_
  have hb_ := var_grow HBW1_.out HZ1_.out hg2_
  have HX_ := kp (at_mk hb2_ HSC.out.len)
  clear hb2_ hg2_ hsz2_ HB1_ HBW1_ HZ1_
  replace HB := kp (HB.out.grow' hb_)
  replace HX := kp (HX.out.grow hb_)
  replace HR3 := kp (HR3.out.grow hb_)
  replace HR4 := kp (HR4.out.grow hb_)
  generalize hg_ : w_.heap.size = gS at HX_ ⊢
  clear hg_
  have HS := HX_
  clear hb_ HX_
  clear w1_
  try clear w_
  rename World => w_
  obtain ⟨ws, hws⟩ : ∃ q, q = w_ := ⟨_, rfl⟩
  rw [← hws] at HB HR3 HR4
  have HGW := kp (fun w' (k : Below ws.heap.size ws w') => show Grow w w' from below_chain HB.out k)
  clear HB
  have HB := kp (show Below ws.heap.size ws w_ by rw [hws]; exact Below.refl _ _)
  clear hws
  go_wp2_with (with_reducible refine wlb 37 row_state HS.out.blk HS.out.len ?_)
  refine (HMD.out w_ (HR3.out.grow HB.out) (HR4.out.grow HB.out)).mono ?_
  rintro e w2_ ⟨g, b, g2, b2, rfl, hc_, hk_, hgb_, hne_, hb_⟩
  have HC := kp hc_; have HK := kp hk_; have HNE := kp hne_
  have HGB := kp (show ∀ x ∈ [g, b, g2, b2], ws.heap.size ≤ x from fun x hx => by have := HB.out.size; simp only [List.mem_cons, List.not_mem_nil, or_false] at hx; rcases hx with rfl | rfl | rfl | rfl <;> omega)
  replace HX := kp (HX.out.grow hb_); replace HS := kp (HS.out.grow hb_); replace HB := kp (HB.out.grow' hb_)
  clear hc_ hk_ hgb_ hne_ hb_ HMD
  try clear w_
  rename World => w_
  have HRX := kp HGC.out.self
  go_wp2_with fail
  refine (csum_any g b X (amtC X) w_ HC.out).mono ?_
  rintro e w9_ ⟨rfl, rfl⟩
  go_wp2_with (with_reducible refine wlb 46 row_tx HX.out.blk HX.out.len ?_)
  refine (lock_any (1 + md) me _ (TxKeep.of HT.out (HGW.out _ HB.out) (fun x hx => Nat.le_trans (HGW.out _ (Below.refl _ _)).size (HGB.out x hx))) (HTT.out _ (HGW.out _ HB.out)) HC.out HRX.out HK.out RelK.nil HNE.out).mono ?_
  rintro e w2_ ⟨rfl, ⟨L1, s1, hc_, hr_⟩, ⟨K1, s2, hk_, hrk_⟩, ht_⟩
  have HNX := kp (show g5 ∉ [g, b, g2, b2] from fun h => by
   have h1 := HX.out.ne_coins HC.out (by decide); have h2 := HX.out.ne_locks HK.out (by decide)
   simp only [List.mem_cons, List.not_mem_nil, or_false, not_or] at h h1 h2
   rcases h with h | h | h | h
   ·exact h1.1 h
   ·exact h1.2 h
   ·exact h2.1 h
   ·exact h2.2 h)
  have HNS := kp (show gS ∉ [g, b, g2, b2] from fun h => by
   have h1 := HS.out.ne_coins HC.out (by decide); have h2 := HS.out.ne_locks HK.out (by decide)
   simp only [List.mem_cons, List.not_mem_nil, or_false, not_or] at h h1 h2
   rcases h with h | h | h | h
   ·exact h1.1 h
   ·exact h1.2 h
   ·exact h2.1 h
   ·exact h2.2 h)
  have HC1 := kp hc_; have HR1 := kp hr_; have HK1 := kp hk_; have HRK1 := kp hrk_
  replace HX := kp (HX.out.touchd ht_ HNX.out); replace HS := kp (HS.out.touchd ht_ HNS.out)
  replace HB := kp (below_touch HB.out ht_ HGB.out)
  clear hc_ hr_ hk_ hrk_ ht_ HC HK
  try clear w_
  rename World => w_
  have HLB := kp (fun h => lock_back HGC.out (t := t) (n := 1 + md) (me := me) h)
  have HLS := kp (fun h => lock_same (X := X) (Y := []) (t := t) (n := 1 + md) (me := me) h)
  obtain ⟨LR, hLR⟩ : ∃ q, q = lockR X [] t (1 + md) me := ⟨_, rfl⟩
  rw [← hLR] at HR1 HRK1 HLB HLS ⊢
  clear hLR
  obtain ⟨⟨X1, Y1⟩, ra, rb⟩ := LR
  by_cases h0 : rb = 0
  case neg =>
   have hxy := HLS.out h0
   have HR1' := kp (show RelC X L1 s1 by have h := HR1.out; have e : X1 = X := congrArg Prod.fst hxy; rw [← e]; exact h)
   have HRK1' := kp (show RelK [] K1 s2 by have h := HRK1.out; have e : Y1 = [] := congrArg Prod.snd hxy; rw [← e]; exact h)
   clear HR1 HRK1 hxy
   have z1 : (rb != 0) = true := by simpa using h0
   go_wp2_with (with_reducible refine wlb 58 row_state HS.out.blk HS.out.len ?_)
   refine (HIS.out w_ g b L1 s1 g2 b2 K1 s2 (HR3.out.grow HB.out) (HR4.out.grow HB.out) HC1.out HR1'.out HK1.out HRK1'.out).mono ?_
   rintro e w_ ⟨rfl, hb_⟩
   replace HB := kp (HB.out.grow' hb_)
   replace HX := kp (HX.out.grow hb_)
   clear hb_
   go_wp2_with fail
   refine (HAW.out _ (HGW.out _ HB.out)).mono ?_
   rintro e w_ ⟨rfl, hb_⟩
   replace HB := kp (HB.out.grow' hb_)
   replace HX := kp (HX.out.grow hb_)
   clear hb_
   go_wp2_with fail
   go_ret
   exact ⟨rfl, HGW.out _ HB.out⟩
  case pos =>
   obtain ⟨k0, k1, k2, k3, k4, k5, k6, k7⟩ := HLB.out h0
   change amtK Y1 = ra at k1
   change amtC X1 = amtC X - ra at k2
   change (ofK Y1 (tidB t)).length = Y1.length at k3
   change (inputsR X1 Y1 t (1 + md) me).2 = 14 at k4
   change (backR X1 Y1 (tidB t)).2 = (ra, 0) at k5
   change X.Perm (backR X1 Y1 (tidB t)).1.1 at k6
   change (backR X1 Y1 (tidB t)).1.2 = [] at k7
   have HK0 := kp k0; have HK4 := kp k4; have HK5 := kp k5; have HK6 := kp k6; have HK7 := kp k7
   have HS2 := kp (show s2 = ra by rw [← HRK1.out.amt, k1])
   have HS1 := kp (show s1 = IntKind.u64.wrap (amtC X - ra) by
    have h1 := HR1.out.amt; have h2 := HR1.out.nn; have h3 := HR1.out.max
    rw [IntKind.wrap_u64]; rw [k2] at h1; omega)
   have HLN := kp (show ((K1.length : Nat) : Int) = ((ofK Y1 (tidB t)).length : Int) by rw [k3, HRK1.out.lenX])
   clear k0 k1 k2 k3 k4 k5 k6 k7 HLB HLS
   subst h0
   have z1 : ((0 : Int) != 0) = false := by decide
   have HZ := kp (tid_dig t)
   have HTL := kp (tid_len HK0.out)
   have HRI := kp (fun w' (k : Grow w w') => (HT.out.grow k).rid HK0.out (tid_dig t))
   have HOF := kp (fun w' (h' : LocksAt w' g2 b2 K1 s2) => kof_pts HRK1.out HTL.out w' h')
   have HBA := kp (fun w' (h1 : CoinsAt w' g b L1 s1) (h2 : LocksAt w' g2 b2 K1 s2) => sback_any HTL.out w' h1 HR1.out h2 HRK1.out HNE.out)
   rw [HK7.out] at HBA
   obtain ⟨zs, hzs⟩ : ∃ q, q = (tidB t).map B := ⟨_, rfl⟩
   rw [← hzs] at HZ HRI HOF HBA
   obtain ⟨po, hpo⟩ : ∃ q, q = ofK Y1 (tidB t) := ⟨_, rfl⟩
   rw [← hpo] at HOF HLN
   clear hzs hpo
   go_wp2_with (with_reducible refine wlb 63 row_tx HX.out.blk HX.out.len ?_)
   refine (HRI.out _ (HGW.out _ HB.out)).mono ?_
   rintro e w_ ⟨rfl, hb_⟩
   replace HB := kp (HB.out.grow' hb_)
   replace HX := kp (HX.out.grow hb_)
   replace HS := kp (HS.out.grow hb_)
   replace HC1 := kp (HC1.out.grow hb_)
   replace HK1 := kp (HK1.out.grow hb_)
   clear hb_
   go_wp2_with (first | (with_reducible refine wpl_alloc (o := ⟨some 16, _, _, _, _, _⟩) rfl rfl zero_id ?_))
   intro w1_ hb1_ hbw1_ hsz1_
   have HB1_ := kp (at_mk hb1_ len_id)
   have HBW1_ := kp hbw1_
   have HZ1_ := kp hsz1_
   clear hb1_ hbw1_ hsz1_
   go_wp2_with (with_reducible refine wsb row_id HB1_.out.blk HB1_.out.len HZ.out.len HZ.out.one ?_)
   intro w2_ hb2_ hg2_ hsz2_
   have hb_ := var_grow HBW1_.out HZ1_.out hg2_
   have HX_ := kp (at_mk hb2_ HZ.out.len)
   clear hb2_ hg2_ hsz2_ HB1_ HBW1_ HZ1_
   replace HB := kp (HB.out.grow' hb_)
   replace HX := kp (HX.out.grow hb_)
   replace HS := kp (HS.out.grow hb_)
   replace HC1 := kp (HC1.out.grow hb_)
   replace HK1 := kp (HK1.out.grow hb_)
   generalize hg_ : w_.heap.size = gI at HX_ ⊢
   clear hg_
   have HI := HX_
   clear hb_ HX_
   clear w1_
   try clear w_
   rename World => w_
   have z2 : (s2 != ra) = false := by rw [HS2.out]; simp
   have z3 : (s1 != IntKind.u64.wrap (amtC X - ra)) = false := by rw [HS1.out]; simp
   have z4 : (((K1.length : Nat) : Int) != ((po.length : Nat) : Int)) = false := by rw [HLN.out]; simp
   go_wp2_with fail
   try go_wp2_with fail
   repeat' (first | (with_reducible refine wp_plan (id := 13) Grow [0,3,0,0,0,0,3,0,0,0,0,0,0,0,4,0,1,3,0,0,0] (.get 0 (.get 2 (.act 1 (.get 3 (.get 4 (.get 5 (.get 7 (.get 8 (.get 9 (.act 6 (.get 10 (.get 11 (.get 12 (.get 13 (.get 15 (.get 16 (.act 14 (.act 17 (.get 18 (.get 19 (.get 20 .done))))))))))))))))))))) (by kernel_rfl) (by kernel_rfl) Grow.refl Grow.trans ?_) | go_values | go_skip | go_guarded | go_step | go_upon | go_back)
   intro w_ hd_
   have hb_ := hd_.grow
   replace HB := kp (HB.out.grow' hb_)
   replace HX := kp (HX.out.grow hb_)
   replace HS := kp (HS.out.grow hb_)
   replace HC1 := kp (HC1.out.grow hb_)
   replace HK1 := kp (HK1.out.grow hb_)
   replace HI := kp (HI.out.grow hb_)
   clear hb_ hd_
   repeat ((first | refine plc (fun K hK => ?_) | refine pl_skip rfl (by first | (go_simp; done) | rfl) (fun K hK => ?_) | refine pl_skipa rfl (by first | (go_simp; done) | rfl) (fun K hK => ?_)); go_simp; refine hK _ _ ?_; clear hK K)
   refine pl_act rfl (by first | exact wanted_none rfl | (go_simp; done) | rfl) (fun K hK => ?_)
   go_wp2_with fail
   refine (ksum_any g2 b2 K1 s2 w_ HK1.out).mono ?_
   rintro e w9_ ⟨rfl, rfl⟩
   go_wp2_with fail
   refine hK _ _ (fun h => by cases h) ?_
   clear hK K
   repeat ((first | refine plc (fun K hK => ?_) | refine pl_skip rfl (by first | (go_simp; done) | rfl) (fun K hK => ?_) | refine pl_skipa rfl (by first | (go_simp; done) | rfl) (fun K hK => ?_)); go_simp; refine hK _ _ ?_; clear hK K)
   refine pl_act rfl (by first | exact wanted_none rfl | (go_simp; done) | rfl) (fun K hK => ?_)
   go_wp2_with fail
   refine (csum_any g b L1 s1 _ HC1.out).mono ?_
   rintro e w9_ ⟨rfl, rfl⟩
   go_wp2_with fail
   refine hK _ _ (fun h => by cases h) ?_
   clear hK K
   repeat (first | (refine pl_loadb rfl rfl (by first | exact wanted_none rfl | (go_simp; done) | rfl) rfl row_id HI.out.blk (by first | rfl | (go_simp; done) | rfl) HI.out.len (fun K hK => ?_); go_simp; refine hK _ _ ?_; clear hK K) | (refine pl_loadbnow rfl rfl (by first | exact wanted_none rfl | (go_simp; done) | rfl) rfl row_id HI.out.blk (by first | rfl | (go_simp; done) | rfl) HI.out.len (fun K hK => ?_); go_simp; refine hK _ _ ?_; clear hK K) | (refine pl_calm rfl rfl (by first | exact wanted_none rfl | (go_simp; done) | rfl) (fun w_ => by first | (go_simp; rfl) | (go_simp; done) | rfl) (fun K hK => ?_); go_simp; refine hK _ _ ?_; clear hK K) | (refine pl_skip rfl (by first | (go_simp; done) | rfl) (fun K hK => ?_); go_simp; refine hK _ _ ?_; clear hK K) | (refine pl_skipa rfl (by first | (go_simp; done) | rfl) (fun K hK => ?_); go_simp; refine hK _ _ ?_; clear hK K))
   refine pl_act rfl (by first | exact wanted_none rfl | (go_simp; done) | rfl) (fun K hK => ?_)
   go_wp2_with fail
   refine (klen_any g2 b2 K1 s2 _ HK1.out).mono ?_
   rintro e w9_ ⟨rfl, rfl⟩
   go_wp2_with fail
   refine hK _ _ (fun _ => Grow.refl _) ?_
   clear hK K
   repeat ((first | refine plc (fun K hK => ?_) | refine pl_skip rfl (by first | (go_simp; done) | rfl) (fun K hK => ?_) | refine pl_skipa rfl (by first | (go_simp; done) | rfl) (fun K hK => ?_)); go_simp; refine hK _ _ ?_; clear hK K)
   refine pl_act rfl (by first | exact wanted_none rfl | (go_simp; done) | rfl) (fun K hK => ?_)
   go_wp2_with fail
   refine (HOF.out _ HK1.out).mono ?_
   rintro e w2_ ⟨A9, c9, rfl, -, hb_⟩
   go_wp2_with fail
   refine hK _ _ (fun h => by first | exact hb_ | cases h) ?_
   clear hK K
   replace HX := kp (HX.out.grow hb_); replace HS := kp (HS.out.grow hb_); replace HI := kp (HI.out.grow hb_); replace HC1 := kp (HC1.out.grow hb_); replace HK1 := kp (HK1.out.grow hb_); replace HB := kp (HB.out.grow' hb_)
   clear hb_ HOF
   try clear w_
   rename World => w_
   repeat ((first | refine plc (fun K hK => ?_) | refine pl_skip rfl (by first | (go_simp; done) | rfl) (fun K hK => ?_) | refine pl_skipa rfl (by first | (go_simp; done) | rfl) (fun K hK => ?_)); go_simp; refine hK _ _ ?_; clear hK K)
   refine pl_done ?_
   go_wp2_with (with_reducible refine wlb 87 row_tx HX.out.blk HX.out.len ?_)
   have HIP := kp (inputs_any (1 + md) me w_ (HT.out.grow (HGW.out _ HB.out)) HC1.out HR1.out HK1.out HRK1.out (HTT.out _ (HGW.out _ HB.out)))
   rw [HK4.out] at HIP
   refine HIP.out.mono ?_
   clear HIP
   rintro e w_ ⟨rfl, hb_⟩
   replace HB := kp (HB.out.grow' hb_)
   replace HX := kp (HX.out.grow hb_)
   replace HS := kp (HS.out.grow hb_)
   replace HI := kp (HI.out.grow hb_)
   replace HC1 := kp (HC1.out.grow hb_)
   replace HK1 := kp (HK1.out.grow hb_)
   clear hb_
   generalize (inputsR X1 Y1 t (1 + md) me).1 = rq
   go_wp2_with (with_reducible refine wlb 96 row_id HI.out.blk HI.out.len ?_)
   refine (HBA.out w_ HC1.out HK1.out).mono ?_
   rintro e w2_ ⟨he_, ⟨b4, L4, s4, hc_, hr_, hbb_⟩, ⟨K4, s5, hk_, hrk_⟩, ht_⟩
   rw [HK5.out] at he_
   subst he_
   have HR4' := kp (hr_.other HK6.out HGC.out.self.sort)
   have HC4 := kp hc_; have HKK4 := kp hk_; have HRK4 := kp hrk_
   have HNS2 := kp (show gS ∉ [g, g2, b2] from fun h => HNS.out (by simp only [List.mem_cons, List.not_mem_nil, or_false] at h ⊢; rcases h with h | h | h <;> simp [h]))
   replace HS := kp (HS.out.touchd ht_ HNS2.out)
   replace HB := kp (below_touch HB.out ht_ (fun x hx => HGB.out x (by simp only [List.mem_cons, List.not_mem_nil, or_false] at hx ⊢; rcases hx with rfl | rfl | rfl <;> simp)))
   have HS4 := kp (show s4 = amtC X from by rw [← HR4'.out.amt])
   clear hc_ hr_ hbb_ hk_ hrk_ ht_ HX HI HC1 HK1 HBA HK5 HK6 HK7
   try clear w_
   rename World => w_
   have y1 : ((14 : Int) == 14) = true := by decide
   have y2 : ((0 : Int) == 0) = true := by decide
   have y3 : (ra == ra) = true := by simp
   have y4 : (s4 == amtC X) = true := by rw [HS4.out]; simp
   go_wp2_with fail
   refine (csum_any g b4 L4 s4 _ HC4.out).mono ?_
   rintro e w9_ ⟨rfl, rfl⟩
   go_wp2_with (first | (with_reducible refine wlb 122 row_state HS.out.blk HS.out.len ?_) | (with_reducible refine wpl_loadw (o := ⟨some 122, _, _, _, _, _⟩) (by first | rfl | (go_simp; done) | fail) rfl row_state HS.out.blk rfl HS.out.len ?_))
   refine (HIS.out _ g b4 L4 s4 g2 b2 K4 s5 (HR3.out.grow HB.out) (HR4.out.grow HB.out) HC4.out HR4'.out HKK4.out HRK4.out).mono ?_
   rintro e w2_ ⟨rfl, hb_⟩
   replace HB := kp (HB.out.grow' hb_)
   clear hb_ HS HC4 HKK4
   go_wp2_with fail
   refine (HAW.out _ (HGW.out _ HB.out)).mono ?_
   rintro e w3_ ⟨rfl, hb_⟩
   replace HB := kp (HB.out.grow' hb_)
   go_wp2_with fail
   go_ret
   exact ⟨rfl, HGW.out _ HB.out⟩
end Go.Proofs.YtnnjjbkdjkjnpaaGreatDoor
namespace Go.Proofs.YtnnjjbkdjkjnpaaGreatDoor.lawSpendBack
open Go.ChangeShapes Go.WideShapes Go.ChangeAt Go.RowKit
open Go.ChangeMaps (open_string shut_string)
theorem laidOut : laidOutB Tryz.prog = true := laid_out
theorem contract (H : Type) (enc : TypeId × Value → H) (W : World) (base : Nat) (args : Array Value) (ds gs : List (DataW H)) (before : List MemPlace)
  (hval0 : ∀ (j : Nat) t v, Tryz.f5.params[j]? = some t → args[j]? = some v → Value.okWide Tryz.prog W .any base t v)
  (hW : DataW.Whole enc Tryz.prog Tryz.f5.params.toList Rows.spendBackSpec.vars false W args.toList ds gs before) (hL : laidMetH Tryz.prog Rows.spendBackRow.laid W) :
  Calls Tryz.prog 5 args W fun e W' => ∃ v, e = .returned v ∧ Rows.spendBackSpec.post enc Tryz.prog Tryz.f5 false true false false W args v W' := by
 have hval : ∀ (j : Nat) t v, Tryz.f5.params[j]? = some t → args[j]? = some v → Value.okWide Tryz.prog W .any base t v := hval0
 have hW' := hW
 obtain ⟨p, q, hA0, hV, rfl, hfz, hnd⟩ := hW
 have hA : DataW.TrodAll enc Tryz.prog W 0 (fun _ => true) true Tryz.f5.params.toList args.toList ds p := hA0
 rw [Tryz.params5] at hA hval
 obtain ⟨v0, vs0, d0, ds0, p0, q0, hargs, rfl, rfl, h0, r0⟩ := trodAll_cons hA
 obtain ⟨v1, vs1, d1, ds1, p1, q1, rfl, rfl, rfl, h1, r1⟩ := trodAll_cons r0
 obtain ⟨v2, vs2, d2, ds2, p2, q2, rfl, rfl, rfl, h2, r2⟩ := trodAll_cons r1
 obtain ⟨v3, vs3, d3, ds3, p3, q3, rfl, rfl, rfl, h3, r3⟩ := trodAll_cons r2
 obtain ⟨rfl, rfl, rfl⟩ := trodAll_nil r3
 obtain rfl : args = #[v0, v1, v2, v3] := by cases args; simp_all
 obtain ⟨rfl, rfl⟩ := trodVars_none hV
 have k0 := h0
 have lt0 : ∀ x ∈ p0, x.block < W.heap.size := by obtain ⟨m, hm⟩ := k0; exact DataW.trod_lt m _ _ _ hm
 obtain ⟨x0_0, x0_1, x0_2, x0_3, rfl, f0_0, f0_1⟩ := open_held (hval 0 22 v0 rfl rfl) h0
 have k1 := h1
 have lt1 : ∀ x ∈ p1, x.block < W.heap.size := by obtain ⟨m, hm⟩ := k1; exact DataW.trod_lt m _ _ _ hm
 obtain ⟨x1_0, x1_1, x1_2, x1_3, x1_4, x1_5, x1_6, x1_7, x1_8, x1_9, rfl, f1_0, f1_1, f1_2, f1_3, f1_4, f1_5⟩ := open_tx (hval 1 27 v1 rfl rfl) h1
 have k2 := h2
 have lt2 : ∀ x ∈ p2, x.block < W.heap.size := by obtain ⟨m, hm⟩ := k2; exact DataW.trod_lt m _ _ _ hm
 obtain ⟨a2, rfl, rfl, rfl, w2⟩ := open_int Tryz.underlying5 (hval 2 5 v2 rfl rfl) h2
 have k3 := h3
 have lt3 : ∀ x ∈ p3, x.block < W.heap.size := by obtain ⟨m, hm⟩ := k3; exact DataW.trod_lt m _ _ _ hm
 obtain ⟨a3, rfl, rfl, rfl, w3⟩ := open_int Tryz.underlying3 (hval 3 3 v3 rfl rfl) h3
 have htabs : Tabs W := tabs_of hL
 clear hA0 hval0 hL
 refine (spendBack_walk x0_0 x0_1 x0_2 x0_3 x1_0 x1_1 x1_2 x1_3 x1_4 x1_5 x1_6 x1_7 x1_8 x1_9 a2 a3 W f0_0 f0_1 f1_0 f1_1 f1_2 f1_3 f1_4 f1_5 w2 w3 htabs).mono fun e W' ⟨he, bel⟩ => ?_
 subst he
 exact ⟨_, rfl, _, _, _, [], _, [], hW', trodAll_mk1 (shut_bool Tryz.underlying4 _), (trodAll_cons_mk (Below.trod laidOut (by kernel_rfl) (of_decide_eq_true (by kernel_rfl)) k0 bel lt0) (trodAll_cons_mk (Below.trod laidOut (by kernel_rfl) (of_decide_eq_true (by kernel_rfl)) k1 bel lt1) (trodAll_cons_mk (Below.trod laidOut (by kernel_rfl) (of_decide_eq_true (by kernel_rfl)) k2 bel lt2) (trodAll_cons_mk (Below.trod laidOut (by kernel_rfl) (of_decide_eq_true (by kernel_rfl)) k3 bel lt3) trodAll_mk0)))), rfl, bel.frame _, fun h => by cases h⟩
theorem laid_met (os : Os) : laidMet Tryz.prog Rows.spendBackRow.laid ((laidWorld os).forCall (fun _ _ => 0) ⟨#[], #[.slice none 0 0, .agg (txV none 0 0 none 0 0 0 0).toArray, .int .u8 0, .int .i64 0], []⟩).memory :=
 laidMet_of_run' 8 (by kernel_rfl) (by kernel_rfl)
theorem reads (os : Os) {H : Type} (enc : TypeId × Value → H) : ∃ ds places, DataW.whole enc Tryz.prog ((laidWorld os).forCall (fun _ _ => 0) ⟨#[], #[.slice none 0 0, .agg (txV none 0 0 none 0 0 0 0).toArray, .int .u8 0, .int .i64 0], []⟩).memory Tryz.f5.params.toList Rows.spendBackSpec.vars false #[.slice none 0 0, .agg (txV none 0 0 none 0 0 0 0).toArray, .int .u8 0, .int .i64 0].toList 8 = some (ds, [], places) := by
 obtain ⟨⟨ds, gs, pl⟩, h, e⟩ := Option.map_eq_some_iff.1 (show (DataW.whole enc Tryz.prog ((laidWorld os).forCall (fun _ _ => 0) ⟨#[], #[.slice none 0 0, .agg (txV none 0 0 none 0 0 0 0).toArray, .int .u8 0, .int .i64 0], []⟩).memory Tryz.f5.params.toList Rows.spendBackSpec.vars false #[.slice none 0 0, .agg (txV none 0 0 none 0 0 0 0).toArray, .int .u8 0, .int .i64 0].toList 8).map (fun x => x.2.1) = some [] by kernel_rfl)
 simp only at e
 subst e
 exact ⟨ds, pl, h⟩
theorem lifted (os : Os) (started : os.Started) (H : Type) (enc : TypeId × Value → H) (F : Stop.Interp) :
  ReturnsInHanded {} Tryz.checked os 5 .any ((OpenSpec.ofChange Rows.spendBackSpec).preRow enc Tryz.prog Tryz.f5 Rows.spendBackRow.domain false Rows.spendBackRow.laid) (((OpenSpec.ofChange Rows.spendBackSpec).at F).post enc Tryz.prog Tryz.f5 false true false false) := by
 obtain ⟨ds, places, hx⟩ := reads os enc
 refine returnsInHanded_of_row (C := Tryz.checked) (s := OpenSpec.ofChange Rows.spendBackSpec) own_knob started (by kernel_rfl) Tryz.func5
  (witness_row_at (enc := enc) (C := Tryz.checked) false (laidWorld os) #[.slice none 0 0, .agg (txV none 0 0 none 0 0 0 0).toArray, .int .u8 0, .int .i64 0] rfl (by kernel_rfl) (by kernel_rfl) (by kernel_rfl)
    (OpenSpec.preRow_of_cond 8 hx (by kernel_rfl) (fun k hk => by cases hk) (by kernel_rfl) (laid_met os))) ?_
 intro W base args ds gs before hval hW _ _ _ hL _ _
 exact contract H enc W base args ds gs before hval hW hL
theorem said : Rows.SpendBackSaid :=
 OpenClaim.holds_of_cond 5 Tryz.f5 rfl rfl rfl rfl rfl rfl rfl ⟨rfl, rfl, rfl, rfl, rfl⟩ rfl rfl rfl rfl rfl (by kernel_rfl) Tryz.func5 (by kernel_rfl)
  (of_decide_eq_true (by kernel_rfl)) (by unfold Func.isWrapper; first | (rw [if_pos (by decide +kernel)]; kernel_rfl) | (rw [if_neg (by decide +kernel)]; exact ⟨rfl, rfl⟩))
  (fun os started H enc _ F => by rw [OpenClaim.pre_eq_preRow]; exact lifted os started H enc F)
theorem plain (f : FuncId) (fn : Func) (hf : Tryz.pinned.checked.prog.funcNamed "seisin/seisinlaw22.SpendBack" = some f) (hfn : Tryz.pinned.checked.prog.funcs[f]? = some fn) :
  true = Tryz.pinned.checked.prog.looks [] ∧ ∀ (j : Nat) t, fn.params[j]? = some t → Tryz.pinned.checked.prog.wantsStandIn t = false := by
 obtain rfl : f = 5 := Option.some.inj ((show Tryz.prog.funcNamed "seisin/seisinlaw22.SpendBack" = some 5 by kernel_rfl).symm.trans hf) |>.symm
 obtain rfl : fn = Tryz.f5 := (Option.some.inj (Tryz.func5.symm.trans hfn)).symm
 refine ⟨by kernel_rfl, fun j t ht => ?_⟩
 rw [Tryz.params5] at ht
 have hm : t ∈ [22, 27, 5, 3] := by simpa using Array.mem_of_getElem? ht
 have hall : ([22, 27, 5, 3].all fun u => !Tryz.prog.wantsStandIn u) = true := by kernel_rfl
 exact (show Tryz.prog.wantsStandIn t = false by simpa using List.all_eq_true.1 hall t hm)
theorem proved : Rows.SpendBackCardSaid :=
 Claim7.holds_tied_plain_at .later [] _ _ _ _ said (fun _ h => by cases h) (by kernel_rfl) (fun _ h => by cases h) spendBack_row_tie rfl ⟨rfl, rfl⟩ (by kernel_rfl) rfl plain (by kernel_rfl)
#print axioms proved
end Go.Proofs.YtnnjjbkdjkjnpaaGreatDoor.lawSpendBack

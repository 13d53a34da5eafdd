/- The given card CertTurnedCardSaid, out of the walk certTurned_walk: for every input the law returns true, and each argument reads as it did; the tables of package sha are tied to the program's text. No condition. -/
import Derived.Test.YtphmefhnffoafaaGreatDoorCertTurnedU31
import Derived.Test.YtphmefhnffoafaaGreatDoorCertTurnedU32
import Derived.Test.YtphmefhnffoafaaGreatDoorCertTurnedU33
import Derived.Test.YtphmefhnffoafaaGreatDoorCertTurnedU5
import Derived.Test.YtphmefhnffoafaaGreatDoorCertTurnedU2
import Derived.ShutString
import Derived.ChangeOld
import Derived.Below
set_option linter.unusedSimpArgs false
namespace Go.Proofs.YtphmefhnffoafaaGreatDoor
open Go.RowKit Go.Shelf
set_option linter.unusedVariables false
theorem rightH_noT : rightH noHdr = false := rfl
theorem make_madeT {seed cmd : List UInt8} {N : Nat} {e : Ent} {i : Int} : mkOK seed N (leavesB cmd e i) e (nextB noHdr true (leavesB cmd e i) e.shard e.epoch) = (madeOK cmd e i && decide (e.shard < N)) := by
 cases h : madeOK cmd e i with
 | false =>
  have h1 : nextB noHdr true (leavesB cmd e i) e.shard e.epoch = noHdr := nextB_no h
  rw [h1]; unfold mkOK; rw [rightH_noT]; rfl
 | true =>
  have h1 : nextB noHdr true (leavesB cmd e i) e.shard e.epoch = nextH noHdr true (leavesB cmd e i) e.shard e.epoch := nextB_yes h
  obtain ⟨h2, h3⟩ := madeOK_ok h
  rw [h1, mk_first (o := e) h2 h3]; simp
theorem made_shard {cmd : List UInt8} {e : Ent} {i : Int} (h : madeOK cmd e i = true) : 0 ≤ e.shard ∧ e.shard ≤ 63 := by
 obtain ⟨h2, h3⟩ := madeOK_ok h
 have h4 := rightH_iff.1 h3
 have hsh : (nextH noHdr true (leavesB cmd e i) e.shard e.epoch).shard = e.shard := rfl
 rw [hsh] at h4
 omega
theorem made_right {seed cmd : List UInt8} {e : Ent} {i : Int} (h : madeOK cmd e i = true) : isC seed 64 (madeC seed cmd e i) = true := by
 have hs := made_shard h
 have h1 : nextB noHdr true (leavesB cmd e i) e.shard e.epoch = nextH noHdr true (leavesB cmd e i) e.shard e.epoch := nextB_yes h
 have h2 := make_madeT (seed := seed) (cmd := cmd) (N := 64) (e := e) (i := i)
 rw [h, show decide (e.shard < ((64 : Nat) : Int)) = true by simp; omega, Bool.and_true] at h2
 have h3 : mkC seed 64 (leavesB cmd e i) e (nextB noHdr true (leavesB cmd e i) e.shard e.epoch) = madeC seed cmd e i := by
  rw [h1]
  have hsh : (nextH noHdr true (leavesB cmd e i) e.shard e.epoch).shard = e.shard := rfl
  unfold mkC madeC
  rw [hsh, if_pos ⟨hs.1, by omega⟩]
 unfold mkOK at h2
 rw [h3] at h2
 simp only [Bool.and_eq_true] at h2
 exact h2.2
theorem made_long {seed cmd : List UInt8} {e : Ent} {i : Int} (he : e.ok) (h : madeOK cmd e i = true) : 100 ≤ (putCB (madeC seed cmd e i)).length := by
 have hk := madeC_ok (seed := seed) (cmd := cmd) (i := i) he
 have hr : rightH (madeC seed cmd e i).h = true := (madeOK_ok h).2
 have hf : hformB (madeC seed cmd e i).h = putHB (madeC seed cmd e i).h := by unfold hformB; rw [if_pos hr]
 have l1 : (putHB (madeC seed cmd e i).h).length ≥ 67 := by
  have a := hk.2.2.1.2.2.2.1; have b := hk.2.2.1.2.2.2.2
  unfold putHB
  simp only [List.length_append, numB_len, a, b]
  omega
 have l2 := hk.2.2.2
 unfold putCB
 rw [hf]
 simp only [List.length_append, numB_len, l2]
 omega
theorem madeC_path {seed cmd : List UInt8} {e : Ent} {i : Int} : (madeC seed cmd e i).path.length ≤ 3 := by
 have h1 := pathI_le (leavesB cmd e i) 1; have h2 := @leavesB_n cmd e i
 show (pathI (leavesB cmd e i) 1).length ≤ _
 omega
theorem putCB_leT {x : Cer} (hx : x.ok) (hp : x.path.length ≤ 40) : (putCB x).length ≤ 1000000 := by
 have l1 := eformB_le hx.1; have l2 := hformB_le hx.2.2.1; have l3 := hx.2.2.2
 have n1 := numB_le (n := (eformB x.e).length) (by omega); have n2 := numB_le (n := x.path.length) (by omega); have n3 := numB_le (n := (hformB x.h).length) (by omega)
 have f1 := flat_32 x.path hx.2.1
 unfold putCB
 simp only [List.length_append]
 omega
theorem shl_bT (s : Nat) (h : s < 8) : IntKind.u8.wrap ((1 : Int) * 2 ^ s) = b8 (1 <<< UInt8.ofNat s) := by
 have : s = 0 ∨ s = 1 ∨ s = 2 ∨ s = 3 ∨ s = 4 ∨ s = 5 ∨ s = 6 ∨ s = 7 := by omega
 rcases this with rfl | rfl | rfl | rfl | rfl | rfl | rfl | rfl <;> rfl
theorem own_frozenT {w : World} {base g n c : Nat} {e : TypeId} {sz : Nat} {xs : List Value} (h : w.ownsRow base e sz (.slice (some ⟨g, 0, none⟩) n c) n xs) (k : Nat) : w.frozen? ⟨g, k, none⟩ = false := by
 rcases h.2 with ⟨hv, _⟩ | ⟨g2, cap, cur, hv, hb, hg, _⟩
 ·cases hv
 ·cases hv; exact frozen_of_row w g k cur e hg
theorem Up.set {w0 w : World} {p : Addr} (h : Up w0 w) (hp : w0.heap.size ≤ p.block) (v : Value) : Up w0 (w.setCell p v) := Below.setCell h hp v
attribute [local go_sem high] xor_b
set_option maxRecDepth 100000 in
set_option maxHeartbeats 8000000 in
theorem certTurned_any (A : Option Addr) (n c : Nat) (seed : List UInt8) (A2 : Option Addr) (n2 c2 : Nat) (cmd : List UInt8) (x : Ent) (z : Int) (t : UInt8) (s : Nat) (w : World) (hs : Sl w w.heap.size 1 A n (seed.map B)) (hc : n ≤ c) (hs2 : Sl w w.heap.size 1 A2 n2 (cmd.map B)) (hc2 : n2 ≤ c2)
  (hx : x.ok) (hz : -9223372036854775808 ≤ z) (hz2 : z ≤ 9223372036854775807) (hts : b8 t % 8 = s) (hs8 : s < 8) (ht : Tabs w) :
  Calls Tryz.prog 3 #[.slice A n c, .slice A2 n2 c2, .agg (entV x).toArray, .int .i64 z, .int .u8 (b8 t)] w fun e w' => e = .returned (.bool true) ∧ Below w.heap.size w w' := by
 have HS := kp hs; have HS2 := kp hs2; have HT := kp ht
 have HB := kp (Below.refl w.heap.size w)
 have HDE := kp (ent_cl hx)
 by_cases h1 : n ≤ 60
 ·have g1 : decide (60 < (n : Int)) = false := by simp; omega
  by_cases h2 : n2 ≤ 60
  ·have g2 : decide (60 < (n2 : Int)) = false := by simp; omega
   obtain ⟨ok, hok⟩ : ∃ b, madeOK cmd x 5 = b := ⟨_, rfl⟩
   have HRM := kp (fun w hs hs2 ht => rmade_any (seed := seed) (A := A) (n := n) (c := c) (A2 := A2) (n2 := n2) (c2 := c2) (i := 5) hok (y := madeR seed cmd x 5) rfl w hs (by omega) hs2 hc2 (by omega) hx (by simp [U64]) ht)
   have HYC := kp (show ok = true → madeR seed cmd x 5 = madeC seed cmd x 5 from fun h => by unfold madeR; rw [if_pos (hok.trans h)])
   have HYO := kp (show (madeR seed cmd x 5).ok by unfold madeR; split; exact madeC_ok hx; exact noCer_ok)
   have HYR := kp (show ok = true → isC seed 64 (madeC seed cmd x 5) = true from fun h => made_right (hok.trans h))
   have HYL := kp (show ok = true → 100 ≤ (putCB (madeC seed cmd x 5)).length from fun h => made_long hx (hok.trans h))
   have HYU := kp (show (putCB (madeC seed cmd x 5)).length ≤ 1000000 from putCB_leT (madeC_ok hx) (by have := @madeC_path seed cmd x 5; omega))
   have HYP := kp (@madeC_path seed cmd x 5)
   obtain ⟨ev, hev⟩ : ∃ v, v = entV x := ⟨_, rfl⟩
   rw [← hev] at HDE HRM ⊢
   obtain ⟨y, hy⟩ : ∃ v, v = madeR seed cmd x 5 := ⟨_, rfl⟩
   rw [← hy] at HRM HYC HYO
   obtain ⟨yc, hyc⟩ : ∃ v, v = madeC seed cmd x 5 := ⟨_, rfl⟩
   rw [← hyc] at HYC HYR HYL HYU HYP
   have HTS := kp hts
   clear hev hy hyc hok hs hs2 ht hx hts
   go_enter Tryz.func3, Tryz.ntmps3
   go_wp2_with (first | (with_reducible refine wpl_box (o := ⟨some 7, _, _, _, _, _⟩) rfl rfl rfl ?_))
   intro w2_ hb2_ hb_ hsz2_
   have HX_ := kp (at_mk hb2_ HDE.out.len)
   clear hb2_ hsz2_
   replace HB := kp (HB.out.grow' hb_)
   replace HS := kp (HS.out.grow hb_)
   replace HS2 := kp (HS2.out.grow hb_)
   replace HT := kp (HT.out.grow hb_)
   have HE := HX_
   clear hb_ HX_
   try clear w_
   rename World => w_
   go_wp2_with fail
   refine (keys_yes _ n c 64 seed _ HS.out hc (by omega) (by omega) (by omega) HT.out).mono ?_
   rintro e w_ ⟨g, A1, c1, rfl, hr_, hb_⟩
   replace HB := kp (HB.out.grow' hb_)
   replace HE := kp (HE.out.grow hb_)
   replace HS := kp (HS.out.grow hb_)
   replace HS2 := kp (HS2.out.grow hb_)
   replace HT := kp (HT.out.grow hb_)
   clear hb_
   have HRA := kp hr_
   clear hr_
   go_wp2_with (first | (with_reducible refine wpl_loadb (o := ⟨_, .load _ _, _, _, _, _⟩) rfl rfl row_entry HE.out.blk rfl HE.out.len ?_) | (with_reducible refine wpl_loadw (o := ⟨_, .load _ _, _, _, _, _⟩) (by first | rfl | (go_simp; done) | fail) rfl row_entry HE.out.blk rfl HE.out.len ?_))
   refine (HRM.out _ HS.out HS2.out HT.out).mono ?_
   rintro e w2_ ⟨A3, n3, c3, rfl, hi3, hn3, hb_⟩
   have HI3 := kp hi3
   have HN3 := kp (show y.path.length = n3 from hi3.2.1)
   have HD3 := kp (cert_cl (v := .slice A3 n3 c3) rfl HYO.out)
   have PUT := kp (fun w hn hi => cputo_any (A2 := A3) (n2 := n3) (c2 := c3) w HYO.out hn hi)
   have IS1 := kp (fun g A c w hr hi ht hn => cis_any (seed := seed) (N := 64) (g := g) (A := A) (c := c) (A2 := A3) (n2 := n3) (c2 := c3) (x := y) rfl w hr (by omega) HYO.out hn hi ht)
   obtain ⟨yv, hyv⟩ : ∃ v, v = certV (.slice A3 n3 c3) y := ⟨_, rfl⟩
   rw [← hyv] at HD3 PUT IS1 ⊢
   clear hi3 hn3 hyv HRM
   have hb_ := hb_
   clear hb_
   replace HB := kp (HB.out.grow' hb_)
   replace HE := kp (HE.out.grow hb_)
   replace HS := kp (HS.out.grow hb_)
   replace HS2 := kp (HS2.out.grow hb_)
   replace HT := kp (HT.out.grow hb_)
   replace HRA := kp (HRA.out.grow hb_)
   clear hb_
   try clear w_
   rename World => w_
   go_wp2_with (first | (with_reducible refine wpl_alloc (o := ⟨some 12, _, _, _, _, _⟩) rfl rfl zero_cert ?_))
   intro w1_ hb1_ hbw1_ hsz1_
   have HB1_ := kp (at_mk hb1_ len_cert)
   have HBW1_ := kp hbw1_
   have HZ1_ := kp hsz1_
   clear hb1_ hbw1_ hsz1_
   go_wp2_with (first | (with_reducible refine wpl_storeb (o := ⟨none, .store _ _ _, _, _, _, _⟩) rfl rfl row_cert HB1_.out.blk rfl rfl HB1_.out.len HD3.out.len HD3.out.one ?_))
   intro w2_ hb2_ hg2_ hsz2_
   have hb_ := var_grow HBW1_.out HZ1_.out hg2_
   have HX_ := kp (at_mk hb2_ HD3.out.len)
   clear hb2_ hg2_ hsz2_ HB1_ HBW1_ HZ1_
   replace HB := kp (HB.out.grow' hb_)
   replace HS := kp (HS.out.grow hb_)
   replace HT := kp (HT.out.grow hb_)
   replace HRA := kp (HRA.out.grow hb_)
   replace HI3 := kp (HI3.out.grow hb_)
   generalize hg_ : w_.heap.size = g12 at HX_ ⊢
   clear hg_
   have HC := HX_
   clear hb_ HX_
   clear w1_
   try clear w_
   rename World => w_
   cases ok with
   | false =>
    go_wp2_with fail
    refine (awake11_any _ HT.out).mono ?_
    rintro e w_ ⟨rfl, hb_⟩
    replace HB := kp (HB.out.grow' hb_)
    clear hb_
    go_wp2_with fail
    go_ret
    exact ⟨rfl, HB.out⟩
   | true =>
    have e1 := HYC.out (by first | trivial | rfl)
    have r1 := HYR.out (by first | trivial | rfl)
    have l1 := HYL.out (by first | trivial | rfl)
    subst e1
    rw [r1] at IS1
    have HNK := kp (show n3 ≤ 1000 by rw [← HN3.out]; have := HYP.out; omega)
    clear r1 HYC HYR HYL
    go_wp2_with (first | (with_reducible refine wpl_loadb (o := ⟨_, .load _ _, _, _, _, _⟩) rfl rfl row_cert HC.out.blk rfl HC.out.len ?_) | (with_reducible refine wpl_loadw (o := ⟨_, .load _ _, _, _, _, _⟩) (by first | rfl | (go_simp; done) | fail) rfl row_cert HC.out.blk rfl HC.out.len ?_))
    refine (PUT.out _ HNK.out HI3.out).mono ?_
    rintro e w2_ ⟨A5, c5, rfl, ho5, hc5, hb_⟩
    obtain ⟨bs, hbs⟩ : ∃ q, q = putCB y := ⟨_, rfl⟩
    rw [← hbs] at ho5 hc5 l1 HYU ⊢
    obtain ⟨pl, hpl⟩ : ∃ q, q = bs.length := ⟨_, rfl⟩
    rw [← hpl] at ho5 hc5 l1 HYU ⊢
    have HO := kp ho5
    have HC5 := kp hc5
    have HPL := kp hpl
    have HU := kp (show Up w_ w2_ from hb_)
    have HBZ := kp HB.out.size
    obtain ⟨Z, hZ⟩ : ∃ q, q = w_.heap.size := ⟨_, rfl⟩
    rw [← hZ] at HO HBZ
    have HZ := kp hZ
    clear ho5 hc5 hbs hpl hZ PUT
    have hb_ := hb_
    clear hb_
    replace HB := kp (HB.out.grow' hb_)
    replace HC := kp (HC.out.grow hb_)
    clear hb_
    try clear w_
    rename World => w_
    go_wp2_with (first | (with_reducible refine wpl_loadb (o := ⟨_, .load _ _, _, _, _, _⟩) rfl rfl row_cert HC.out.blk rfl HC.out.len ?_) | (with_reducible refine wpl_loadw (o := ⟨_, .load _ _, _, _, _, _⟩) (by first | rfl | (go_simp; done) | fail) rfl row_cert HC.out.blk rfl HC.out.len ?_))
    refine (IS1.out _ _ _ _ (HRA.out.grow HU.out) (HI3.out.grow HU.out) (HT.out.grow HU.out) (by have := HNK.out; omega)).mono ?_
    rintro e w2_ ⟨rfl, hb_⟩
    clear IS1 HC
    have hb_ := hb_
    clear hb_
    replace HB := kp (HB.out.grow' hb_)
    replace HU := kp (HU.out.grow hb_)
    replace HO := kp (HO.out.grow hb_)
    clear hb_
    try clear w_
    rename World => w_
    have g3 : decide ((pl : Int) < 100) = false := by simp; omega
    have HP1 := HYU.out
    obtain ⟨k, hk⟩ : ∃ k : Nat, z % (pl : Int) = (k : Int) := ⟨(z % (pl : Int)).toNat, by have := Int.emod_nonneg z (show (pl : Int) ≠ 0 by omega); omega⟩
    have hkn : k < pl := by have := Int.emod_lt_of_pos z (show 0 < (pl : Int) by omega); omega
    have HK := kp hk
    clear hk
    go_wp2_with fail
    refine (pick_any z pl _ hz hz2 (by omega) (by omega)).mono ?_
    rintro e w2_ ⟨rfl, hw_⟩
    rw [hw_, HK.out]
    clear hw_ w2_ g3
    obtain ⟨xk, hxk⟩ : ∃ xk, bs[k]? = some xk := ⟨_, List.getElem?_eq_getElem (by rw [← HPL.out]; exact hkn)⟩
    have HX := kp hxk
    clear hxk
    obtain ⟨g9, rfl, hg9, hlt9, hn9⟩ := own_form HO.out (by omega)
    have HG9 := kp hg9
    have hkc : k ≤ c5 := by have := HC5.out; omega
    clear hg9 hlt9 hn9
    have ht8 : (IntKind.i64.wrap (b8 t)).tmod 8 = (s : Int) := by rw [IntWalk.i64_in _ (by have := b8_range t; omega)]; rw [Int.tmod_eq_emod_of_nonneg (b8_range t).1]; exact HTS.out
    have hsr : (s : Int) < 8 := by omega
    obtain ⟨yk, hyk⟩ : ∃ yk : UInt8, IntKind.u8.wrap ((2 : Int) ^ s) = b8 yk := ⟨_, by have := shl_bT s hs8; rw [Int.one_mul] at this; exact this⟩
    try go_wp2_with fail
    repeat' (first | (with_reducible refine wp_plan (id := 13) Grow [0,0,0,0,0,2,0,0,0,0,0,0,3] (.get 0 (.get 1 (.get 2 (.get 3 (.get 4 (.get 5 (.get 6 (.get 7 (.get 8 (.get 9 (.get 10 (.get 11 (.act 12 .done))))))))))))) (by kernel_rfl) (by kernel_rfl) Grow.refl Grow.trans ?_) | go_values | go_skip | go_guarded | go_step | go_upon | go_back)
    intro w_ hd_
    have hb_ := hd_.grow
    replace HB := kp (HB.out.grow' hb_)
    replace HU := kp (HU.out.grow hb_)
    replace HO := kp (HO.out.grow hb_)
    clear hb_ hd_
    have hcx : w_.cell? ⟨g9, k, none⟩ = some (.int .u8 (b8 xk)) := by
     have h := World.ownsRow.cellAt HO.out k (by omega)
     rw [h, List.getElem?_map, HX.out]; rfl
    have hfz : w_.frozen? ⟨g9, k, none⟩ = false := own_frozenT HO.out k
    repeat (first | (refine pl_calm rfl rfl (by first | exact wanted_none rfl | (go_simp; done) | rfl) (fun w_ => by first | (go_simp; rfl) | (go_simp; done) | rfl) (fun K hK => ?_); go_simp; refine hK _ _ ?_; clear hK K) | (refine pl_skip rfl (by first | (go_simp; done) | rfl) (fun K hK => ?_); go_simp; refine hK _ _ ?_; clear hK K) | (refine pl_skipa rfl (by first | (go_simp; done) | rfl) (fun K hK => ?_); go_simp; refine hK _ _ ?_; clear hK K) | (refine pl_load rfl rfl (by first | exact wanted_none rfl | (go_simp; done) | rfl) rfl (by first | rfl | (go_simp; rfl)) (by kernel_rfl) (by first | exact hcx) (fun K hK => ?_); go_simp; refine hK _ _ ?_; clear hK K) | (refine pl_loadnow rfl rfl (by first | exact wanted_none rfl | (go_simp; done) | rfl) rfl (by first | rfl | (go_simp; rfl)) (by kernel_rfl) (by first | exact hcx) (fun K hK => ?_); go_simp; refine hK _ _ ?_; clear hK K))
    refine pl_act rfl (by exact wanted_none rfl) (fun K hK => ?_)
    go_wp2_with fail
    refine hK _ _ (fun h => by cases h) ?_
    clear hK K hcx hfz hyk ht8 hsr
    obtain ⟨xb, hxb⟩ : ∃ xb, xb = bs.set k (xk ^^^ yk) := ⟨_, rfl⟩
    have HX9 := kp (show Sl (w_.setCell ⟨g9, k, none⟩ (.int .u8 (b8 (xk ^^^ yk)))) (w_.setCell ⟨g9, k, none⟩ (.int .u8 (b8 (xk ^^^ yk)))).heap.size 1 (some ⟨g9, 0, none⟩) pl (xb.map B) by
     have h := Sl.of_own (World.ownsRow.stored HO.out k (.int .u8 (b8 (xk ^^^ yk)))).1
     rw [hxb, List.map_set]; exact h)
    replace HB := kp (HB.out.setCell (p := ⟨g9, k, none⟩) (Nat.le_trans HBZ.out HG9.out) (.int .u8 (b8 (xk ^^^ yk))))
    replace HU := kp (HU.out.set (p := ⟨g9, k, none⟩) (by rw [← HZ.out]; exact HG9.out) (.int .u8 (b8 (xk ^^^ yk))))
    clear HO hxb
    generalize w_.setCell ⟨g9, k, none⟩ (.int .u8 (b8 (xk ^^^ yk))) = wa at HB HU HX9 ⊢
    clear w_
    rename World => w_
    refine pl_done ?_
    have RR1 := kp (fun w hs hc hn => rcread_any (A := some ⟨g9, 0, none⟩) (n := pl) (c := c5) (l := xb) w hs hc hn)
    have RR2 := kp (fun w hs hn => cread_any (A := some ⟨g9, 0, none⟩) (n := pl) (c := c5) (l := xb) w hs hn)
    have HOY := kp (cerOf_ok xb)
    obtain ⟨yy, hyy⟩ : ∃ q, q = cerOf (readC xb) := ⟨_, rfl⟩
    obtain ⟨gg, hgg⟩ : ∃ q, q = errOf (readC xb) := ⟨_, rfl⟩
    rw [← hyy, ← hgg] at RR1 RR2
    rw [← hyy] at HOY
    clear hyy hgg HX HK
    obtain ⟨is2, his2⟩ : ∃ b, isC seed 64 yy = b := ⟨_, rfl⟩
    have RIS := kp (fun A2 n2 c2 w hs hn2 hi => rcis_any (seed := seed) (A := A) (n := n) (c := c) (N := 64) (A2 := A2) (n2 := n2) (c2 := c2) (x := yy) his2 w hs (by omega) HOY.out hn2 hi)
    have IS2 := kp (fun g A c A2 n2 c2 w hr hi ht hn => cis_any (seed := seed) (N := 64) (g := g) (A := A) (c := c) (A2 := A2) (n2 := n2) (c2 := c2) (x := yy) his2 w hr (by omega) HOY.out hn hi ht)
    clear his2
    go_wp2_with fail
    refine (RR1.out _ HX9.out HC5.out HP1).mono ?_
    rintro e w2_ ⟨A6, n6, c6, rfl, hi6, hn6, hb_⟩
    have HI6 := kp hi6; have HN6 := kp (show n6 ≤ 1000000 by omega)
    have HD6 := kp (cert_cl (v := .slice A6 n6 c6) rfl HOY.out)
    have RISa := kp (fun w hs hn2 hi => RIS.out A6 n6 c6 w hs hn2 hi)
    rw [show ((64 : Nat) : Int) = 64 from rfl] at RISa
    obtain ⟨yv6, hyv6⟩ : ∃ v, v = certV (.slice A6 n6 c6) yy := ⟨_, rfl⟩
    rw [← hyv6] at HD6 RISa ⊢
    clear hi6 hn6 hyv6 RIS RR1
    have hb_ := hb_
    clear hb_
    replace HB := kp (HB.out.grow' hb_)
    replace HU := kp (HU.out.grow hb_)
    replace HX9 := kp (HX9.out.grow hb_)
    clear hb_
    try clear w_
    rename World => w_
    go_wp2_with (first | (with_reducible refine wpl_alloc (o := ⟨some 16, _, _, _, _, _⟩) rfl rfl zero_cert ?_))
    intro w1_ hb1_ hbw1_ hsz1_
    have HB1_ := kp (at_mk hb1_ len_cert)
    have HBW1_ := kp hbw1_
    have HZ1_ := kp hsz1_
    clear hb1_ hbw1_ hsz1_
    go_wp2_with (first | (with_reducible refine wpl_storeb (o := ⟨none, .store _ _ _, _, _, _, _⟩) rfl rfl row_cert HB1_.out.blk rfl rfl HB1_.out.len HD6.out.len HD6.out.one ?_))
    intro w2_ hb2_ hg2_ hsz2_
    have hb_ := var_grow HBW1_.out HZ1_.out hg2_
    have HX_ := kp (at_mk hb2_ HD6.out.len)
    clear hb2_ hg2_ hsz2_ HB1_ HBW1_ HZ1_
    replace HB := kp (HB.out.grow' hb_)
    replace HU := kp (HU.out.grow hb_)
    replace HX9 := kp (HX9.out.grow hb_)
    replace HI6 := kp (HI6.out.grow hb_)
    generalize hg_ : w_.heap.size = g16 at HX_ ⊢
    clear hg_
    have HY := HX_
    clear hb_ HX_
    clear w1_
    try clear w_
    rename World => w_
    by_cases hg0 : gg = 0
    ·subst hg0
     go_wp2_with (first | (with_reducible refine wpl_loadb (o := ⟨_, .load _ _, _, _, _, _⟩) rfl rfl row_cert HY.out.blk rfl HY.out.len ?_) | (with_reducible refine wpl_loadw (o := ⟨_, .load _ _, _, _, _, _⟩) (by first | rfl | (go_simp; done) | fail) rfl row_cert HY.out.blk rfl HY.out.len ?_))
     refine (RISa.out _ (HS.out.grow HU.out) HN6.out HI6.out).mono ?_
     rintro e w2_ ⟨rfl, hb_⟩
     clear RISa HY HI6
     have hb_ := hb_
     clear hb_
     replace HB := kp (HB.out.grow' hb_)
     replace HU := kp (HU.out.grow hb_)
     replace HX9 := kp (HX9.out.grow hb_)
     clear hb_
     try clear w_
     rename World => w_
     cases is2 with
     | true =>
      have HTn := kp (HT.out.grow HU.out)
      go_wp2_with fail
      refine (awake11_any _ HTn.out).mono ?_
      rintro e w_ ⟨rfl, hb_⟩
      replace HB := kp (HB.out.grow' hb_)
      clear hb_
      go_wp2_with fail
      go_ret
      exact ⟨rfl, HB.out⟩
     | false =>
      go_wp2_with fail
      refine (RR2.out _ HX9.out HP1).mono ?_
      rintro e w2_ ⟨A7, n7, c7, rfl, hi7, hn7, hb_⟩
      have HI7 := kp hi7; have HN7 := kp (show n7 ≤ 1000000 by omega)
      have HD7 := kp (cert_cl (v := .slice A7 n7 c7) rfl HOY.out)
      have IS7 := kp (fun w hr hi ht hn => IS2.out g A1 c1 A7 n7 c7 w hr hi ht hn)
      obtain ⟨yv7, hyv7⟩ : ∃ v, v = certV (.slice A7 n7 c7) yy := ⟨_, rfl⟩
      rw [← hyv7] at HD7 IS7 ⊢
      clear hi7 hn7 hyv7 IS2 RR2
      have hb_ := hb_
      clear hb_
      replace HB := kp (HB.out.grow' hb_)
      replace HU := kp (HU.out.grow hb_)
      clear hb_
      try clear w_
      rename World => w_
      go_wp2_with (first | (with_reducible refine wpl_alloc (o := ⟨some 18, _, _, _, _, _⟩) rfl rfl zero_cert ?_))
      intro w1_ hb1_ hbw1_ hsz1_
      have HB1_ := kp (at_mk hb1_ len_cert)
      have HBW1_ := kp hbw1_
      have HZ1_ := kp hsz1_
      clear hb1_ hbw1_ hsz1_
      go_wp2_with (first | (with_reducible refine wpl_storeb (o := ⟨none, .store _ _ _, _, _, _, _⟩) rfl rfl row_cert HB1_.out.blk rfl rfl HB1_.out.len HD7.out.len HD7.out.one ?_))
      intro w2_ hb2_ hg2_ hsz2_
      have hb_ := var_grow HBW1_.out HZ1_.out hg2_
      have HX_ := kp (at_mk hb2_ HD7.out.len)
      clear hb2_ hg2_ hsz2_ HB1_ HBW1_ HZ1_
      replace HB := kp (HB.out.grow' hb_)
      replace HU := kp (HU.out.grow hb_)
      replace HI7 := kp (HI7.out.grow hb_)
      generalize hg_ : w_.heap.size = g18 at HX_ ⊢
      clear hg_
      have HW := HX_
      clear hb_ HX_
      clear w1_
      try clear w_
      rename World => w_
      go_wp2_with (first | (with_reducible refine wpl_loadb (o := ⟨_, .load _ _, _, _, _, _⟩) rfl rfl row_cert HW.out.blk rfl HW.out.len ?_) | (with_reducible refine wpl_loadw (o := ⟨_, .load _ _, _, _, _, _⟩) (by first | rfl | (go_simp; done) | fail) rfl row_cert HW.out.blk rfl HW.out.len ?_))
      refine (IS7.out _ (HRA.out.grow HU.out) HI7.out (HT.out.grow HU.out) HN7.out).mono ?_
      rintro e w2_ ⟨rfl, hb_⟩
      have hb_ := hb_
      clear hb_
      replace HB := kp (HB.out.grow' hb_)
      replace HU := kp (HU.out.grow hb_)
      clear hb_
      try clear w_
      rename World => w_
      have HTn := kp (HT.out.grow HU.out)
      go_wp2_with fail
      refine (awake11_any _ HTn.out).mono ?_
      rintro e w_ ⟨rfl, hb_⟩
      replace HB := kp (HB.out.grow' hb_)
      clear hb_
      go_wp2_with fail
      go_ret
      exact ⟨rfl, HB.out⟩
    ·have d0 : ((gg : Int) == 0) = false := by simp; omega
     have d1 : ((gg : Int) != 0) = true := by simp; omega
     clear RISa HY HI6
     go_wp2_with fail
     refine (RR2.out _ HX9.out HP1).mono ?_
     rintro e w2_ ⟨A7, n7, c7, rfl, hi7, hn7, hb_⟩
     have HD7 := kp (cert_cl (v := .slice A7 n7 c7) rfl HOY.out)
     obtain ⟨yv7, hyv7⟩ : ∃ v, v = certV (.slice A7 n7 c7) yy := ⟨_, rfl⟩
     rw [← hyv7] at HD7 ⊢
     clear hi7 hn7 hyv7 IS2 RR2
     have hb_ := hb_
     clear hb_
     replace HB := kp (HB.out.grow' hb_)
     replace HU := kp (HU.out.grow hb_)
     clear hb_
     try clear w_
     rename World => w_
     go_wp2_with (first | (with_reducible refine wpl_alloc (o := ⟨some 18, _, _, _, _, _⟩) rfl rfl zero_cert ?_))
     intro w1_ hb1_ hbw1_ hsz1_
     have HB1_ := kp (at_mk hb1_ len_cert)
     have HBW1_ := kp hbw1_
     have HZ1_ := kp hsz1_
     clear hb1_ hbw1_ hsz1_
     go_wp2_with (first | (with_reducible refine wpl_storeb (o := ⟨none, .store _ _ _, _, _, _, _⟩) rfl rfl row_cert HB1_.out.blk rfl rfl HB1_.out.len HD7.out.len HD7.out.one ?_))
     intro w2_ hb2_ hg2_ hsz2_
     have hb_ := var_grow HBW1_.out HZ1_.out hg2_
     have HX_ := kp (at_mk hb2_ HD7.out.len)
     clear hb2_ hg2_ hsz2_ HB1_ HBW1_ HZ1_
     replace HB := kp (HB.out.grow' hb_)
     replace HU := kp (HU.out.grow hb_)
     generalize hg_ : w_.heap.size = g18 at HX_ ⊢
     clear hg_
     have HW := HX_
     clear hb_ HX_
     clear w1_
     try clear w_
     rename World => w_
     have HTn := kp (HT.out.grow HU.out)
     go_wp2_with fail
     refine (awake11_any _ HTn.out).mono ?_
     rintro e w_ ⟨rfl, hb_⟩
     replace HB := kp (HB.out.grow' hb_)
     clear hb_
     go_wp2_with fail
     go_ret
     exact ⟨rfl, HB.out⟩
  ·have g2 : decide (60 < (n2 : Int)) = true := by simp; omega
   obtain ⟨ev, hev⟩ : ∃ v, v = entV x := ⟨_, rfl⟩
   rw [← hev] at HDE ⊢
   clear hev hs hs2 ht hx hts
   go_enter Tryz.func3, Tryz.ntmps3
   go_wp2_with (first | (with_reducible refine wpl_box (o := ⟨some 7, _, _, _, _, _⟩) rfl rfl rfl ?_))
   intro w2_ hb2_ hb_ hsz2_
   have HX_ := kp (at_mk hb2_ HDE.out.len)
   clear hb2_ hsz2_
   replace HB := kp (HB.out.grow' hb_)
   replace HT := kp (HT.out.grow hb_)
   have HE := HX_
   clear hb_ HX_
   try clear w_
   rename World => w_
   go_wp2_with fail
   refine (awake11_any _ HT.out).mono ?_
   rintro e w_ ⟨rfl, hb_⟩
   replace HB := kp (HB.out.grow' hb_)
   clear hb_
   go_wp2_with fail
   go_ret
   exact ⟨rfl, HB.out⟩
 ·have g1 : decide (60 < (n : Int)) = true := by simp; omega
  obtain ⟨ev, hev⟩ : ∃ v, v = entV x := ⟨_, rfl⟩
  rw [← hev] at HDE ⊢
  clear hev hs hs2 ht hx hts
  go_enter Tryz.func3, Tryz.ntmps3
  go_wp2_with (first | (with_reducible refine wpl_box (o := ⟨some 7, _, _, _, _, _⟩) rfl rfl rfl ?_))
  intro w2_ hb2_ hb_ hsz2_
  have HX_ := kp (at_mk hb2_ HDE.out.len)
  clear hb2_ hsz2_
  replace HB := kp (HB.out.grow' hb_)
  replace HT := kp (HT.out.grow hb_)
  have HE := HX_
  clear hb_ HX_
  try clear w_
  rename World => w_
  go_wp2_with fail
  refine (awake11_any _ HT.out).mono ?_
  rintro e w_ ⟨rfl, hb_⟩
  replace HB := kp (HB.out.grow' hb_)
  clear hb_
  go_wp2_with fail
  go_ret
  exact ⟨rfl, HB.out⟩
theorem certTurned_walk (A : Option Addr) (n c : Nat) (seed : List UInt8) (A2 : Option Addr) (n2 c2 : Nat) (cmd : List UInt8) (x : Ent) (z t : Int) (w : World) (hs : Sl w w.heap.size 1 A n (seed.map B)) (hc : n ≤ c) (hm : c ≤ maxLen) (hs2 : Sl w w.heap.size 1 A2 n2 (cmd.map B)) (hc2 : n2 ≤ c2) (hm2 : c2 ≤ maxLen)
  (hx : x.ok) (wz : (Lit.int .i64 z).wf = true) (wt : (Lit.int .u8 t).wf = true) (ht : Tabs w) :
  Calls Tryz.prog 3 #[.slice A n c, .slice A2 n2 c2, .agg (entV x).toArray, .int .i64 z, .int .u8 t] w fun e w' => e = .returned (.bool true) ∧ Below w.heap.size w w' := by
 have b1 := bounds_u8 wt
 have e1 : t = b8 (UInt8.ofNat t.toNat) := by simp only [b8, UInt8.toNat_ofNat']; omega
 rw [e1]
 have hr := b8_range (UInt8.ofNat t.toNat)
 exact certTurned_any A n c seed A2 n2 c2 cmd x z _ (b8 (UInt8.ofNat t.toNat) % 8).toNat w hs hc hs2 hc2 hx (bounds_i64 wz).1 (bounds_i64 wz).2 (by omega) (by omega) ht
end Go.Proofs.YtphmefhnffoafaaGreatDoor
namespace Go.Proofs.YtphmefhnffoafaaGreatDoor.lawCertTurned
open Go.ChangeShapes Go.WideShapes Go.ChangeAt Go.RowKit
open Go.ChangeMaps (open_string shut_string)
set_option linter.unusedVariables false
theorem laidOut : laidOutB Tryz.prog = true := laid_out
set_option maxRecDepth 100000 in
theorem contract (H : Type) (enc : TypeId × Value → H) (W : World) (base : Nat) (args : Array Value) (ds gs : List (DataW H)) (before : List MemPlace)
  (hval0 : ∀ (j : Nat) t v, Tryz.f3.params[j]? = some t → args[j]? = some v → Value.okWide Tryz.prog W .any base t v)
  (hW : DataW.Whole enc Tryz.prog Tryz.f3.params.toList Rows.certTurnedSpec.vars false W args.toList ds gs before) (hL : laidMetH Tryz.prog Rows.certTurnedRow.laid W) :
  Calls Tryz.prog 3 args W fun e W' => ∃ v, e = .returned v ∧ Rows.certTurnedSpec.post enc Tryz.prog Tryz.f3 false true false false W args v W' := by
 have hval : ∀ (j : Nat) t v, Tryz.f3.params[j]? = some t → args[j]? = some v → Value.okWide Tryz.prog W .any base t v := hval0
 have hW' := hW
 obtain ⟨p, q, hA0, hV, rfl, hfz, hnd⟩ := hW
 have hA : DataW.TrodAll enc Tryz.prog W 0 (fun _ => true) true Tryz.f3.params.toList args.toList ds p := hA0
 rw [Tryz.params3] at hA hval
 obtain ⟨v0, vs0, d0, ds0, p0, q0, hargs, rfl, rfl, h0, r0⟩ := trodAll_cons hA
 obtain ⟨v1, vs1, d1, ds1, p1, q1, rfl, rfl, rfl, h1, r1⟩ := trodAll_cons r0
 obtain ⟨v2, vs2, d2, ds2, p2, q2, rfl, rfl, rfl, h2, r2⟩ := trodAll_cons r1
 obtain ⟨v3, vs3, d3, ds3, p3, q3, rfl, rfl, rfl, h3, r3⟩ := trodAll_cons r2
 obtain ⟨v4, vs4, d4, ds4, p4, q4, rfl, rfl, rfl, h4, r4⟩ := trodAll_cons r3
 obtain ⟨rfl, rfl, rfl⟩ := trodAll_nil r4
 obtain rfl : args = #[v0, v1, v2, v3, v4] := by cases args; simp_all
 obtain ⟨rfl, rfl⟩ := trodVars_none hV
 have k0 := h0
 have lt0 : ∀ x ∈ p0, x.block < W.heap.size := by obtain ⟨m, hm⟩ := k0; exact DataW.trod_lt m _ _ _ hm
 obtain ⟨x0_0, x0_1, x0_2, x0_3, rfl, f0_0, f0_1, f0_2⟩ := open_b (hval 0 22 v0 rfl rfl) h0
 have k1 := h1
 have lt1 : ∀ x ∈ p1, x.block < W.heap.size := by obtain ⟨m, hm⟩ := k1; exact DataW.trod_lt m _ _ _ hm
 obtain ⟨x1_0, x1_1, x1_2, x1_3, rfl, f1_0, f1_1, f1_2⟩ := open_b (hval 1 22 v1 rfl rfl) h1
 have k2 := h2
 have lt2 : ∀ x ∈ p2, x.block < W.heap.size := by obtain ⟨m, hm⟩ := k2; exact DataW.trod_lt m _ _ _ hm
 obtain ⟨x2_0, rfl, f2_0⟩ := open_ent (hval 2 27 v2 rfl rfl) h2
 have k3 := h3
 have lt3 : ∀ x ∈ p3, x.block < W.heap.size := by obtain ⟨m, hm⟩ := k3; exact DataW.trod_lt m _ _ _ hm
 obtain ⟨a3, rfl, rfl, rfl, w3⟩ := open_int Tryz.underlying3 (hval 3 3 v3 rfl rfl) h3
 have k4 := h4
 have lt4 : ∀ x ∈ p4, x.block < W.heap.size := by obtain ⟨m, hm⟩ := k4; exact DataW.trod_lt m _ _ _ hm
 obtain ⟨a4, rfl, rfl, rfl, w4⟩ := open_int Tryz.underlying5 (hval 4 5 v4 rfl rfl) h4
 have htabs : Tabs W := tabs_of hL
 clear hA0 hval0 hL
 refine (certTurned_walk x0_0 x0_1 x0_2 x0_3 x1_0 x1_1 x1_2 x1_3 x2_0 a3 a4 W f0_0 f0_1 f0_2 f1_0 f1_1 f1_2 f2_0 w3 w4 htabs).mono fun e W' ⟨he, bel⟩ => ?_
 subst he
 exact ⟨_, rfl, _, _, _, [], _, [], hW', trodAll_mk1 (shut_bool Tryz.underlying4 _), (trodAll_cons_mk (Below.trod laidOut (by kernel_rfl) (of_decide_eq_true (by kernel_rfl)) k0 bel lt0) (trodAll_cons_mk (Below.trod laidOut (by kernel_rfl) (of_decide_eq_true (by kernel_rfl)) k1 bel lt1) (trodAll_cons_mk (Below.trod laidOut (by kernel_rfl) (of_decide_eq_true (by kernel_rfl)) k2 bel lt2) (trodAll_cons_mk (Below.trod laidOut (by kernel_rfl) (of_decide_eq_true (by kernel_rfl)) k3 bel lt3) (trodAll_cons_mk (Below.trod laidOut (by kernel_rfl) (of_decide_eq_true (by kernel_rfl)) k4 bel lt4) trodAll_mk0))))), rfl, bel.frame _, fun h => by cases h⟩
theorem laid_met (os : Os) : laidMet Tryz.prog Rows.certTurnedRow.laid ((laidWorld os).forCall (fun _ _ => 0) ⟨#[], #[.slice none 0 0, .slice none 0 0, .agg (entV noEnt).toArray, .int .i64 0, .int .u8 0], []⟩).memory :=
 laidMet_of_run' 8 (by kernel_rfl) (by kernel_rfl)
theorem reads (os : Os) {H : Type} (enc : TypeId × Value → H) : ∃ ds places, DataW.whole enc Tryz.prog ((laidWorld os).forCall (fun _ _ => 0) ⟨#[], #[.slice none 0 0, .slice none 0 0, .agg (entV noEnt).toArray, .int .i64 0, .int .u8 0], []⟩).memory Tryz.f3.params.toList Rows.certTurnedSpec.vars false #[.slice none 0 0, .slice none 0 0, .agg (entV noEnt).toArray, .int .i64 0, .int .u8 0].toList 8 = some (ds, [], places) := by
 obtain ⟨⟨ds, gs, pl⟩, h, e⟩ := Option.map_eq_some_iff.1 (show (DataW.whole enc Tryz.prog ((laidWorld os).forCall (fun _ _ => 0) ⟨#[], #[.slice none 0 0, .slice none 0 0, .agg (entV noEnt).toArray, .int .i64 0, .int .u8 0], []⟩).memory Tryz.f3.params.toList Rows.certTurnedSpec.vars false #[.slice none 0 0, .slice none 0 0, .agg (entV noEnt).toArray, .int .i64 0, .int .u8 0].toList 8).map (fun x => x.2.1) = some [] by kernel_rfl)
 simp only at e
 subst e
 exact ⟨ds, pl, h⟩
set_option maxRecDepth 100000 in
theorem lifted (os : Os) (started : os.Started) (H : Type) (enc : TypeId × Value → H) (F : Stop.Interp) :
  ReturnsInHanded {} Tryz.checked os 3 .any ((OpenSpec.ofChange Rows.certTurnedSpec).preRow enc Tryz.prog Tryz.f3 Rows.certTurnedRow.domain false Rows.certTurnedRow.laid) (((OpenSpec.ofChange Rows.certTurnedSpec).at F).post enc Tryz.prog Tryz.f3 false true false false) := by
 obtain ⟨ds, places, hx⟩ := reads os enc
 refine returnsInHanded_of_row (C := Tryz.checked) (s := OpenSpec.ofChange Rows.certTurnedSpec) own_knob started (by kernel_rfl) Tryz.func3
  (witness_row_at (enc := enc) (C := Tryz.checked) false (laidWorld os) #[.slice none 0 0, .slice none 0 0, .agg (entV noEnt).toArray, .int .i64 0, .int .u8 0] rfl (by kernel_rfl) (by kernel_rfl) (by kernel_rfl)
    (OpenSpec.preRow_of_cond 8 hx (by kernel_rfl) (fun k hk => by cases hk) (by kernel_rfl) (laid_met os))) ?_
 intro W base args ds gs before hval hW _ _ _ hL _ _
 exact contract H enc W base args ds gs before hval hW hL
theorem said : Rows.CertTurnedSaid :=
 OpenClaim.holds_of_cond 3 Tryz.f3 rfl rfl rfl rfl rfl rfl rfl ⟨rfl, rfl, rfl, rfl, rfl⟩ rfl rfl rfl rfl rfl (by kernel_rfl) Tryz.func3 (by kernel_rfl)
  (of_decide_eq_true (by kernel_rfl)) (by unfold Func.isWrapper; first | (rw [if_pos (by decide +kernel)]; kernel_rfl) | (rw [if_neg (by decide +kernel)]; exact ⟨rfl, rfl⟩))
  (fun os started H enc _ F => by rw [OpenClaim.pre_eq_preRow]; exact lifted os started H enc F)
theorem plain (f : FuncId) (fn : Func) (hf : Tryz.pinned.checked.prog.funcNamed "seisin/seisinlaw11.CertTurned" = some f) (hfn : Tryz.pinned.checked.prog.funcs[f]? = some fn) :
  true = Tryz.pinned.checked.prog.looks [] ∧ ∀ (j : Nat) t, fn.params[j]? = some t → Tryz.pinned.checked.prog.wantsStandIn t = false := by
 obtain rfl : f = 3 := Option.some.inj ((show Tryz.prog.funcNamed "seisin/seisinlaw11.CertTurned" = some 3 by kernel_rfl).symm.trans hf) |>.symm
 obtain rfl : fn = Tryz.f3 := (Option.some.inj (Tryz.func3.symm.trans hfn)).symm
 refine ⟨by kernel_rfl, fun j t ht => ?_⟩
 rw [Tryz.params3] at ht
 have hm : t ∈ [22, 22, 27, 3, 5] := by simpa using Array.mem_of_getElem? ht
 have hall : ([22, 22, 27, 3, 5].all fun u => !Tryz.prog.wantsStandIn u) = true := by kernel_rfl
 exact (show Tryz.prog.wantsStandIn t = false by simpa using List.all_eq_true.1 hall t hm)
theorem proved : Rows.CertTurnedCardSaid :=
 Claim7.holds_tied_plain_at .later [] _ _ _ _ said (fun _ h => by cases h) (by kernel_rfl) (fun _ h => by cases h) certTurned_row_tie rfl ⟨rfl, rfl⟩ (by kernel_rfl) rfl plain (by kernel_rfl)
#print axioms proved
end Go.Proofs.YtphmefhnffoafaaGreatDoor.lawCertTurned

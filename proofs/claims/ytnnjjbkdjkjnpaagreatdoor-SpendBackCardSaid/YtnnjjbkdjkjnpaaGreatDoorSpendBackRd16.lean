/- The contract of tx.Put. Printed by mkput.py. -/
import Derived.Test.YtnnjjbkdjkjnpaaGreatDoorSpendBackRd15
set_option linter.unusedSimpArgs false
set_option linter.unusedVariables false
set_option maxRecDepth 100000
set_option maxHeartbeats 16000000
namespace Go.Proofs.YtnnjjbkdjkjnpaaGreatDoor
open Go.RowKit Go.Shelf
theorem tput_any {A : Option Addr} {n c : Nat} {A2 : Option Addr} {n2 c2 : Nat} {fee ex : Int} {l : List (Value × Inp)} {os : List Outp} (w : World) (hi : InsAt w A n c l) (ho : OutsAt w A2 n2 c2 os) (hn : n ≤ 100000) (hn2 : n2 ≤ 100000) (hf : U64 fee) (hex : I64 ex) :
  Calls Tryz.prog 75 #[.agg (txV A n c A2 n2 c2 fee ex).toArray] w fun e w' => ∃ A' c', e = .returned (.tuple #[.slice A' (tformB ⟨l.map Prod.snd, os, fee, ex⟩).length c', .int .i64 (checkT ⟨l.map Prod.snd, os, fee, ex⟩)]) ∧ Sl w' w'.heap.size 1 A' (tformB ⟨l.map Prod.snd, os, fee, ex⟩).length ((tformB ⟨l.map Prod.snd, os, fee, ex⟩).map B) ∧ (tformB ⟨l.map Prod.snd, os, fee, ex⟩).length ≤ c' ∧ Grow w w' := by
 have HI := kp hi; have HO := kp ho
 have HTC := kp (txV_cl (A := A) (n := n) (c := c) (A2 := A2) (n2 := n2) (c2 := c2) (fee := fee) (ex := ex))
 have HT0 := kp (show (txV A n c A2 n2 c2 fee ex)[0]? = some (.slice A n c) from rfl)
 have HT1 := kp (show (txV A n c A2 n2 c2 fee ex)[1]? = some (.slice A2 n2 c2) from rfl)
 have HT2 := kp (show (txV A n c A2 n2 c2 fee ex)[2]? = some (.int .u64 fee) from rfl)
 have HT3 := kp (show (txV A n c A2 n2 c2 fee ex)[3]? = some (.int .i64 ex) from rfl)
 have HCK := kp (fun w hi ho => tcheck_any (A := A) (n := n) (c := c) (A2 := A2) (n2 := n2) (c2 := c2) (fee := fee) (ex := ex) (l := l) (os := os) w hi ho hn hn2 hf hex)
 have HF := kp hf; have HEX := kp hex
 obtain ⟨t, ht⟩ : ∃ t, t = Txn.mk (l.map Prod.snd) os fee ex := ⟨_, rfl⟩
 rw [← ht] at HCK ⊢
 have HTE := kp ht
 obtain ⟨ck, hck⟩ : ∃ q, q = checkT t := ⟨_, rfl⟩
 have HCE := kp hck
 rw [← hck] at HCK ⊢
 obtain ⟨tf, htf⟩ : ∃ q, q = tformB t := ⟨_, rfl⟩
 rw [← htf]
 have HFN := kp (show ck ≠ 0 → tf = [] from fun h => by rw [htf]; unfold tformB; rw [if_neg (by rw [← hck]; exact h)])
 have HFY := kp (show ck = 0 → tf = putTB t from fun h => by rw [htf]; unfold tformB; rw [if_pos (by rw [← hck]; exact h)])
 have HSH := kp (show ck = 0 → (1 ≤ n ∧ n ≤ 16 ∧ 1 ≤ n2 ∧ n2 ≤ 16 ∧ 0 ≤ ex ∧ ex ≤ 1099511627776) ∧ ∀ p ∈ l, p.2.secret.length ≤ 64 ∧ 0 ≤ p.2.index ∧ p.2.index ≤ 15 from fun h => by
  obtain ⟨h1, h2⟩ := short_of (t := t) (by rw [← hck]; exact h)
  unfold shortT at h1
  rw [ht] at h1 h2
  simp only [Bool.and_eq_true, inB_iff, List.length_map] at h1
  have a := hi.2.2.1; have b := ho.2.2.1
  exact ⟨by omega, fun p hp => h2 _ (List.mem_map_of_mem hp)⟩)
 obtain ⟨tv, htv⟩ : ∃ q, q = txV A n c A2 n2 c2 fee ex := ⟨_, rfl⟩
 rw [← htv] at HTC HT0 HT1 HT2 HT3 HCK ⊢
 obtain ⟨w_, hw⟩ : ∃ x, x = w := ⟨_, rfl⟩
 have HB := kp (show Below w.heap.size w w_ by rw [hw]; exact Below.refl _ _)
 suffices H : Calls Tryz.prog 75 #[.agg tv.toArray] w_ fun e w' => ∃ A' c', e = .returned (.tuple #[.slice A' tf.length c', .int .i64 ck]) ∧ Sl w' w'.heap.size 1 A' tf.length (tf.map B) ∧ tf.length ≤ c' ∧ Grow w w' by rw [hw] at H; exact H
 clear hw hi ho ht hck htf htv hf hex
 go_enter Tryz.func75, Tryz.ntmps75
 go_wp2_with (first | (with_reducible refine wpl_box (o := ⟨some 1, _, _, _, _, _⟩) rfl rfl rfl ?_))
 intro w2_ hb2_ hb_ hsz2_
 have HX_ := kp (at_mk hb2_ HTC.out.len)
 clear hb2_ hsz2_
 have HG_ := kp HB.out.size
 replace HB := kp (HB.out.grow' hb_)
 generalize hg_ : w_.heap.size = g1 at HX_ HG_ ⊢
 clear hg_
 have HX_g := HG_
 clear HG_
 have HX := HX_
 clear hb_ HX_
 try clear w_
 rename World => w_
 go_wp2_with (with_reducible refine wlb 10 row_tx HX.out.blk HX.out.len ?_)
 refine (HCK.out _ (HI.out.grow HB.out) (HO.out.grow HB.out)).mono ?_
 rintro e w_ ⟨rfl, hb_⟩
 replace HB := kp (HB.out.grow' hb_)
 replace HX := kp (HX.out.grow hb_)
 clear hb_
 by_cases h0 : ck = 0
 ·obtain ⟨hsh, hel⟩ := HSH.out h0
  have HEL := kp hel
  have HSHT := kp hsh
  have hn16 : n ≤ 16 := hsh.2.1
  have hm16 : n2 ≤ 16 := hsh.2.2.2.1
  obtain ⟨fn, hfn⟩ : ∃ q : Nat, fee = (q : Int) := ⟨fee.toNat, (Int.toNat_of_nonneg HF.out.1).symm⟩
  obtain ⟨en, hen⟩ : ∃ q : Nat, ex = (q : Int) := ⟨ex.toNat, (Int.toNat_of_nonneg hsh.2.2.2.2.1).symm⟩
  have HFU := kp (show fn ≤ 18446744073709551615 by have := HF.out.2; rw [hfn] at this; omega)
  have HEU := kp (show en ≤ 1099511627776 by have := hsh.2.2.2.2.2; rw [hen] at this; omega)
  have HPT := kp (show tf = numB n ++ (l.map Prod.snd).flatMap putI ++ numB n2 ++ os.flatMap putO ++ numB fn ++ numB en by
   rw [HFY.out h0, HTE.out]; unfold putTB; simp only [hfn, hen, Int.toNat_natCast, List.length_map]; rw [HI.out.2.2.1, HO.out.2.2.1])
  have HPI := kp (show ∀ x ∈ l.map Prod.snd, (putI x).length ≤ 130 from fun x hx => by
   obtain ⟨p, hp, rfl⟩ := List.mem_map.1 hx
   exact putI_len (HI.out.2.1 p hp).2 (hel p hp).1 (hel p hp).2)
  have HPO := kp (show ∀ x ∈ os, (putO x).length ≤ 50 from fun x hx => putO_len (HO.out.2.1 x hx))
  rw [hfn] at HT2
  rw [hen] at HT3
  clear hsh hel hfn hen
  subst h0
  go_wp2_with (first | (with_reducible refine wpl_alloc (o := ⟨some 5, _, _, _, _, _⟩) rfl rfl zero_pen ?_))
  intro w4 hb4 hbw4 hsz4
  obtain ⟨gp, hgp⟩ : ∃ q, q = w_.heap.size := ⟨_, rfl⟩
  have HG1 := kp (show g1 < gp ∧ w.heap.size ≤ gp by have h1 := HX.out.lt; have h2 := HB.out.size; omega)
  have HX4 := kp (HX.out.grow hbw4)
  have HB4 := kp (HB.out.grow' hbw4)
  rw [← hgp] at hb4 hsz4 ⊢
  have HP := kp (show PenAt w4 (K0 gp) gp [] from PenAt.new hb4 (fun k hk => by unfold K0 at hk; omega))
  have HKB := kp (show KB gp w4 w4 from ⟨Below.refl _ _, by omega⟩)
  have HXB := kp (show ∀ w', KB gp w4 w' → At w' g1 27 4 tv from fun w' h => ⟨HX4.out.blk.below h.1 HG1.out.1, HX4.out.len⟩)
  have HBB := kp (show ∀ w', KB gp w4 w' → Below w.heap.size w w' from fun w' h => HB4.out.trans (h.1.mono HG1.out.2))
  have HKP := kp (show ∀ (w' : World) (xs : List UInt8), KB gp w4 w' → PenAt w' (K0 gp) gp xs → PenAt w' (Kq gp g1) gp xs from fun w' xs h hp => hp.plus (HXB.out _ h).blk (by decide) (by have := HG1.out.1; omega))
  clear hb4 hbw4 hsz4 hgp HX HB HX4
  have qn := conv_u64' (n := n) (by omega)
  have c0 := (HXB.out _ HKB.out).blk.at_ HT0.out
  go_wp2_with fail
  refine (num_any gp n (Kq gp g1) [] _ (HKP.out _ _ HKB.out HP.out) (by simp) (by omega)).mono ?_
  rintro e w2_ ⟨rfl, hp_, hk_⟩
  have HP_ := kp hp_.minus
  have HKB_ := kp (HKB.out.kept hk_)
  clear hp_ hk_ HP HKB
  have HP := HP_; have HKB := HKB_
  clear HP_ HKB_
  try clear w_
  rename World => w_
  replace HP := kp (show PenAt w_ (K0 gp) gp (numB n) from HP.out)
  clear c0 qn
  have ln := numB_le (n := n) (by omega); have lm := numB_le (n := n2) (by omega)
  have c0 := (HXB.out _ HKB.out).blk.at_ HT0.out
  obtain ⟨pre, hpre⟩ : ∃ q, q = numB n := ⟨_, rfl⟩
  have HPR := kp hpre
  have hprl : pre.length ≤ 9 := by rw [hpre]; exact ln
  rw [← hpre] at HP HPT
  clear hpre ln
  obtain ⟨ins, hins⟩ : ∃ q, q = l.map Prod.snd := ⟨_, rfl⟩
  have HINS := kp hins
  have HINL := kp (show ins.length = n by rw [hins, List.length_map]; exact HI.out.2.2.1)
  rw [← hins] at HPT HPI
  clear hins
  go_upto_block 0 with fail
  go_cut [] from 10 (fun wr => Hid (PenAt wr (K0 gp) gp (pre ++ ins.flatMap putI) ∧ KB gp w4 wr))
  case first =>
   go_wp2_with fail
   go_loopw [23] (fun iv wr => ∃ k : Nat, k ≤ n ∧ iv = .int .i64 k ∧ Hid (PenAt wr (K0 gp) gp (pre ++ (ins.take k).flatMap putI) ∧ KB gp w4 wr)) (fun iv _ => n - (intOf iv).toNat)
   case atStart => exact ⟨0, by omega, rfl, kp ⟨by simpa using HP.out, HKB.out⟩⟩
   case round =>
    obtain ⟨k, hk, rfl, hI⟩ := hrel
    clear HP HKB c0
    have HP := kp hI.out.1; have HKB := kp hI.out.2
    clear hI
    rename World => w_
    by_cases hlt : k < n
    ·obtain ⟨b, off, p, hA, hp, hok, hc⟩ := HI.out.at_ hlt
     subst hA
     have HBW := kp (HBB.out _ HKB.out)
     obtain ⟨hsl, hix0, hix1⟩ := HEL.out p (List.mem_of_getElem? hp)
     have HC := kp (show ∀ j u, (inV p.1 p.2)[j]? = some u → w_.cell? ⟨b, off + k * 35 + j, none⟩ = some u from fun j u hu => bcell HBW.out (hc j u hu))
     have HPC := kp (inV_cl hok)
     have HSN := kp (fm_snoc putI (l := ins) (k := k) (p := p.2) (by rw [HINS.out, List.getElem?_map, hp]; rfl))
     obtain ⟨⟨A4, c4, e4, hc4, hs4⟩, hio⟩ := hok
     have HS4 := kp hs4
     have HFL := kp (fm_le putI 130 k HPI.out)
     have HA32 := kp (in_at (v := p.1) hio)
     have HDG := kp (dig_map hio.1)
     have HTX := kp (show ∀ (j : Nat) (u : Value), (p.2.tx.map B)[j]? = some u → (inV p.1 p.2)[0 + j]? = some u from fun j u hu => by
      rw [Nat.zero_add]; unfold inV; rw [List.getElem?_append_left (List.getElem?_eq_some_iff.1 hu).1]; exact hu)
     obtain ⟨pv, hpv⟩ : ∃ q, q = inV p.1 p.2 := ⟨_, rfl⟩
     rw [← hpv] at HC HPC HA32 HTX
     rw [e4] at HA32
     obtain ⟨xn, hxn⟩ : ∃ q : Nat, p.2.index = (q : Int) := ⟨p.2.index.toNat, (Int.toNat_of_nonneg hix0).symm⟩
     obtain ⟨an, han⟩ : ∃ q : Nat, p.2.amount = (q : Int) := ⟨p.2.amount.toNat, (Int.toNat_of_nonneg hio.2.2.1).symm⟩
     have HAU := kp (show an ≤ 18446744073709551615 by have := hio.2.2.2; rw [han] at this; omega)
     have hxb : xn ≤ 15 := by rw [hxn] at hix1; omega
     obtain ⟨sl, hsl2⟩ : ∃ q, q = p.2.secret.length := ⟨_, rfl⟩
     obtain ⟨tx, htx⟩ : ∃ q, q = p.2.tx := ⟨_, rfl⟩
     obtain ⟨sc, hsc⟩ : ∃ q, q = p.2.secret := ⟨_, rfl⟩
     have HPU := kp (show putI p.2 = tx ++ numB xn ++ numB an ++ numB sl ++ sc by unfold putI; rw [hxn, han, ← htx, ← hsc, hsl2, hsc]; simp only [Int.toNat_natCast])
     have htl : tx.length = 32 := by rw [htx]; exact hio.1
     have hslb : sl ≤ 64 := by rw [hsl2]; exact hsl
     rw [hxn, han, ← hsl2] at HA32
     rw [← htx] at HTX HDG
     rw [← hsl2, ← hsc] at HS4
     obtain ⟨xs, hxs⟩ : ∃ q, q = pre ++ (ins.take k).flatMap putI := ⟨_, rfl⟩
     have HXE := kp hxs
     have hxl : xs.length ≤ 9 + 16 * 130 := by rw [hxs, List.length_append]; have := HFL.out; omega
     rw [← hxs] at HP
     clear hp hc hsl hix0 hix1 e4 hc4 hs4 hio hpv hxn han hsl2 htx hsc hxs HFL HBW
     have u1 := numB_le (n := xn) (by omega); have u2 := numB_le (n := an) HAU.out; have u3 := numB_le (n := sl) (by omega)
     have HB := kp (HBB.out _ HKB.out)
     go_wp2_with (first | (with_reducible refine wlm 26 row_tin HC.out HPC.out.len ?_) | (with_reducible refine wpl_alloc (o := ⟨some 7, _, _, _, _, _⟩) rfl rfl zero_tin ?_))
     intro w1_ hb1_ hbw1_ hsz1_
     have HB1_ := kp (at_mk hb1_ len_tin)
     have HBW1_ := kp hbw1_
     have HZ1_ := kp hsz1_
     clear hb1_ hbw1_ hsz1_
     go_wp2_with (with_reducible refine wsb row_tin HB1_.out.blk HB1_.out.len HPC.out.len HPC.out.one ?_)
     intro w2_ hb2_ hg2_ hsz2_
     have hb_ := var_grow HBW1_.out HZ1_.out hg2_
     have HX_ := kp (at_mk hb2_ HPC.out.len)
     clear hb2_ hg2_ hsz2_ HB1_ HBW1_ HZ1_
     replace HB := kp (HB.out.grow' hb_)
     replace HP := kp (HP.out.grow hb_)
     replace HKB := kp (HKB.out.grow hb_)
     generalize hg_ : w_.heap.size = g7 at HX_ ⊢
     clear hg_
     have HE := HX_
     clear hb_ HX_
     clear w1_
     try clear w_
     rename World => w_
     clear HB HC
     have HGQ := kp (show g7 ≠ gp from fun e => by
      obtain ⟨_, _, h1, _⟩ := HP.out
      have h2 := HE.out.blk
      rw [e] at h2
      unfold Blk at h1 h2
      rw [h1] at h2
      injection h2 with h2
      injection h2 with _ h2
      exact absurd h2 (by decide))
     replace HP := kp (HP.out.plus HE.out.blk (by decide) HGQ.out)
     have HM := kp (show ∀ (j : Nat) (u : Value), (tx.map B)[j]? = some u → w_.cell? ⟨g7, 0 + j, none⟩ = some u from fun j u hu => HE.out.blk.at_ (HTX.out j u hu))
     go_wp2_with (with_reducible refine wlm 29 row_id HM.out HDG.out.len ?_)
     clear HM
     go_wp2_with fail
     refine (pid_any gp (Kq gp g7) xs HDG.out _ HP.out (by omega)).mono ?_
     rintro e w2_ ⟨rfl, hp_, hk_⟩
     have HP_ := kp hp_
     have HKB_ := kp (HKB.out.kept hk_)
     have HE_ := kp (HE.out.kept hk_)
     clear hp_ hk_ HP HKB HE
     have HP := HP_; have HKB := HKB_; have HE := HE_
     clear HP_ HKB_ HE_
     try clear w_
     rename World => w_
     have c32 := HE.out.blk.at_ HA32.out.1
     have q2 := conv_u64' (n := xn) (by omega)
     go_wp2_with fail
     refine (num_any gp xn (Kq gp g7) (xs ++ tx) _ HP.out (by clear q2; rw [List.length_append]; omega) (by clear q2; omega)).mono ?_
     rintro e w2_ ⟨rfl, hp_, hk_⟩
     have HP_ := kp hp_
     have HKB_ := kp (HKB.out.kept hk_)
     have HE_ := kp (HE.out.kept hk_)
     clear hp_ hk_ HP HKB HE
     have HP := HP_; have HKB := HKB_; have HE := HE_
     clear HP_ HKB_ HE_
     try clear w_
     rename World => w_
     clear c32 q2
     have c33 := HE.out.blk.at_ HA32.out.2.1
     go_wp2_with fail
     refine (num_any gp an (Kq gp g7) (xs ++ tx ++ numB xn) _ HP.out (by rw [List.length_append, List.length_append]; omega) HAU.out).mono ?_
     rintro e w2_ ⟨rfl, hp_, hk_⟩
     have HP_ := kp hp_
     have HKB_ := kp (HKB.out.kept hk_)
     have HE_ := kp (HE.out.kept hk_)
     clear hp_ hk_ HP HKB HE
     have HP := HP_; have HKB := HKB_; have HE := HE_
     clear HP_ HKB_ HE_
     try clear w_
     rename World => w_
     clear c33
     have c34 := HE.out.blk.at_ HA32.out.2.2
     have HS5 := kp (HS4.out.below (HBB.out _ HKB.out))
     go_wp2_with fail
     refine (ptext_any gp (Kq gp g7) (xs ++ tx ++ numB xn ++ numB an) _ HP.out HS5.out (fun j hj => .inl (Nat.lt_of_lt_of_le hj HG1.out.2)) (by rw [List.length_append, List.length_append, List.length_append]; omega)).mono ?_
     rintro e w2_ ⟨rfl, hp_, hk_⟩
     have HP_ := kp hp_.minus
     have HKB_ := kp (HKB.out.kept hk_)
     clear hp_ hk_ HP HKB HE
     have HP := HP_; have HKB := HKB_
     clear HP_ HKB_
     try clear w_
     rename World => w_
     clear c34 HS5
     have HPN := kp (show PenAt w_ (K0 gp) gp (pre ++ (ins.take (k + 1)).flatMap putI) by
      rw [HSN.out, HPU.out, ← List.append_assoc, ← HXE.out]
      have h := HP.out
      simp only [List.append_assoc] at h ⊢
      exact h)
     clear HP u1 u2 u3
     go_wp2_with fail
     go_roundw
     case rel => exact ⟨k + 1, by omega, by go_num, kp ⟨HPN.out, HKB.out⟩⟩
     case measure => simp [intOf]; omega
    ·obtain rfl : k = n := by omega
     have HP_ := kp (show PenAt w_ (K0 gp) gp (pre ++ ins.flatMap putI) by have h := HP.out; rw [List.take_of_length_le (by rw [HINL.out]; exact Nat.le_refl _)] at h; exact h)
     go_wp2_with fail
     go_meet
     case rel => exact kp ⟨HP_.out, HKB.out⟩
  case rest =>
   clear HP HKB c0
   have HP := kp hcut.out.1; have HKB := kp hcut.out.2
   clear hcut
   try clear w_
   rename World => w_
   have HFL := kp (show (ins.flatMap putI).length ≤ n * 130 by have h := fm_len putI 130 ins HPI.out; rw [HINL.out] at h; exact h)
   obtain ⟨p1, hp1⟩ : ∃ q, q = pre ++ ins.flatMap putI := ⟨_, rfl⟩
   have hp1l : p1.length ≤ 9 + 16 * 130 := by rw [hp1, List.length_append]; have := HFL.out; omega
   rw [← hp1] at HP HPT
   clear hp1 HFL hprl
   have c1 := (HXB.out _ HKB.out).blk.at_ HT1.out
   have qm := conv_u64' (n := n2) (by omega)
   go_wp2_with fail
   refine (num_any gp n2 (Kq gp g1) p1 _ (HKP.out _ _ HKB.out HP.out) (by clear qm; omega) (by clear qm; omega)).mono ?_
   rintro e w2_ ⟨rfl, hp_, hk_⟩
   have HP_ := kp hp_.minus
   have HKB_ := kp (HKB.out.kept hk_)
   clear hp_ hk_ HP HKB
   have HP := HP_; have HKB := HKB_
   clear HP_ HKB_
   try clear w_
   rename World => w_
   clear c1 qm
   obtain ⟨p2, hp2⟩ : ∃ q, q = p1 ++ numB n2 := ⟨_, rfl⟩
   have hp2l : p2.length ≤ 18 + 16 * 130 := by rw [hp2, List.length_append]; omega
   rw [← hp2] at HP HPT
   clear hp2 lm hp1l
   have c1 := (HXB.out _ HKB.out).blk.at_ HT1.out
   go_upto_block 2 with fail
   go_cut [] from 10 (fun wr => Hid (PenAt wr (K0 gp) gp (p2 ++ os.flatMap putO) ∧ KB gp w4 wr))
   case first =>
    go_wp2_with fail
    go_loopw [51] (fun iv wr => ∃ k : Nat, k ≤ n2 ∧ iv = .int .i64 k ∧ Hid (PenAt wr (K0 gp) gp (p2 ++ (os.take k).flatMap putO) ∧ KB gp w4 wr)) (fun iv _ => n2 - (intOf iv).toNat)
    case atStart => exact ⟨0, by omega, rfl, kp ⟨by simpa using HP.out, HKB.out⟩⟩
    case round =>
     obtain ⟨k, hk, rfl, hI⟩ := hrel
     clear HP HKB c1
     have HP := kp hI.out.1; have HKB := kp hI.out.2
     clear hI
     rename World => w_
     by_cases hlt : k < n2
     ·obtain ⟨b, off, p, hA, hp, hok, hc⟩ := HO.out.at_ hlt
      subst hA
      have HB := kp (HBB.out _ HKB.out)
      have HC := kp (show ∀ j u, (outV p)[j]? = some u → w_.cell? ⟨b, off + k * 33 + j, none⟩ = some u from fun j u hu => bcell HB.out (hc j u hu))
      have HPC := kp (outV_cl hok)
      have HSN := kp (fm_snoc putO hp)
      have HFL := kp (fm_le putO 50 k HPO.out)
      have HA32 := kp (out_at hok)
      have HDG := kp (dig_map hok.1)
      have HTX := kp (show ∀ (j : Nat) (u : Value), (p.owner.map B)[j]? = some u → (outV p)[0 + j]? = some u from fun j u hu => by
       rw [Nat.zero_add]; unfold outV; rw [List.getElem?_append_left (List.getElem?_eq_some_iff.1 hu).1]; exact hu)
      obtain ⟨pv, hpv⟩ : ∃ q, q = outV p := ⟨_, rfl⟩
      rw [← hpv] at HC HPC HA32 HTX
      obtain ⟨an, han⟩ : ∃ q : Nat, p.amount = (q : Int) := ⟨p.amount.toNat, (Int.toNat_of_nonneg hok.2.1).symm⟩
      have HAU := kp (show an ≤ 18446744073709551615 by have := hok.2.2; rw [han] at this; omega)
      obtain ⟨tx, htx⟩ : ∃ q, q = p.owner := ⟨_, rfl⟩
      have HPU := kp (show putO p = tx ++ numB an by unfold putO; rw [han, ← htx]; simp only [Int.toNat_natCast])
      have htl : tx.length = 32 := by rw [htx]; exact hok.1
      rw [han] at HA32
      rw [← htx] at HTX HDG
      obtain ⟨xs, hxs⟩ : ∃ q, q = p2 ++ (os.take k).flatMap putO := ⟨_, rfl⟩
      have HXE := kp hxs
      have hxl : xs.length ≤ 18 + 16 * 130 + 16 * 50 := by rw [hxs, List.length_append]; have := HFL.out; omega
      rw [← hxs] at HP
      clear hp hc hok hpv han htx hxs HFL
      have u2 := numB_le (n := an) HAU.out
      go_wp2_with (first | (with_reducible refine wlm 54 row_tout HC.out HPC.out.len ?_) | (with_reducible refine wpl_alloc (o := ⟨some 9, _, _, _, _, _⟩) rfl rfl zero_tout ?_))
      intro w1_ hb1_ hbw1_ hsz1_
      have HB1_ := kp (at_mk hb1_ len_tout)
      have HBW1_ := kp hbw1_
      have HZ1_ := kp hsz1_
      clear hb1_ hbw1_ hsz1_
      go_wp2_with (with_reducible refine wsb row_tout HB1_.out.blk HB1_.out.len HPC.out.len HPC.out.one ?_)
      intro w2_ hb2_ hg2_ hsz2_
      have hb_ := var_grow HBW1_.out HZ1_.out hg2_
      have HX_ := kp (at_mk hb2_ HPC.out.len)
      clear hb2_ hg2_ hsz2_ HB1_ HBW1_ HZ1_
      replace HB := kp (HB.out.grow' hb_)
      replace HP := kp (HP.out.grow hb_)
      replace HKB := kp (HKB.out.grow hb_)
      generalize hg_ : w_.heap.size = g7 at HX_ ⊢
      clear hg_
      have HE := HX_
      clear hb_ HX_
      clear w1_
      try clear w_
      rename World => w_
      clear HB HC
      have HGQ := kp (show g7 ≠ gp from fun e => by
       obtain ⟨_, _, h1, _⟩ := HP.out
       have h2 := HE.out.blk
       rw [e] at h2
       unfold Blk at h1 h2
       rw [h1] at h2
       injection h2 with h2
       injection h2 with _ h2
       exact absurd h2 (by decide))
      replace HP := kp (HP.out.plus HE.out.blk (by decide) HGQ.out)
      have HM := kp (show ∀ (j : Nat) (u : Value), (tx.map B)[j]? = some u → w_.cell? ⟨g7, 0 + j, none⟩ = some u from fun j u hu => HE.out.blk.at_ (HTX.out j u hu))
      go_wp2_with (with_reducible refine wlm 56 row_id HM.out HDG.out.len ?_)
      clear HM
      go_wp2_with fail
      refine (pid_any gp (Kq gp g7) xs HDG.out _ HP.out (by omega)).mono ?_
      rintro e w2_ ⟨rfl, hp_, hk_⟩
      have HP_ := kp hp_
      have HKB_ := kp (HKB.out.kept hk_)
      have HE_ := kp (HE.out.kept hk_)
      clear hp_ hk_ HP HKB HE
      have HP := HP_; have HKB := HKB_; have HE := HE_
      clear HP_ HKB_ HE_
      try clear w_
      rename World => w_
      have c33 := HE.out.blk.at_ HA32.out
      go_wp2_with fail
      refine (num_any gp an (Kq gp g7) (xs ++ tx) _ HP.out (by rw [List.length_append]; omega) HAU.out).mono ?_
      rintro e w2_ ⟨rfl, hp_, hk_⟩
      have HP_ := kp hp_.minus
      have HKB_ := kp (HKB.out.kept hk_)
      clear hp_ hk_ HP HKB HE
      have HP := HP_; have HKB := HKB_
      clear HP_ HKB_
      try clear w_
      rename World => w_
      clear c33
      have HPN := kp (show PenAt w_ (K0 gp) gp (p2 ++ (os.take (k + 1)).flatMap putO) by
       rw [HSN.out, HPU.out, ← List.append_assoc, ← HXE.out]
       have h := HP.out
       simp only [List.append_assoc] at h ⊢
       exact h)
      clear HP u2
      go_wp2_with fail
      go_roundw
      case rel => exact ⟨k + 1, by omega, by go_num, kp ⟨HPN.out, HKB.out⟩⟩
      case measure => simp [intOf]; omega
     ·obtain rfl : k = n2 := by omega
      have HP_ := kp (show PenAt w_ (K0 gp) gp (p2 ++ os.flatMap putO) by have h := HP.out; rw [List.take_of_length_le (by rw [HO.out.2.2.1]; exact Nat.le_refl _)] at h; exact h)
      go_wp2_with fail
      go_meet
      case rel => exact kp ⟨HP_.out, HKB.out⟩
   case rest =>
    clear HP HKB c1
    have HP := kp hcut.out.1; have HKB := kp hcut.out.2
    clear hcut
    try clear w_
    rename World => w_
    have HFL := kp (show (os.flatMap putO).length ≤ n2 * 50 by have h := fm_len putO 50 os HPO.out; rw [HO.out.2.2.1] at h; exact h)
    obtain ⟨p3, hp3⟩ : ∃ q, q = p2 ++ os.flatMap putO := ⟨_, rfl⟩
    have hp3l : p3.length ≤ 18 + 16 * 130 + 16 * 50 := by rw [hp3, List.length_append]; have := HFL.out; omega
    rw [← hp3] at HP HPT
    clear hp3 HFL hp2l
    have uf := numB_le (n := fn) HFU.out
    have ue := numB_le (n := en) (by have := HEU.out; omega)
    have c2 := (HXB.out _ HKB.out).blk.at_ HT2.out
    go_wp2_with fail
    refine (num_any gp fn (Kq gp g1) p3 _ (HKP.out _ _ HKB.out HP.out) (by omega) HFU.out).mono ?_
    rintro e w2_ ⟨rfl, hp_, hk_⟩
    have HP_ := kp hp_.minus
    have HKB_ := kp (HKB.out.kept hk_)
    clear hp_ hk_ HP HKB
    have HP := HP_; have HKB := HKB_
    clear HP_ HKB_
    try clear w_
    rename World => w_
    clear c2
    have c3 := (HXB.out _ HKB.out).blk.at_ HT3.out
    have qe := conv_u64' (n := en) (by have := HEU.out; omega)
    go_wp2_with fail
    refine (num_any gp en (Kq gp g1) (p3 ++ numB fn) _ (HKP.out _ _ HKB.out HP.out) (by clear qe; rw [List.length_append]; omega) (by have := HEU.out; clear qe; omega)).mono ?_
    rintro e w2_ ⟨rfl, hp_, hk_⟩
    have HP_ := kp hp_.minus
    have HKB_ := kp (HKB.out.kept hk_)
    clear hp_ hk_ HP HKB
    have HP := HP_; have HKB := HKB_
    clear HP_ HKB_
    try clear w_
    rename World => w_
    clear c3 qe
    rw [← HPT.out] at HP
    have HTL := kp (show tf.length ≤ 100000 by rw [HPT.out]; simp only [List.length_append]; omega)
    go_wp2_with fail
    refine (pbytes_any gp (K0 gp) tf _ HP.out (by have := HTL.out; omega)).mono ?_
    rintro e w6 ⟨A', c', rfl, ho, hc, hg5⟩
    have HO5 := kp (Sl.of_own ho)
    have HC5 := kp hc
    have HB6 := kp (show Grow w w6 from (HBB.out _ HKB.out).grow' hg5)
    clear ho hc hg5
    go_wp2_with fail
    go_ret2
    exact ⟨A', c', rfl, HO5.out, HC5.out, HB6.out⟩
 ·have d0 : (ck != 0) = true := by simpa using h0
  have HNI := kp (HFN.out h0)
  clear h0
  go_wp2_with fail
  go_ret2
  refine ⟨none, 0, ?_⟩
  rw [HNI.out]
  exact ⟨rfl, Sl.nil, Nat.le_refl _, HB.out⟩
theorem acc_put {w6 w w3 : World} {Z n m c c' : Nat} {A A' : Option Addr} {acc new : List UInt8} (hz : Grow w6 w) (hZ : Z = w6.heap.size) (ho : OwnAt w Z A n c (acc.map B)) (ho_ : w3.ownsRow Z 5 1 (.slice A' (n + m) c') (n + m) (acc.map B ++ new.map B)) (hg : w.grownBy w3 (A.map Addr.block)) :
  OwnAt w3 Z A' (n + m) c' ((acc ++ new).map B) ∧ Grow w6 w3 := by
 refine ⟨by unfold OwnAt; rw [List.map_append]; exact ho_, ?_⟩
 unfold Grow at hz ⊢
 exact below_grown hz hg hz.size (fun g hg' => by have := own_from ho g hg'; omega)
theorem nat_ofU {z : Int} (h : U64 z) : ∃ k : Nat, z = (k : Int) ∧ k ≤ 18446744073709551615 ∧ z.toNat = k := ⟨z.toNat, by have := h.1; omega, by have := h.2; omega, rfl⟩
theorem own_neT {w : World} {base n c sz q : Nat} {e T : TypeId} {A : Option Addr} {xs cs : List Value} (h : w.ownsRow base e sz (.slice A n c) n xs) (hb : Blk w q T cs) (hT : T ≠ e) : ∀ k, A.map Addr.block = some k → k ≠ q := by
 intro k hk e1
 subst e1
 rcases h.2 with ⟨hv, _⟩ | ⟨g, cap, cur, hv, _, hh, _⟩
 ·injection hv with hA; rw [hA] at hk; cases hk
 ·injection hv with hA
  rw [hA] at hk
  cases hk
  unfold Blk at hb
  rw [hb] at hh
  injection hh with hh
  injection hh with _ ht
  exact hT ht
theorem nat_in {z : Int} {m : Nat} (h : 0 ≤ z) (h2 : z ≤ (m : Int)) : ∃ k : Nat, z = (k : Int) ∧ k ≤ m ∧ z.toNat = k := ⟨z.toNat, by omega, by omega, rfl⟩
theorem flat_snoc {α : Type} (f : α → List UInt8) {l : List α} {k : Nat} {p : α} (h : l[k]? = some p) : (l.take (k + 1)).flatMap f = (l.take k).flatMap f ++ f p := by
 rw [take_snoc h, List.flatMap_append]; simp
theorem rtput_any {A : Option Addr} {n c : Nat} {A2 : Option Addr} {n2 c2 : Nat} {fee ex : Int} {l : List (Value × Inp)} {os : List Outp} (w : World) (hi : InsAt w A n c l) (ho : OutsAt w A2 n2 c2 os) (hn : n ≤ 16) (hn2 : n2 ≤ 16) (hf : U64 fee) (hex : 0 ≤ ex ∧ ex ≤ 1099511627776) (hil : ∀ p ∈ l, p.2.secret.length ≤ 64 ∧ 0 ≤ p.2.index ∧ p.2.index ≤ 15) :
  Calls Tryz.prog 55 #[.agg (txV A n c A2 n2 c2 fee ex).toArray] w fun e w' => ∃ A' c', e = .returned (.slice A' (putTB ⟨l.map Prod.snd, os, fee, ex⟩).length c') ∧ Sl w' w'.heap.size 1 A' (putTB ⟨l.map Prod.snd, os, fee, ex⟩).length ((putTB ⟨l.map Prod.snd, os, fee, ex⟩).map B) ∧ (putTB ⟨l.map Prod.snd, os, fee, ex⟩).length ≤ c' ∧ Grow w w' := by
 obtain ⟨fe, rfl, hfe, hfe2⟩ := nat_ofU hf
 obtain ⟨xpn, rfl, hxe, hxe2⟩ := nat_in (m := 1099511627776) hex.1 hex.2
 have HI := kp hi; have HO := kp ho; have HIL := kp hil
 have HTC := kp (txV_cl (A := A) (n := n) (c := c) (A2 := A2) (n2 := n2) (c2 := c2) (fee := (fe : Int)) (ex := (xpn : Int)))
 have HT0 := kp (show (txV A n c A2 n2 c2 (fe : Int) (xpn : Int))[0]? = some (.slice A n c) from rfl)
 have HT1 := kp (show (txV A n c A2 n2 c2 (fe : Int) (xpn : Int))[1]? = some (.slice A2 n2 c2) from rfl)
 have HT2 := kp (show (txV A n c A2 n2 c2 (fe : Int) (xpn : Int))[2]? = some (.int .u64 (fe : Int)) from rfl)
 have HT3 := kp (show (txV A n c A2 n2 c2 (fe : Int) (xpn : Int))[3]? = some (.int .i64 (xpn : Int)) from rfl)
 have HPT := kp (show putTB ⟨l.map Prod.snd, os, (fe : Int), (xpn : Int)⟩ = numB n ++ (l.map Prod.snd).flatMap putI ++ numB n2 ++ os.flatMap putO ++ numB fe ++ numB xpn by
  unfold putTB
  rw [List.length_map, hi.2.2.1, ho.2.2.1]
  rfl)
 obtain ⟨out, hout⟩ : ∃ q, q = putTB ⟨l.map Prod.snd, os, (fe : Int), (xpn : Int)⟩ := ⟨_, rfl⟩
 rw [← hout] at HPT ⊢
 obtain ⟨ins, hins⟩ : ∃ q, q = l.map Prod.snd := ⟨_, rfl⟩
 have HINS := kp hins
 rw [← hins] at HPT
 obtain ⟨tv, htv⟩ : ∃ q, q = txV A n c A2 n2 c2 (fe : Int) (xpn : Int) := ⟨_, rfl⟩
 rw [← htv] at HTC HT0 HT1 HT2 HT3 ⊢
 have HIL2 := kp (show ins.length = n by rw [hins, List.length_map]; exact hi.2.2.1)
 have HOL2 := kp ho.2.2.1
 clear hi ho hf hex hil hfe2 hxe2 hout hins htv
 obtain ⟨w_, hw⟩ : ∃ x, x = w := ⟨_, rfl⟩
 have HB := kp (show Below w.heap.size w w_ by rw [hw]; exact Below.refl _ _)
 suffices H : Calls Tryz.prog 55 #[.agg tv.toArray] w_ fun e w' => ∃ A' c', e = .returned (.slice A' out.length c') ∧ Sl w' w'.heap.size 1 A' out.length (out.map B) ∧ out.length ≤ c' ∧ Grow w w' by rw [hw] at H; exact H
 clear hw
 go_enter Tryz.func55, Tryz.ntmps55
 go_wp2_with (first | (with_reducible refine wpl_box (o := ⟨some 1, _, _, _, _, _⟩) rfl rfl rfl ?_))
 intro w2_ hb2_ hb_ hsz2_
 have HX_ := kp (at_mk hb2_ HTC.out.len)
 clear hb2_ hsz2_
 have HG_ := kp HB.out.size
 replace HB := kp (HB.out.grow' hb_)
 generalize hg_ : w_.heap.size = g1 at HX_ HG_ ⊢
 clear hg_
 have HX_g := HG_
 clear HG_
 have HX := HX_
 clear hb_ HX_
 try clear w_
 rename World => w_
 have HI6 := kp (HI.out.grow HB.out); have HO6 := kp (HO.out.grow HB.out)
 have HB6 := kp HB.out
 obtain ⟨w6, hw6⟩ : ∃ x, x = w_ := ⟨_, rfl⟩
 have HG := kp (show Grow w6 w_ by rw [hw6]; exact Grow.refl _)
 rw [← hw6] at HI6 HO6 HB6 HX
 obtain ⟨Z, hZ⟩ : ∃ q, q = w6.heap.size := ⟨_, rfl⟩
 have HZ := kp hZ
 clear hZ hw6 HB HI HO
 obtain ⟨mn, hmn⟩ : ∃ q, q = (numB n).length := ⟨_, rfl⟩
 have lmn : mn ≤ 9 := by rw [hmn]; exact numB_le (by omega)
 obtain ⟨mo, hmo⟩ : ∃ q, q = (numB n2).length := ⟨_, rfl⟩
 have lmo : mo ≤ 9 := by rw [hmo]; exact numB_le (by omega)
 obtain ⟨mf, hmf⟩ : ∃ q, q = (numB fe).length := ⟨_, rfl⟩
 have lmf : mf ≤ 9 := by rw [hmf]; exact numB_le (by omega)
 obtain ⟨mx, hmx⟩ : ∃ q, q = (numB xpn).length := ⟨_, rfl⟩
 have lmx : mx ≤ 9 := by rw [hmx]; exact numB_le (by omega)
 have HRN := kp (fun w => rnum_any n w (by omega)); have HRO := kp (fun w => rnum_any n2 w (by omega)); have HRF := kp (fun w => rnum_any fe w (by omega)); have HRX := kp (fun w => rnum_any xpn w (by omega))
 rw [← hmn] at HRN; rw [← hmo] at HRO; rw [← hmf] at HRF; rw [← hmx] at HRX
 clear hmn hmo hmf hmx
 have c0 := (HX.out.grow HG.out).blk.at_ HT0.out
 have q1 := conv_u64' (n := n) (by omega)
 go_wp2_with fail
 refine (HRN.out _).mono ?_
 rintro e w2_ ⟨A7, c7, rfl, ho_, hc_, hb_⟩
 have HW := kp (show OwnAt w2_ Z A7 mn c7 ((numB n).map B) from own_base ho_ (by rw [HZ.out]; exact HG.out.size))
 replace HG := kp (HG.out.grow' hb_)
 clear ho_ hc_ hb_ q1 c0
 try clear w_
 rename World => w_
 have HK1 := kp (show numB n = numB n ++ (ins.take 0).flatMap putI by simp)
 go_upto_block 0 with fail
 go_cut [3] from 7 (fun s3 wr => ∃ A3 m c3, s3 = .slice A3 m c3 ∧ m ≤ 9 + 16 * 130 ∧ Hid (OwnAt wr Z A3 m c3 ((numB n ++ ins.flatMap putI).map B) ∧ Grow w6 wr))
 case first =>
  go_wp2_with fail
  go_loopw [3, 4] (fun s3 iv wr => ∃ k : Nat, ∃ A3 m c3 acc, k ≤ n ∧ iv = .int .i64 k ∧ s3 = .slice A3 m c3 ∧ m ≤ 9 + k * 130 ∧ Hid (OwnAt wr Z A3 m c3 (acc.map B) ∧ acc = numB n ++ (ins.take k).flatMap putI ∧ Grow w6 wr)) (fun _ iv _ => n - (intOf iv).toNat)
  case atStart => exact ⟨0, A7, mn, c7, numB n, by omega, rfl, rfl, by omega, kp ⟨HW.out, HK1.out, HG.out⟩⟩
  case round =>
   obtain ⟨k, A3, m, c3, acc, hk, rfl, rfl, hm, hI⟩ := hrel
   clear HW HG HK1
   have HW := kp hI.out.1; have HAC := kp hI.out.2.1; have HG := kp hI.out.2.2
   clear hI
   rename World => w_
   by_cases hlt : k < n
   ·obtain ⟨b, off, p, rfl, hp, hok, hc⟩ := HI6.out.at_ hlt
    have HIP := kp (HIL.out p (List.mem_of_getElem? hp))
    have HSN := kp (flat_snoc putI (l := ins) (k := k) (p := p.2) (by rw [HINS.out, List.getElem?_map, hp]; rfl))
    obtain ⟨⟨As, cs, es, hsc, hss⟩, hio⟩ := hok
    obtain ⟨ix, hix, hixl, hix2⟩ := nat_in (m := 15) HIP.out.2.1 HIP.out.2.2
    obtain ⟨am, ham, haml, ham2⟩ := nat_ofU hio.2.2
    obtain ⟨sl, hsl⟩ : ∃ q, q = p.2.secret.length := ⟨_, rfl⟩
    obtain ⟨sc, hsec⟩ : ∃ q, q = p.2.secret := ⟨_, rfl⟩
    obtain ⟨tx, htx⟩ : ∃ q, q = p.2.tx := ⟨_, rfl⟩
    have HPI := kp (show putI p.2 = tx ++ numB ix ++ numB am ++ numB sl ++ sc by unfold putI; rw [hix2, ham2, ← hsl, ← hsec, ← htx])
    have hsl64 : sl ≤ 64 := by rw [hsl]; exact HIP.out.1
    have HDT := kp (show Dig (tx.map B) tx from ⟨rfl, by rw [htx]; exact hio.1⟩)
    have HC := kp (show ∀ j u, (inV p.1 p.2)[j]? = some u → w_.cell? ⟨b, off + k * 35 + j, none⟩ = some u from fun j u hu => bcell HG.out (hc j u hu))
    have HPC := kp (show Cl 35 (inV p.1 p.2) from inV_cl (w := w6) (Bd := w6.heap.size) ⟨⟨As, cs, es, hsc, hss⟩, hio⟩)
    have HE32 := kp (show (inV p.1 p.2)[32]? = some (.int .i64 (ix : Int)) by rw [(in_at hio).1, hix])
    have HE33 := kp (show (inV p.1 p.2)[33]? = some (.int .u64 (am : Int)) by rw [(in_at hio).2.1, ham])
    have HE34 := kp (show (inV p.1 p.2)[34]? = some (.slice As sl cs) by rw [(in_at hio).2.2, es, hsl])
    have HET := kp (show ∀ j u, (tx.map B)[j]? = some u → (inV p.1 p.2)[0 + j]? = some u from fun j u hu => by rw [Nat.zero_add]; unfold inV; rw [← htx, List.getElem?_append_left (List.getElem?_eq_some_iff.1 hu).1]; exact hu)
    have HSS := kp (show Sl w6 w6.heap.size 1 As sl (sc.map B) by rw [hsl, hsec]; exact hss)
    obtain ⟨pv, hpv⟩ : ∃ q, q = inV p.1 p.2 := ⟨_, rfl⟩
    rw [← hpv] at HC HPC HE32 HE33 HE34 HET
    obtain ⟨tb, htb⟩ : ∃ q, q = tx.map B := ⟨_, rfl⟩
    have HTB := kp htb
    rw [← htb] at HDT HET
    obtain ⟨mi, hmi⟩ : ∃ q, q = (numB ix).length := ⟨_, rfl⟩
    have lmi : mi ≤ 9 := by rw [hmi]; exact numB_le (by omega)
    obtain ⟨ma, hma⟩ : ∃ q, q = (numB am).length := ⟨_, rfl⟩
    have lma : ma ≤ 9 := by rw [hma]; exact numB_le (by omega)
    obtain ⟨ms, hms⟩ : ∃ q, q = (numB sl).length := ⟨_, rfl⟩
    have lms : ms ≤ 9 := by rw [hms]; exact numB_le (by omega)
    have HRI := kp (fun w => rnum_any ix w (by omega)); have HRA := kp (fun w => rnum_any am w (by omega)); have HRS := kp (fun w => rnum_any sl w (by omega))
    rw [← hmi] at HRI; rw [← hma] at HRA; rw [← hms] at HRS
    clear hmi hma hms hp hc es hsc hss hio hix hix2 ham ham2 hsl hsec htx hpv htb
    have HB := kp (show Below w6.heap.size w6 w_ from HG.out)
    have c0 := (HX.out.grow HG.out).blk.at_ HT0.out
    clear HG
    go_wp2_with (first | (with_reducible refine wlm 23 row_tin HC.out HPC.out.len ?_) | (with_reducible refine wpl_alloc (o := ⟨some 5, _, _, _, _, _⟩) rfl rfl zero_tin ?_))
    intro w1_ hb1_ hbw1_ hsz1_
    have HB1_ := kp (at_mk hb1_ len_tin)
    have HBW1_ := kp hbw1_
    have HZ1_ := kp hsz1_
    clear hb1_ hbw1_ hsz1_
    go_wp2_with (with_reducible refine wsb row_tin HB1_.out.blk HB1_.out.len HPC.out.len HPC.out.one ?_)
    intro w2_ hb2_ hg2_ hsz2_
    have hb_ := var_grow HBW1_.out HZ1_.out hg2_
    have HX_ := kp (at_mk hb2_ HPC.out.len)
    clear hb2_ hg2_ hsz2_ HB1_ HBW1_ HZ1_
    replace HB := kp (HB.out.grow' hb_)
    replace HW := kp (HW.out.grow hb_)
    generalize hg_ : w_.heap.size = g5 at HX_ ⊢
    clear hg_
    have HE := HX_
    clear hb_ HX_
    clear w1_
    try clear w_
    rename World => w_
    have HG := kp (show Grow w6 w_ from HB.out)
    clear HB HC c0
    have hmb : m ≤ 2090 := by omega
    have HMT := kp (show ∀ j u, tb[j]? = some u → w_.cell? ⟨g5, 0 + j, none⟩ = some u from fun j u hu => HE.out.blk.at_ (HET.out j u hu))
    go_wp2_with (with_reducible refine wlm 27 row_id HMT.out HDT.out.len ?_)
    clear HMT
    go_wp2_with fail
    refine (tbytes_any HDT.out _).mono ?_
    rintro e w2_ ⟨A7, c7, rfl, hs_, hc_, hb_⟩
    have HSL := kp hs_
    clear hs_ hc_
    replace HG := kp (HG.out.grow' hb_)
    replace HW := kp (HW.out.grow hb_)
    replace HE := kp (HE.out.grow hb_)
    clear hb_
    try clear w_
    rename World => w_
    have HZB := kp (show Z ≤ w_.heap.size by rw [HZ.out]; exact HG.out.size)
    have HALL := kp (all_bytes (tx))
    go_wp2_with (at_builtin; refine wpl_apps rfl rfl el_u8 HW.out rfl HSL.out rfl HALL.out (by omega) (by omega) HZB.out ?_)
    intro A8 c8 w3_ ho_ hg_ hA_
    have hst := acc_put HG.out HZ.out HW.out ho_ hg_
    have HE_ := kp (at_mk (HE.out.blk.grown hg_ (fun e => own_neT HW.out HE.out.blk (by decide) _ e.symm rfl)) HE.out.len)
    obtain ⟨m2, hm2⟩ : ∃ q, q = m + 32 := ⟨_, rfl⟩
    obtain ⟨a2, ha2⟩ : ∃ q, q = acc ++ tx := ⟨_, rfl⟩
    have hb2 : m2 ≤ m + 32 := by omega
    rw [← hm2, ← ha2] at hst
    rw [← hm2]
    have HK2 := kp ha2
    clear ho_ hg_ hA_ HW HG HSL HZB HALL
    have HW := kp hst.1; have HG := kp hst.2
    clear hst hm2 ha2
    clear HE
    have HE := HE_
    clear HE_
    try clear w_
    rename World => w_
    have c1 := HE.out.blk.at_ HE32.out
    have q1 := conv_u64' (n := ix) (by omega)
    go_wp2_with fail
    refine (HRI.out _).mono ?_
    rintro e w2_ ⟨A7, c7, rfl, ho_, hc_, hb_⟩
    have HSL := kp (Sl.of_own ho_)
    clear ho_ hc_
    replace HG := kp (HG.out.grow' hb_)
    replace HW := kp (HW.out.grow hb_)
    replace HE := kp (HE.out.grow hb_)
    clear hb_
    try clear w_
    rename World => w_
    clear c1 q1
    have HZB := kp (show Z ≤ w_.heap.size by rw [HZ.out]; exact HG.out.size)
    have HALL := kp (all_bytes (numB ix))
    go_wp2_with (at_builtin; refine wpl_apps rfl rfl el_u8 HW.out rfl HSL.out rfl HALL.out (by omega) (by omega) HZB.out ?_)
    intro A8 c8 w3_ ho_ hg_ hA_
    have hst := acc_put HG.out HZ.out HW.out ho_ hg_
    have HE_ := kp (at_mk (HE.out.blk.grown hg_ (fun e => own_neT HW.out HE.out.blk (by decide) _ e.symm rfl)) HE.out.len)
    obtain ⟨m3, hm3⟩ : ∃ q, q = m2 + mi := ⟨_, rfl⟩
    obtain ⟨a3, ha3⟩ : ∃ q, q = a2 ++ numB ix := ⟨_, rfl⟩
    have hb3 : m3 ≤ m + 41 := by omega
    rw [← hm3, ← ha3] at hst
    rw [← hm3]
    have HK3 := kp ha3
    clear ho_ hg_ hA_ HW HG HSL HZB HALL
    have HW := kp hst.1; have HG := kp hst.2
    clear hst hm3 ha3
    clear HE
    have HE := HE_
    clear HE_
    try clear w_
    rename World => w_
    have c1 := HE.out.blk.at_ HE33.out
    go_wp2_with fail
    refine (HRA.out _).mono ?_
    rintro e w2_ ⟨A7, c7, rfl, ho_, hc_, hb_⟩
    have HSL := kp (Sl.of_own ho_)
    clear ho_ hc_
    replace HG := kp (HG.out.grow' hb_)
    replace HW := kp (HW.out.grow hb_)
    replace HE := kp (HE.out.grow hb_)
    clear hb_
    try clear w_
    rename World => w_
    clear c1
    have HZB := kp (show Z ≤ w_.heap.size by rw [HZ.out]; exact HG.out.size)
    have HALL := kp (all_bytes (numB am))
    go_wp2_with (at_builtin; refine wpl_apps rfl rfl el_u8 HW.out rfl HSL.out rfl HALL.out (by omega) (by omega) HZB.out ?_)
    intro A8 c8 w3_ ho_ hg_ hA_
    have hst := acc_put HG.out HZ.out HW.out ho_ hg_
    have HE_ := kp (at_mk (HE.out.blk.grown hg_ (fun e => own_neT HW.out HE.out.blk (by decide) _ e.symm rfl)) HE.out.len)
    obtain ⟨m4, hm4⟩ : ∃ q, q = m3 + ma := ⟨_, rfl⟩
    obtain ⟨a4, ha4⟩ : ∃ q, q = a3 ++ numB am := ⟨_, rfl⟩
    have hb4 : m4 ≤ m + 50 := by omega
    rw [← hm4, ← ha4] at hst
    rw [← hm4]
    have HK4 := kp ha4
    clear ho_ hg_ hA_ HW HG HSL HZB HALL
    have HW := kp hst.1; have HG := kp hst.2
    clear hst hm4 ha4
    clear HE
    have HE := HE_
    clear HE_
    try clear w_
    rename World => w_
    have c1 := HE.out.blk.at_ HE34.out
    have q1 := conv_u64' (n := sl) (by omega)
    go_wp2_with fail
    refine (HRS.out _).mono ?_
    rintro e w2_ ⟨A7, c7, rfl, ho_, hc_, hb_⟩
    have HSL := kp (Sl.of_own ho_)
    clear ho_ hc_
    replace HG := kp (HG.out.grow' hb_)
    replace HW := kp (HW.out.grow hb_)
    replace HE := kp (HE.out.grow hb_)
    clear hb_
    try clear w_
    rename World => w_
    clear c1 q1
    have HZB := kp (show Z ≤ w_.heap.size by rw [HZ.out]; exact HG.out.size)
    have HALL := kp (all_bytes (numB sl))
    go_wp2_with (at_builtin; refine wpl_apps rfl rfl el_u8 HW.out rfl HSL.out rfl HALL.out (by omega) (by omega) HZB.out ?_)
    intro A8 c8 w3_ ho_ hg_ hA_
    have hst := acc_put HG.out HZ.out HW.out ho_ hg_
    have HE_ := kp (at_mk (HE.out.blk.grown hg_ (fun e => own_neT HW.out HE.out.blk (by decide) _ e.symm rfl)) HE.out.len)
    obtain ⟨m5, hm5⟩ : ∃ q, q = m4 + ms := ⟨_, rfl⟩
    obtain ⟨a5, ha5⟩ : ∃ q, q = a4 ++ numB sl := ⟨_, rfl⟩
    have hb5 : m5 ≤ m + 59 := by omega
    rw [← hm5, ← ha5] at hst
    rw [← hm5]
    have HK5 := kp ha5
    clear ho_ hg_ hA_ HW HG HSL HZB HALL
    have HW := kp hst.1; have HG := kp hst.2
    clear hst hm5 ha5
    clear HE
    have HE := HE_
    clear HE_
    try clear w_
    rename World => w_
    have c1 := HE.out.blk.at_ HE34.out
    have HSL := kp (HSS.out.grow HG.out)
    have HZB := kp (show Z ≤ w_.heap.size by rw [HZ.out]; exact HG.out.size)
    have HALL := kp (all_bytes sc)
    have v1 : IntKind.i64.wrap ((k : Int) + 1) = (k : Int) + 1 := IntWalk.i64_in _ (by omega)
    go_wp2_with (at_builtin; refine wpl_apps rfl rfl el_u8 HW.out rfl HSL.out rfl HALL.out (by clear v1; omega) (by clear v1; omega) HZB.out ?_)
    intro A8 c8 w3_ ho_ hg_ hA_
    have hst := acc_put HG.out HZ.out HW.out ho_ hg_
    have HAN := kp (show a5 ++ sc = numB n ++ (ins.take (k + 1)).flatMap putI by rw [HSN.out, HPI.out, HK5.out, HK4.out, HK3.out, HK2.out, HAC.out]; simp only [List.append_assoc])
    have HREL := kp (show OwnAt w3_ Z A8 (m5 + sl) c8 ((a5 ++ sc).map B) ∧ a5 ++ sc = numB n ++ (ins.take (k + 1)).flatMap putI ∧ Grow w6 w3_ from ⟨hst.1, HAN.out, hst.2⟩)
    clear ho_ hg_ hA_ hst HW HG HSL HZB HALL HE c1
    have HBD := kp (show m5 + sl ≤ 9 + (k + 1) * 130 by clear v1; omega)
    go_wp2_with fail
    go_roundw
    all_goals clear v1
    case rel => exact ⟨k + 1, A8, m5 + sl, c8, a5 ++ sc, by omega, by go_num, by first | rfl | simp, HBD.out, HREL⟩
    case measure => simp [intOf]; omega
   ·obtain rfl : k = n := by omega
    have HWN := kp (show OwnAt w_ Z A3 m c3 ((numB k ++ ins.flatMap putI).map B) by have h := HW.out; rw [HAC.out, List.take_of_length_le (by rw [HIL2.out]; exact Nat.le_refl _)] at h; exact h)
    have c0 := (HX.out.grow HG.out).blk.at_ HT0.out
    go_wp2_with fail
    go_meet
    case rel => exact ⟨A3, m, c3, rfl, by omega, kp ⟨HWN.out, HG.out⟩⟩
 case rest =>
  obtain ⟨A3, m, c3, rfl, hm, hI⟩ := hcut
  clear HW HG HK1
  have HW := kp hI.out.1; have HG := kp hI.out.2
  clear hI
  try clear w_
  rename World => w_
  obtain ⟨acc, hacc⟩ : ∃ q, q = numB n ++ ins.flatMap putI := ⟨_, rfl⟩
  have HAC := kp hacc
  rw [← hacc] at HW
  clear hacc
  have hm0 : m ≤ 2089 := by omega
  have c1 := (HX.out.grow HG.out).blk.at_ HT1.out
  have q1 := conv_u64' (n := n2) (by omega)
  go_wp2_with fail
  refine (HRO.out _).mono ?_
  rintro e w2_ ⟨A7, c7, rfl, ho_, hc_, hb_⟩
  have HSL := kp (Sl.of_own ho_)
  clear ho_ hc_
  replace HG := kp (HG.out.grow' hb_)
  replace HW := kp (HW.out.grow hb_)
  clear hb_
  try clear w_
  rename World => w_
  clear c1 q1
  have HZB := kp (show Z ≤ w_.heap.size by rw [HZ.out]; exact HG.out.size)
  have HALL := kp (all_bytes (numB n2))
  go_wp2_with (at_builtin; refine wpl_apps rfl rfl el_u8 HW.out rfl HSL.out rfl HALL.out (by omega) (by omega) HZB.out ?_)
  intro A8 c8 w3_ ho_ hg_ hA_
  have hst := acc_put HG.out HZ.out HW.out ho_ hg_
  obtain ⟨m6, hm6⟩ : ∃ q, q = m + mo := ⟨_, rfl⟩
  obtain ⟨a6, ha6⟩ : ∃ q, q = acc ++ numB n2 := ⟨_, rfl⟩
  have hb6 : m6 ≤ 2098 := by omega
  rw [← hm6, ← ha6] at hst
  rw [← hm6]
  have HK6 := kp ha6
  clear ho_ hg_ hA_ HW HG HSL HZB HALL
  have HW := kp hst.1; have HG := kp hst.2
  clear hst hm6 ha6
  try clear w_
  rename World => w_
  have c1 := (HX.out.grow HG.out).blk.at_ HT1.out
  have HZ2 := kp (show a6 = a6 ++ (os.take 0).flatMap putO by simp)
  go_wp2_with fail
  go_loopw [3, 6] (fun s3 iv wr => ∃ k : Nat, ∃ A3 mm c3 ac, k ≤ n2 ∧ iv = .int .i64 k ∧ s3 = .slice A3 mm c3 ∧ mm ≤ 2098 + k * 41 ∧ Hid (OwnAt wr Z A3 mm c3 (ac.map B) ∧ ac = a6 ++ (os.take k).flatMap putO ∧ Grow w6 wr)) (fun _ iv _ => n2 - (intOf iv).toNat)
  case atStart => exact ⟨0, _, _, _, a6, by omega, rfl, rfl, by omega, kp ⟨HW.out, HZ2.out, HG.out⟩⟩
  case round =>
   obtain ⟨k, A3, mm, c3, ac, hk, rfl, rfl, hmm, hI⟩ := hrel
   clear HW HG HZ2 c1
   have HW := kp hI.out.1; have HAQ := kp hI.out.2.1; have HG := kp hI.out.2.2
   clear hI
   rename World => w_
   have c1 := (HX.out.grow HG.out).blk.at_ HT1.out
   by_cases hlt : k < n2
   ·obtain ⟨b, off, p, rfl, hp, hok, hc⟩ := HO6.out.at_ hlt
    have HSN := kp (flat_snoc putO hp)
    obtain ⟨am, ham, haml, ham2⟩ := nat_ofU hok.2
    obtain ⟨ow, how⟩ : ∃ q, q = p.owner := ⟨_, rfl⟩
    have HPI := kp (show putO p = ow ++ numB am by unfold putO; rw [ham2, ← how])
    have HDT := kp (show Dig (ow.map B) ow from ⟨rfl, by rw [how]; exact hok.1⟩)
    have hw33 := hc 32 _ (out_at hok)
    rw [ham] at hw33
    have HW33 := kp hw33
    have HMT := kp (show ∀ j u, (ow.map B)[j]? = some u → w_.cell? ⟨b, off + k * 33 + j, none⟩ = some u from fun j u hu => bcell HG.out (hc j u (by unfold outV; rw [← how, List.getElem?_append_left (List.getElem?_eq_some_iff.1 hu).1]; exact hu)))
    obtain ⟨tb, htb⟩ : ∃ q, q = ow.map B := ⟨_, rfl⟩
    rw [← htb] at HDT HMT
    obtain ⟨ma, hma⟩ : ∃ q, q = (numB am).length := ⟨_, rfl⟩
    have lma : ma ≤ 9 := by rw [hma]; exact numB_le (by omega)
    have HRA := kp (fun w => rnum_any am w (by omega))
    rw [← hma] at HRA
    have hmb : mm ≤ 2754 := by omega
    clear hma hp hc hok hw33 ham ham2 how htb
    go_wp2_with (with_reducible refine wlm 73 row_id HMT.out HDT.out.len ?_)
    clear HMT
    go_wp2_with fail
    refine (tbytes_any HDT.out _).mono ?_
    rintro e w2_ ⟨A7, c7, rfl, hs_, hc_, hb_⟩
    have HSL := kp hs_
    clear hs_ hc_
    replace HG := kp (HG.out.grow' hb_)
    replace HW := kp (HW.out.grow hb_)
    clear hb_
    try clear w_
    rename World => w_
    clear c1
    have HZB := kp (show Z ≤ w_.heap.size by rw [HZ.out]; exact HG.out.size)
    have HALL := kp (all_bytes (ow))
    go_wp2_with (at_builtin; refine wpl_apps rfl rfl el_u8 HW.out rfl HSL.out rfl HALL.out (by omega) (by omega) HZB.out ?_)
    intro A8 c8 w3_ ho_ hg_ hA_
    have hst := acc_put HG.out HZ.out HW.out ho_ hg_
    obtain ⟨m7, hm7⟩ : ∃ q, q = mm + 32 := ⟨_, rfl⟩
    obtain ⟨a7, ha7⟩ : ∃ q, q = ac ++ ow := ⟨_, rfl⟩
    have hb7 : m7 ≤ mm + 32 := by omega
    rw [← hm7, ← ha7] at hst
    rw [← hm7]
    have HK7 := kp ha7
    clear ho_ hg_ hA_ HW HG HSL HZB HALL
    have HW := kp hst.1; have HG := kp hst.2
    clear hst hm7 ha7
    try clear w_
    rename World => w_
    have c1 := (HX.out.grow HG.out).blk.at_ HT1.out
    have c33 := bcell HG.out HW33.out
    go_wp2_with fail
    refine (HRA.out _).mono ?_
    rintro e w2_ ⟨A7, c7, rfl, ho_, hc_, hb_⟩
    have HSL := kp (Sl.of_own ho_)
    clear ho_ hc_
    replace HG := kp (HG.out.grow' hb_)
    replace HW := kp (HW.out.grow hb_)
    clear hb_
    try clear w_
    rename World => w_
    clear c1 c33
    have HZB := kp (show Z ≤ w_.heap.size by rw [HZ.out]; exact HG.out.size)
    have HALL := kp (all_bytes (numB am))
    have c1 := (HX.out.grow HG.out).blk.at_ HT1.out
    go_wp2_with (at_builtin; refine wpl_apps rfl rfl el_u8 HW.out rfl HSL.out rfl HALL.out (by omega) (by omega) HZB.out ?_)
    intro A8 c8 w3_ ho_ hg_ hA_
    have hst := acc_put HG.out HZ.out HW.out ho_ hg_
    have HAN := kp (show a7 ++ numB am = a6 ++ (os.take (k + 1)).flatMap putO by rw [HSN.out, HPI.out, HK7.out, HAQ.out]; simp only [List.append_assoc])
    have HREL := kp (show OwnAt w3_ Z A8 (m7 + ma) c8 ((a7 ++ numB am).map B) ∧ a7 ++ numB am = a6 ++ (os.take (k + 1)).flatMap putO ∧ Grow w6 w3_ from ⟨hst.1, HAN.out, hst.2⟩)
    have HBD := kp (show m7 + ma ≤ 2098 + (k + 1) * 41 by omega)
    have HG3 := kp hst.2
    clear ho_ hg_ hA_ hst HW HG HSL HZB HALL c1
    have c1 := (HX.out.grow HG3.out).blk.at_ HT1.out
    have v1 : IntKind.i64.wrap ((k : Int) + 1) = (k : Int) + 1 := IntWalk.i64_in _ (by omega)
    go_wp2_with fail
    go_roundw
    all_goals clear v1
    case rel => exact ⟨k + 1, A8, m7 + ma, c8, a7 ++ numB am, by omega, by go_num, by first | rfl | simp, HBD.out, HREL⟩
    case measure => simp [intOf]; omega
   ·obtain rfl : k = n2 := by omega
    have HAE := kp (show ac = a6 ++ os.flatMap putO by have h := HAQ.out; rw [List.take_of_length_le (by rw [HOL2.out]; exact Nat.le_refl _)] at h; exact h)
    have hmb : mm ≤ 2754 := by omega
    have c2 := (HX.out.grow HG.out).blk.at_ HT2.out
    go_wp2_with fail
    refine (HRF.out _).mono ?_
    rintro e w2_ ⟨A7, c7, rfl, ho_, hc_, hb_⟩
    have HSL := kp (Sl.of_own ho_)
    clear ho_ hc_
    replace HG := kp (HG.out.grow' hb_)
    replace HW := kp (HW.out.grow hb_)
    clear hb_
    try clear w_
    rename World => w_
    clear c1 c2
    have HZB := kp (show Z ≤ w_.heap.size by rw [HZ.out]; exact HG.out.size)
    have HALL := kp (all_bytes (numB fe))
    go_wp2_with (at_builtin; refine wpl_apps rfl rfl el_u8 HW.out rfl HSL.out rfl HALL.out (by omega) (by omega) HZB.out ?_)
    intro A8 c8 w3_ ho_ hg_ hA_
    have hst := acc_put HG.out HZ.out HW.out ho_ hg_
    obtain ⟨m8, hm8⟩ : ∃ q, q = mm + mf := ⟨_, rfl⟩
    obtain ⟨a8, ha8⟩ : ∃ q, q = ac ++ numB fe := ⟨_, rfl⟩
    have hb8 : m8 ≤ 2763 := by omega
    rw [← hm8, ← ha8] at hst
    rw [← hm8]
    have HK8 := kp ha8
    clear ho_ hg_ hA_ HW HG HSL HZB HALL
    have HW := kp hst.1; have HG := kp hst.2
    clear hst hm8 ha8
    try clear w_
    rename World => w_
    have c3 := (HX.out.grow HG.out).blk.at_ HT3.out
    have q1 := conv_u64' (n := xpn) (by omega)
    go_wp2_with fail
    refine (HRX.out _).mono ?_
    rintro e w2_ ⟨A7, c7, rfl, ho_, hc_, hb_⟩
    have HSL := kp (Sl.of_own ho_)
    clear ho_ hc_
    replace HG := kp (HG.out.grow' hb_)
    replace HW := kp (HW.out.grow hb_)
    clear hb_
    try clear w_
    rename World => w_
    clear c3 q1
    have HZB := kp (show Z ≤ w_.heap.size by rw [HZ.out]; exact HG.out.size)
    have HALL := kp (all_bytes (numB xpn))
    go_wp2_with (at_builtin; refine wpl_apps rfl rfl el_u8 HW.out rfl HSL.out rfl HALL.out (by omega) (by omega) HZB.out ?_)
    intro A8 c8 w3_ ho_ hg_ hA_
    have hst := acc_put HG.out HZ.out HW.out ho_ hg_
    obtain ⟨m9, hm9⟩ : ∃ q, q = m8 + mx := ⟨_, rfl⟩
    obtain ⟨a9, ha9⟩ : ∃ q, q = a8 ++ numB xpn := ⟨_, rfl⟩
    have hb9 : m9 ≤ 2772 := by omega
    rw [← hm9, ← ha9] at hst
    rw [← hm9]
    have HK9 := kp ha9
    clear ho_ hg_ hA_ HW HG HSL HZB HALL
    have HW := kp hst.1; have HG := kp hst.2
    clear hst hm9 ha9
    try clear w_
    rename World => w_
    have HLEN := kp (show a9.length = m9 by have := HW.out.1; simp at this; omega)
    have HEQ := kp (show out = a9 by rw [HPT.out, HK9.out, HK8.out, HAE.out, HK6.out, HAC.out])
    have HSF := kp (Sl.of_own HW.out)
    have HCF := kp (own_cap1 HW.out)
    go_wp2_with fail
    go_ret
    refine ⟨A8, _, by rw [HEQ.out, HLEN.out]; rfl, by rw [HEQ.out, HLEN.out]; exact HSF.out, by rw [HEQ.out, HLEN.out]; exact HCF.out, ?_⟩
    exact below_chain HB6.out HG.out
end Go.Proofs.YtnnjjbkdjkjnpaaGreatDoor

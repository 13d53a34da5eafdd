/- The contract of tx.Put; its row is its own. Turned out of XTxI. -/
import Derived.Test.YtiijepimkgaccaaGreatCommandLongRe23
set_option linter.unusedSimpArgs false
set_option linter.unusedVariables false
set_option maxRecDepth 100000
set_option maxHeartbeats 16000000
namespace Go.Proofs.YtiijepimkgaccaaGreat
open Go.RowKit Go.Shelf
theorem tputo_any {A : Option Addr} {n c : Nat} {A2 : Option Addr} {n2 c2 : Nat} {fee ex : Int} {l : List (Value × Inp)} {os : List Outp} (w : World) (hi : InsAt w A n c l) (ho : OutsAt w A2 n2 c2 os) (hn : n ≤ 100000) (hn2 : n2 ≤ 100000) (hf : U64 fee) (hex : I64 ex) :
  Calls Tryz.prog 22 #[.agg (txV A n c A2 n2 c2 fee ex).toArray] w fun e w' => ∃ A' c', e = .returned (.tuple #[.slice A' (tformB ⟨l.map Prod.snd, os, fee, ex⟩).length c', .int .i64 (checkT ⟨l.map Prod.snd, os, fee, ex⟩)]) ∧ OwnAt w' w.heap.size A' (tformB ⟨l.map Prod.snd, os, fee, ex⟩).length c' ((tformB ⟨l.map Prod.snd, os, fee, ex⟩).map B) ∧ (tformB ⟨l.map Prod.snd, os, fee, ex⟩).length ≤ c' ∧ Grow w w' := by
 have HI := kp hi; have HO := kp ho;have HTC := kp (txV_cl (A := A) (n := n) (c := c) (A2 := A2) (n2 := n2) (c2 := c2) (fee := fee) (ex := ex));have HT0 := kq ((txV A n c A2 n2 c2 fee ex)[0]? = some (.slice A n c)) rfl;have HT1 := kq ((txV A n c A2 n2 c2 fee ex)[1]? = some (.slice A2 n2 c2)) rfl;have HT2 := kq ((txV A n c A2 n2 c2 fee ex)[2]? = some (.int .u64 fee)) rfl;have HT3 := kq ((txV A n c A2 n2 c2 fee ex)[3]? = some (.int .i64 ex)) rfl;have HCK := kp (fun w hi ho => tcheck_any (A := A) (n := n) (c := c) (A2 := A2) (n2 := n2) (c2 := c2) (fee := fee) (ex := ex) (l := l) (os := os) w hi ho hn hn2 hf hex);have HF := kp hf; have HEX := kp hex;obtain ⟨t, ht⟩ := xe (Txn.mk (l.map Prod.snd) os fee ex);rw [← ht] at HCK ⊢;have HTE := kp ht;obtain ⟨ck, hck⟩ := xe (checkT t);have HCE := kp hck;rw [← hck] at HCK ⊢;obtain ⟨tf, htf⟩ := xe (tformB t);rw [← htf];have HFN := kq (ck ≠ 0 → tf = []) (fun h => by rw [htf]; unfold tformB; rw [if_neg (by rw [← hck]; exact h)]);have HFY := kq (ck = 0 → tf = putTB t) (fun h => by rw [htf]; unfold tformB; rw [if_pos (by rw [← hck]; exact h)])
 have HSH := kp (show ck = 0 → (1 ≤ n ∧ n ≤ 16 ∧ 1 ≤ n2 ∧ n2 ≤ 16 ∧ 0 ≤ ex ∧ ex ≤ 1099511627776) ∧ ∀ p ∈ l, p.2.secret.length ≤ 64 ∧ 0 ≤ p.2.index ∧ p.2.index ≤ 15 from fun h => by
  obtain ⟨h1, h2⟩ := short_of (t := t) (by rw [← hck]; exact h);unfold shortT at h1;rw [ht] at h1 h2;simp only [Bool.and_eq_true, inB_iff, List.length_map] at h1;have a := hi.2.2.1; have b := ho.2.2.1
  exact ⟨by omega, fun p hp => h2 _ (List.mem_map_of_mem hp)⟩)
 obtain ⟨tv, htv⟩ := xe (txV A n c A2 n2 c2 fee ex);rw [← htv] at HTC HT0 HT1 HT2 HT3 HCK ⊢;obtain ⟨w_, hw⟩ := xe w;have HB := kq (Below w.heap.size w w_) (by rw [hw]; exact Below.refl _ _)
 suffices H : Calls Tryz.prog 22 #[.agg tv.toArray] w_ fun e w' => ∃ A' c', e = .returned (.tuple #[.slice A' tf.length c', .int .i64 ck]) ∧ OwnAt w' w.heap.size A' tf.length c' (tf.map B) ∧ tf.length ≤ c' ∧ Grow w w' by rw [hw] at H; exact H
 clear hw hi ho ht hck htf htv hf hex
 go_enter Tryz.func22, Tryz.ntmps22
 go_wp2_with (with_reducible refine wbx 1 ?_);intro v_ b_ y_ hsz2_;have HX_ := kp (at_mk b_ HTC.o.len);clear b_ hsz2_;have HG_ := kp HB.o.size;replace HB := kp (HB.o.grow' y_);generalize hg_ : w_.heap.size = g1 at HX_ HG_ ⊢;clear hg_;have HX_g := HG_;clear HG_;have HX := HX_;clear y_ HX_;try clear w_
 rename World => w_;go_wp2_with (with_reducible refine wlb 10 row_tx HX.o.blk HX.o.len ?_);refine (HCK.o _ (HI.o.grow HB.o) (HO.o.grow HB.o)).mono ?_;rintro e w_ ⟨rfl, y_⟩;replace HB := kp (HB.o.grow' y_);replace HX := kp (HX.o.grow y_);clear y_;by_cases h0 : ck = 0
 ·obtain ⟨hsh, hel⟩ := HSH.o h0;have HEL := kp hel;have HSHT := kp hsh;have hn16 : n ≤ 16 := hsh.2.1;have hm16 : n2 ≤ 16 := hsh.2.2.2.1;obtain ⟨fn, hfn⟩ : ∃ q : Nat, fee = (q : Int) := ⟨fee.toNat, (Int.toNat_of_nonneg HF.o.1).symm⟩;obtain ⟨en, hen⟩ : ∃ q : Nat, ex = (q : Int) := ⟨ex.toNat, (Int.toNat_of_nonneg hsh.2.2.2.2.1).symm⟩;have HFU := kq (fn ≤ 18446744073709551615) (by have := HF.o.2; rw [hfn] at this; omega);have HEU := kq (en ≤ 1099511627776) (by have := hsh.2.2.2.2.2; rw [hen] at this; omega)
  have HPT := kp (show tf = numB n ++ (l.map Prod.snd).flatMap putI ++ numB n2 ++ os.flatMap putO ++ numB fn ++ numB en by
   rw [HFY.o h0, HTE.o]; unfold putTB; simp only [hfn, hen, Int.toNat_natCast, List.length_map]; rw [HI.o.2.2.1, HO.o.2.2.1])
  have HPI := kp (show ∀ x ∈ l.map Prod.snd, (putI x).length ≤ 130 from fun x hx => by
   obtain ⟨p, hp, rfl⟩ := List.mem_map.1 hx
   exact putI_len (HI.o.2.1 p hp).2 (hel p hp).1 (hel p hp).2)
  have HPO := kq (∀ x ∈ os, (putO x).length ≤ 50) (fun x hx => putO_len (HO.o.2.1 x hx));rw [hfn] at HT2;rw [hen] at HT3;clear hsh hel hfn hen;subst h0;go_wp2_with (with_reducible refine wal 5 zero_pen ?_);intro w4 hb4 hbw4 hsz4;obtain ⟨gp, hgp⟩ := xe w_.heap.size;have HG1 := kq (g1 < gp ∧ w.heap.size ≤ gp) (by have h1 := HX.o.lt; have h2 := HB.o.size; omega);have HX4 := kp (HX.o.grow hbw4);have HB4 := kp (HB.o.grow' hbw4);rw [← hgp] at hb4 hsz4 ⊢;have HP := kq (PenAt w4 (K0 gp) gp []) (PenAt.new hb4 (fun k hk => by unfold K0 at hk; omega));have HKB := kq (KB gp w4 w4) ⟨Below.refl _ _, by omega⟩;have HXB := kq (∀ w', KB gp w4 w' → At w' g1 26 4 tv) (fun w' h => ⟨HX4.o.blk.below h.1 HG1.o.1, HX4.o.len⟩);have HBB := kq (∀ w', KB gp w4 w' → Below w.heap.size w w') (fun w' h => HB4.o.trans (h.1.mono HG1.o.2));have HKP := kq (∀ (w' : World) (xs : List UInt8), KB gp w4 w' → PenAt w' (K0 gp) gp xs → PenAt w' (Kq gp g1) gp xs) (fun w' xs h hp => hp.plus (HXB.o _ h).blk (by decide) (by have := HG1.o.1; omega));clear hb4 hbw4 hsz4 hgp HX HB HX4;have qn := conv_u64' (n := n) (by omega);have c0 := (HXB.o _ HKB.o).blk.at_ HT0.o;go_wp2_with fail;refine (num_any gp n (Kq gp g1) [] _ (HKP.o _ _ HKB.o HP.o) (by simp) (by omega)).mono ?_;rintro e v_ ⟨rfl, hp_, hk_⟩;have HP_ := kp hp_.minus;have HKB_ := kp (HKB.o.kept hk_);clear hp_ hk_ HP HKB;have HP := HP_; have HKB := HKB_;clear HP_ HKB_;try clear w_
  rename World => w_;replace HP := kq (PenAt w_ (K0 gp) gp (numB n)) HP.o;clear c0 qn;have ln := numB_le (n := n) (by omega); have lm := numB_le (n := n2) (by omega);have c0 := (HXB.o _ HKB.o).blk.at_ HT0.o;obtain ⟨pre, hpre⟩ := xe (numB n);have HPR := kp hpre;have hprl : pre.length ≤ 9 := by rw [hpre]; exact ln
  rw [← hpre] at HP HPT;clear hpre ln;obtain ⟨ins, hins⟩ := xe (l.map Prod.snd);have HINS := kp hins;have HINL := kq (ins.length = n) (by rw [hins, List.length_map]; exact HI.o.2.2.1);rw [← hins] at HPT HPI;clear hins
  go_upto_block 0 with fail
  go_cut [] from 10 (fun wr => Hid (PenAt wr (K0 gp) gp (pre ++ ins.flatMap putI) ∧ KB gp w4 wr))
  case first =>
   go_wp2_with fail;go_loopw [23] (fun iv wr => ∃ k : Nat, k ≤ n ∧ iv = .int .i64 k ∧ Hid (PenAt wr (K0 gp) gp (pre ++ (ins.take k).flatMap putI) ∧ KB gp w4 wr)) (fun iv _ => n - (intOf iv).toNat)
   case atStart => exact ⟨0, by omega, rfl, kp ⟨by simpa using HP.o, HKB.o⟩⟩
   case round =>
    obtain ⟨k, hk, rfl, hI⟩ := hrel;clear HP HKB c0;have HP := kp hI.o.1; have HKB := kp hI.o.2;clear hI;rename World => w_;by_cases hlt : k < n
    ·obtain ⟨b, off, p, hA, hp, hok, hc⟩ := HI.o.at_ hlt;subst hA;have HBW := kp (HBB.o _ HKB.o);obtain ⟨hsl, hix0, hix1⟩ := HEL.o p (List.mem_of_getElem? hp);have HC := kq (∀ j u, (inV p.1 p.2)[j]? = some u → w_.cell? ⟨b, off + k * 35 + j, none⟩ = some u) (fun j u hu => bcell HBW.o (hc j u hu));have HPC := kp (inV_cl hok);have HSN := kp (fm_snoc putI (l := ins) (k := k) (p := p.2) (by rw [HINS.o, List.getElem?_map, hp]; rfl));obtain ⟨⟨A4, c4, e4, hc4, hs4⟩, hio⟩ := hok;have HS4 := kp hs4;have HFL := kp (fm_le putI 130 k HPI.o);have HA32 := kp (in_at (v := p.1) hio);have HDG := kp (dig_map hio.1)
     have HTX := kp (show ∀ (j : Nat) (u : Value), (p.2.tx.map B)[j]? = some u → (inV p.1 p.2)[0 + j]? = some u from fun j u hu => by
      rw [Nat.zero_add]; unfold inV; rw [List.getElem?_append_left (List.getElem?_eq_some_iff.1 hu).1]; exact hu)
     obtain ⟨pv, hpv⟩ := xe (inV p.1 p.2);rw [← hpv] at HC HPC HA32 HTX;rw [e4] at HA32;obtain ⟨xn, hxn⟩ : ∃ q : Nat, p.2.index = (q : Int) := ⟨p.2.index.toNat, (Int.toNat_of_nonneg hix0).symm⟩;obtain ⟨an, han⟩ : ∃ q : Nat, p.2.amount = (q : Int) := ⟨p.2.amount.toNat, (Int.toNat_of_nonneg hio.2.2.1).symm⟩;have HAU := kq (an ≤ 18446744073709551615) (by have := hio.2.2.2; rw [han] at this; omega);have hxb : xn ≤ 15 := by rw [hxn] at hix1; omega
     obtain ⟨sl, hsl2⟩ := xe p.2.secret.length;obtain ⟨tx, htx⟩ := xe p.2.tx;obtain ⟨sc, hsc⟩ := xe p.2.secret;have HPU := kq (putI p.2 = tx ++ numB xn ++ numB an ++ numB sl ++ sc) (by unfold putI; rw [hxn, han, ← htx, ← hsc, hsl2, hsc]; simp only [Int.toNat_natCast]);have htl : tx.length = 32 := by rw [htx]; exact hio.1
     have hslb : sl ≤ 64 := by rw [hsl2]; exact hsl
     rw [hxn, han, ← hsl2] at HA32;rw [← htx] at HTX HDG;rw [← hsl2, ← hsc] at HS4;obtain ⟨xs, hxs⟩ := xe (pre ++ (ins.take k).flatMap putI);have HXE := kp hxs;have hxl : xs.length ≤ 9 + 16 * 130 := by rw [hxs, List.length_append]; have := HFL.o; omega
     rw [← hxs] at HP;clear hp hc hsl hix0 hix1 e4 hc4 hs4 hio hpv hxn han hsl2 htx hsc hxs HFL HBW;have u1 := numB_le (n := xn) (by omega); have u2 := numB_le (n := an) HAU.o; have u3 := numB_le (n := sl) (by omega);have HB := kp (HBB.o _ HKB.o);go_wp2_with (with_reducible first | refine wlm 26 row_tin HC.o HPC.o.len ?_ | refine wal 7 zero_tin ?_);intro w1_ hb1_ hbw1_ hsz1_;have HB1_ := kp (at_mk hb1_ len_tin);have HBW1_ := kp hbw1_;have HZ1_ := kp hsz1_;clear hb1_ hbw1_ hsz1_;go_wp2_with (with_reducible refine wsb row_tin HB1_.o.blk HB1_.o.len HPC.o.len HPC.o.one ?_);intro v_ b_ g_ hsz2_;have y_ := var_grow HBW1_.o HZ1_.o g_;have HX_ := kp (at_mk b_ HPC.o.len);clear b_ g_ hsz2_ HB1_ HBW1_ HZ1_;replace HB := kp (HB.o.grow' y_);replace HP := kp (HP.o.grow y_);replace HKB := kp (HKB.o.grow y_);generalize hg_ : w_.heap.size = g7 at HX_ ⊢;clear hg_;have HE := HX_;clear y_ HX_;clear w1_;try clear w_
     rename World => w_;clear HB HC
     have HGQ := kp (show g7 ≠ gp from fun e => by
      obtain ⟨_, _, h1, _⟩ := HP.o;have h2 := HE.o.blk;rw [e] at h2;unfold Blk at h1 h2;rw [h1] at h2;injection h2 with h2
      injection h2 with _ h2
      exact absurd h2 (by decide))
     replace HP := kp (HP.o.plus HE.o.blk (by decide) HGQ.o);have HM := kq (∀ (j : Nat) (u : Value), (tx.map B)[j]? = some u → w_.cell? ⟨g7, 0 + j, none⟩ = some u) (fun j u hu => HE.o.blk.at_ (HTX.o j u hu));go_wp2_with (with_reducible refine wlm 29 row_id HM.o HDG.o.len ?_);clear HM;go_wp2_with fail;refine (pid_any gp (Kq gp g7) xs HDG.o _ HP.o (by omega)).mono ?_;rintro e v_ ⟨rfl, hp_, hk_⟩;have HP_ := kp hp_;have HKB_ := kp (HKB.o.kept hk_);have HE_ := kp (HE.o.kept hk_);clear hp_ hk_ HP HKB HE;have HP := HP_; have HKB := HKB_; have HE := HE_;clear HP_ HKB_ HE_;try clear w_
     rename World => w_;have c32 := HE.o.blk.at_ HA32.o.1;have q2 := conv_u64' (n := xn) (by omega);go_wp2_with fail;refine (num_any gp xn (Kq gp g7) (xs ++ tx) _ HP.o (by clear q2; rw [List.length_append]; omega) (by clear q2; omega)).mono ?_;rintro e v_ ⟨rfl, hp_, hk_⟩;have HP_ := kp hp_;have HKB_ := kp (HKB.o.kept hk_);have HE_ := kp (HE.o.kept hk_);clear hp_ hk_ HP HKB HE;have HP := HP_; have HKB := HKB_; have HE := HE_;clear HP_ HKB_ HE_;try clear w_
     rename World => w_;clear c32 q2;have c33 := HE.o.blk.at_ HA32.o.2.1;go_wp2_with fail;refine (num_any gp an (Kq gp g7) (xs ++ tx ++ numB xn) _ HP.o (by rw [List.length_append, List.length_append]; omega) HAU.o).mono ?_;rintro e v_ ⟨rfl, hp_, hk_⟩;have HP_ := kp hp_;have HKB_ := kp (HKB.o.kept hk_);have HE_ := kp (HE.o.kept hk_);clear hp_ hk_ HP HKB HE;have HP := HP_; have HKB := HKB_; have HE := HE_;clear HP_ HKB_ HE_;try clear w_
     rename World => w_;clear c33;have c34 := HE.o.blk.at_ HA32.o.2.2;have HS5 := kp (HS4.o.below (HBB.o _ HKB.o));go_wp2_with fail;refine (ptext_any gp (Kq gp g7) (xs ++ tx ++ numB xn ++ numB an) _ HP.o HS5.o (fun j hj => .inl (Nat.lt_of_lt_of_le hj HG1.o.2)) (by rw [List.length_append, List.length_append, List.length_append]; omega)).mono ?_;rintro e v_ ⟨rfl, hp_, hk_⟩;have HP_ := kp hp_.minus;have HKB_ := kp (HKB.o.kept hk_);clear hp_ hk_ HP HKB HE;have HP := HP_; have HKB := HKB_;clear HP_ HKB_;try clear w_
     rename World => w_;clear c34 HS5
     have HPN := kp (show PenAt w_ (K0 gp) gp (pre ++ (ins.take (k + 1)).flatMap putI) by
      rw [HSN.o, HPU.o, ← List.append_assoc, ← HXE.o];have h := HP.o;simp only [List.append_assoc] at h ⊢
      exact h)
     clear HP u1 u2 u3;go_wp2_with fail;go_roundw
     case rel => exact ⟨k + 1, by omega, by go_num, kp ⟨HPN.o, HKB.o⟩⟩
     case measure => simp [intOf]; omega
    ·obtain rfl : k = n := by omega
     have HP_ := kq (PenAt w_ (K0 gp) gp (pre ++ ins.flatMap putI)) (by have h := HP.o; rw [List.take_of_length_le (by rw [HINL.o]; exact Nat.le_refl _)] at h; exact h);go_wp2_with fail
     go_meet
     case rel => exact kp ⟨HP_.o, HKB.o⟩
  case rest =>
   clear HP HKB c0;have HP := kp hcut.o.1; have HKB := kp hcut.o.2;clear hcut;try clear w_
   rename World => w_;have HFL := kq ((ins.flatMap putI).length ≤ n * 130) (by have h := fm_len putI 130 ins HPI.o; rw [HINL.o] at h; exact h);obtain ⟨p1, hp1⟩ := xe (pre ++ ins.flatMap putI);have hp1l : p1.length ≤ 9 + 16 * 130 := by rw [hp1, List.length_append]; have := HFL.o; omega
   rw [← hp1] at HP HPT;clear hp1 HFL hprl;have c1 := (HXB.o _ HKB.o).blk.at_ HT1.o;have qm := conv_u64' (n := n2) (by omega);go_wp2_with fail;refine (num_any gp n2 (Kq gp g1) p1 _ (HKP.o _ _ HKB.o HP.o) (by clear qm; omega) (by clear qm; omega)).mono ?_;rintro e v_ ⟨rfl, hp_, hk_⟩;have HP_ := kp hp_.minus;have HKB_ := kp (HKB.o.kept hk_);clear hp_ hk_ HP HKB;have HP := HP_; have HKB := HKB_;clear HP_ HKB_;try clear w_
   rename World => w_;clear c1 qm;obtain ⟨p2, hp2⟩ := xe (p1 ++ numB n2);have hp2l : p2.length ≤ 18 + 16 * 130 := by rw [hp2, List.length_append]; omega
   rw [← hp2] at HP HPT;clear hp2 lm hp1l;have c1 := (HXB.o _ HKB.o).blk.at_ HT1.o
   go_upto_block 2 with fail
   go_cut [] from 10 (fun wr => Hid (PenAt wr (K0 gp) gp (p2 ++ os.flatMap putO) ∧ KB gp w4 wr))
   case first =>
    go_wp2_with fail;go_loopw [51] (fun iv wr => ∃ k : Nat, k ≤ n2 ∧ iv = .int .i64 k ∧ Hid (PenAt wr (K0 gp) gp (p2 ++ (os.take k).flatMap putO) ∧ KB gp w4 wr)) (fun iv _ => n2 - (intOf iv).toNat)
    case atStart => exact ⟨0, by omega, rfl, kp ⟨by simpa using HP.o, HKB.o⟩⟩
    case round =>
     obtain ⟨k, hk, rfl, hI⟩ := hrel;clear HP HKB c1;have HP := kp hI.o.1; have HKB := kp hI.o.2;clear hI;rename World => w_;by_cases hlt : k < n2
     ·obtain ⟨b, off, p, hA, hp, hok, hc⟩ := HO.o.at_ hlt;subst hA;have HB := kp (HBB.o _ HKB.o);have HC := kq (∀ j u, (outV p)[j]? = some u → w_.cell? ⟨b, off + k * 33 + j, none⟩ = some u) (fun j u hu => bcell HB.o (hc j u hu));have HPC := kp (outV_cl hok);have HSN := kp (fm_snoc putO hp);have HFL := kp (fm_le putO 50 k HPO.o);have HA32 := kp (out_at hok);have HDG := kp (dig_map hok.1)
      have HTX := kp (show ∀ (j : Nat) (u : Value), (p.owner.map B)[j]? = some u → (outV p)[0 + j]? = some u from fun j u hu => by
       rw [Nat.zero_add]; unfold outV; rw [List.getElem?_append_left (List.getElem?_eq_some_iff.1 hu).1]; exact hu)
      obtain ⟨pv, hpv⟩ := xe (outV p);rw [← hpv] at HC HPC HA32 HTX;obtain ⟨an, han⟩ : ∃ q : Nat, p.amount = (q : Int) := ⟨p.amount.toNat, (Int.toNat_of_nonneg hok.2.1).symm⟩;have HAU := kq (an ≤ 18446744073709551615) (by have := hok.2.2; rw [han] at this; omega);obtain ⟨tx, htx⟩ := xe p.owner;have HPU := kq (putO p = tx ++ numB an) (by unfold putO; rw [han, ← htx]; simp only [Int.toNat_natCast]);have htl : tx.length = 32 := by rw [htx]; exact hok.1
      rw [han] at HA32;rw [← htx] at HTX HDG;obtain ⟨xs, hxs⟩ := xe (p2 ++ (os.take k).flatMap putO);have HXE := kp hxs;have hxl : xs.length ≤ 18 + 16 * 130 + 16 * 50 := by rw [hxs, List.length_append]; have := HFL.o; omega
      rw [← hxs] at HP;clear hp hc hok hpv han htx hxs HFL;have u2 := numB_le (n := an) HAU.o;go_wp2_with (with_reducible first | refine wlm 54 row_tout HC.o HPC.o.len ?_ | refine wal 9 zero_tout ?_);intro w1_ hb1_ hbw1_ hsz1_;have HB1_ := kp (at_mk hb1_ len_tout);have HBW1_ := kp hbw1_;have HZ1_ := kp hsz1_;clear hb1_ hbw1_ hsz1_;go_wp2_with (with_reducible refine wsb row_tout HB1_.o.blk HB1_.o.len HPC.o.len HPC.o.one ?_);intro v_ b_ g_ hsz2_;have y_ := var_grow HBW1_.o HZ1_.o g_;have HX_ := kp (at_mk b_ HPC.o.len);clear b_ g_ hsz2_ HB1_ HBW1_ HZ1_;replace HB := kp (HB.o.grow' y_);replace HP := kp (HP.o.grow y_);replace HKB := kp (HKB.o.grow y_);generalize hg_ : w_.heap.size = g7 at HX_ ⊢;clear hg_;have HE := HX_;clear y_ HX_;clear w1_;try clear w_
      rename World => w_;clear HB HC
      have HGQ := kp (show g7 ≠ gp from fun e => by
       obtain ⟨_, _, h1, _⟩ := HP.o;have h2 := HE.o.blk;rw [e] at h2;unfold Blk at h1 h2;rw [h1] at h2;injection h2 with h2
       injection h2 with _ h2
       exact absurd h2 (by decide))
      replace HP := kp (HP.o.plus HE.o.blk (by decide) HGQ.o);have HM := kq (∀ (j : Nat) (u : Value), (tx.map B)[j]? = some u → w_.cell? ⟨g7, 0 + j, none⟩ = some u) (fun j u hu => HE.o.blk.at_ (HTX.o j u hu));go_wp2_with (with_reducible refine wlm 56 row_id HM.o HDG.o.len ?_);clear HM;go_wp2_with fail;refine (pid_any gp (Kq gp g7) xs HDG.o _ HP.o (by omega)).mono ?_;rintro e v_ ⟨rfl, hp_, hk_⟩;have HP_ := kp hp_;have HKB_ := kp (HKB.o.kept hk_);have HE_ := kp (HE.o.kept hk_);clear hp_ hk_ HP HKB HE;have HP := HP_; have HKB := HKB_; have HE := HE_;clear HP_ HKB_ HE_;try clear w_
      rename World => w_;have c33 := HE.o.blk.at_ HA32.o;go_wp2_with fail;refine (num_any gp an (Kq gp g7) (xs ++ tx) _ HP.o (by rw [List.length_append]; omega) HAU.o).mono ?_;rintro e v_ ⟨rfl, hp_, hk_⟩;have HP_ := kp hp_.minus;have HKB_ := kp (HKB.o.kept hk_);clear hp_ hk_ HP HKB HE;have HP := HP_; have HKB := HKB_;clear HP_ HKB_;try clear w_
      rename World => w_;clear c33
      have HPN := kp (show PenAt w_ (K0 gp) gp (p2 ++ (os.take (k + 1)).flatMap putO) by
       rw [HSN.o, HPU.o, ← List.append_assoc, ← HXE.o];have h := HP.o;simp only [List.append_assoc] at h ⊢
       exact h)
      clear HP u2;go_wp2_with fail;go_roundw
      case rel => exact ⟨k + 1, by omega, by go_num, kp ⟨HPN.o, HKB.o⟩⟩
      case measure => simp [intOf]; omega
     ·obtain rfl : k = n2 := by omega
      have HP_ := kq (PenAt w_ (K0 gp) gp (p2 ++ os.flatMap putO)) (by have h := HP.o; rw [List.take_of_length_le (by rw [HO.o.2.2.1]; exact Nat.le_refl _)] at h; exact h);go_wp2_with fail
      go_meet
      case rel => exact kp ⟨HP_.o, HKB.o⟩
   case rest =>
    clear HP HKB c1;have HP := kp hcut.o.1; have HKB := kp hcut.o.2;clear hcut;try clear w_
    rename World => w_;have HFL := kq ((os.flatMap putO).length ≤ n2 * 50) (by have h := fm_len putO 50 os HPO.o; rw [HO.o.2.2.1] at h; exact h);obtain ⟨p3, hp3⟩ := xe (p2 ++ os.flatMap putO);have hp3l : p3.length ≤ 18 + 16 * 130 + 16 * 50 := by rw [hp3, List.length_append]; have := HFL.o; omega
    rw [← hp3] at HP HPT;clear hp3 HFL hp2l;have uf := numB_le (n := fn) HFU.o;have ue := numB_le (n := en) (by have := HEU.o; omega);have c2 := (HXB.o _ HKB.o).blk.at_ HT2.o;go_wp2_with fail;refine (num_any gp fn (Kq gp g1) p3 _ (HKP.o _ _ HKB.o HP.o) (by omega) HFU.o).mono ?_;rintro e v_ ⟨rfl, hp_, hk_⟩;have HP_ := kp hp_.minus;have HKB_ := kp (HKB.o.kept hk_);clear hp_ hk_ HP HKB;have HP := HP_; have HKB := HKB_;clear HP_ HKB_;try clear w_
    rename World => w_;clear c2;have c3 := (HXB.o _ HKB.o).blk.at_ HT3.o;have qe := conv_u64' (n := en) (by have := HEU.o; omega);go_wp2_with fail;refine (num_any gp en (Kq gp g1) (p3 ++ numB fn) _ (HKP.o _ _ HKB.o HP.o) (by clear qe; rw [List.length_append]; omega) (by have := HEU.o; clear qe; omega)).mono ?_;rintro e v_ ⟨rfl, hp_, hk_⟩;have HP_ := kp hp_.minus;have HKB_ := kp (HKB.o.kept hk_);clear hp_ hk_ HP HKB;have HP := HP_; have HKB := HKB_;clear HP_ HKB_;try clear w_
    rename World => w_;clear c3 qe;rw [← HPT.o] at HP;have HTL := kq (tf.length ≤ 100000) (by rw [HPT.o]; simp only [List.length_append]; omega);go_wp2_with fail;refine (pbytes_any gp (K0 gp) tf _ HP.o (by have := HTL.o; omega)).mono ?_;rintro e w6 ⟨A', c', rfl, ho, hc, hg5⟩;have HO5 := kp (own_base ho (HBB.o _ HKB.o).size);have HC5 := kp hc;have HB6 := kq (Grow w w6) ((HBB.o _ HKB.o).grow' hg5);clear ho hc hg5;go_wp2_with fail
    go_ret2
    exact ⟨A', c', rfl, HO5.o, HC5.o, HB6.o⟩
 ·have d0 : (ck != 0) = true := by simpa using h0
  have HNI := kp (HFN.o h0);clear h0;go_wp2_with fail
  go_ret2
  refine ⟨none, 0, ?_⟩;rw [HNI.o];exact ⟨rfl, World.ownsRow_nil _ _ _ _, Nat.le_refl _, HB.o⟩
open Go.RowKit
def KR (gp z1 z2 : Nat) : Nat → Prop := fun j => j < gp ∨ (z1 ≤ j ∧ j < z2)
def Gw (w0 w : World) : Prop := Grow w0 w
theorem Gw.grow {w0 w w' : World} (h : Gw w0 w) (k : Grow w w') : Gw w0 w' := below_chain h k
end Go.Proofs.YtiijepimkgaccaaGreat

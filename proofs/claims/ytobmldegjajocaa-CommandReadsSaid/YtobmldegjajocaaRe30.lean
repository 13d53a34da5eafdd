/- The contract of tx.Put; its row is its own. Turned out of XTxI. -/
import Derived.Test.YtobmldegjajocaaRe28
import Derived.Test.YtobmldegjajocaaRe21
set_option linter.unusedSimpArgs false
set_option linter.unusedVariables false
set_option maxRecDepth 100000
set_option maxHeartbeats 16000000
namespace Go.Proofs.Ytobmldegjajocaa
open Go.RowKit Go.Shelf
theorem tputo_any {A : Option Addr} {n c : Nat} {A2 : Option Addr} {n2 c2 : Nat} {fee ex : Int} {l : List (Value × Inp)} {os : List Outp} (w : World) (hi : InsAt w A n c l) (ho : OutsAt w A2 n2 c2 os) (hn : n ≤ 100000) (hn2 : n2 ≤ 100000) (hf : U64 fee) (hex : I64 ex) :
  Calls Try.prog 25 #[.agg (txV A n c A2 n2 c2 fee ex).toArray] w fun e w' => ∃ A' c', e = .returned (.tuple #[.slice A' (tformB ⟨l.map Prod.snd, os, fee, ex⟩).length c', .int .i64 (checkT ⟨l.map Prod.snd, os, fee, ex⟩)]) ∧ OwnAt w' w.heap.size A' (tformB ⟨l.map Prod.snd, os, fee, ex⟩).length c' ((tformB ⟨l.map Prod.snd, os, fee, ex⟩).map B) ∧ (tformB ⟨l.map Prod.snd, os, fee, ex⟩).length ≤ c' ∧ Grow w w' := by
 have HI := kp hi; have HO := kp ho;have HTC := kp (txV_cl (A := A) (n := n) (c := c) (A2 := A2) (n2 := n2) (c2 := c2) (fee := fee) (ex := ex));have HT0 := kq ((txV A n c A2 n2 c2 fee ex)[0]? = some (.slice A n c)) rfl;have HT1 := kq ((txV A n c A2 n2 c2 fee ex)[1]? = some (.slice A2 n2 c2)) rfl;have HT2 := kq ((txV A n c A2 n2 c2 fee ex)[2]? = some (.int .u64 fee)) rfl;have HT3 := kq ((txV A n c A2 n2 c2 fee ex)[3]? = some (.int .i64 ex)) rfl;have HCK := kp (fun w hi ho => tcheck_any (A := A) (n := n) (c := c) (A2 := A2) (n2 := n2) (c2 := c2) (fee := fee) (ex := ex) (l := l) (os := os) w hi ho hn hn2 hf hex);have HF := kp hf; have HEX := kp hex;obtain ⟨t, ht⟩ := xe (Txn.mk (l.map Prod.snd) os fee ex);rw [← ht] at HCK ⊢;have HTE := kp ht;obtain ⟨ck, hck⟩ := xe (checkT t);have HCE := kp hck;rw [← hck] at HCK ⊢;obtain ⟨tf, htf⟩ := xe (tformB t);rw [← htf];have HFN := kq (ck ≠ 0 → tf = []) (fun h => by rw [htf]; unfold tformB; rw [if_neg (by rw [← hck]; exact h)]);have HFY := kq (ck = 0 → tf = putTB t) (fun h => by rw [htf]; unfold tformB; rw [if_pos (by rw [← hck]; exact h)])
 have HSH := kp (show ck = 0 → (1 ≤ n ∧ n ≤ 16 ∧ 1 ≤ n2 ∧ n2 ≤ 16 ∧ 0 ≤ ex ∧ ex ≤ 1099511627776) ∧ ∀ p ∈ l, p.2.secret.length ≤ 64 ∧ 0 ≤ p.2.index ∧ p.2.index ≤ 15 from fun h => by
  obtain ⟨h1, h2⟩ := short_of (t := t) (by rw [← hck]; exact h);unfold shortT at h1;rw [ht] at h1 h2;simp only [Bool.and_eq_true, inB_iff, List.length_map] at h1;have a := hi.2.2.1; have b := ho.2.2.1
  exact ⟨by omega, fun p hp => h2 _ (List.mem_map_of_mem hp)⟩)
 obtain ⟨tv, htv⟩ := xe (txV A n c A2 n2 c2 fee ex);rw [← htv] at HTC HT0 HT1 HT2 HT3 HCK ⊢;obtain ⟨w_, hw⟩ := xe w;have HB := kq (Below w.heap.size w w_) (by rw [hw]; exact Below.refl _ _)
 suffices H : Calls Try.prog 25 #[.agg tv.toArray] w_ fun e w' => ∃ A' c', e = .returned (.tuple #[.slice A' tf.length c', .int .i64 ck]) ∧ OwnAt w' w.heap.size A' tf.length c' (tf.map B) ∧ tf.length ≤ c' ∧ Grow w w' by rw [hw] at H; exact H
 clear hw hi ho ht hck htf htv hf hex
 go_enter Try.func25, Try.ntmps25
 go_wp2_with (with_reducible refine wbx 1 ?_);intro v_ b_ y_ s_;have HX_ := kp (at_mk b_ HTC.o.len);clear b_ s_;have HG_ := kp HB.o.size;replace HB := kp (HB.o.grow' y_);generalize hg_ : w_.heap.size = g1 at HX_ HG_ ⊢;clear hg_;have HX_g := HG_;clear HG_;have HX := HX_;clear y_ HX_;try clear w_
 rename World => w_;go_wp2_with (with_reducible refine wlb 10 row_tx HX.o.blk HX.o.len ?_);refine (HCK.o _ (HI.o.grow HB.o) (HO.o.grow HB.o)).mono ?_;rintro e w_ ⟨rfl, y_⟩;replace HB := kp (HB.o.grow' y_);replace HX := kp (HX.o.grow y_);clear y_;by_cases h0 : ck = 0
 ·obtain ⟨hsh, hel⟩ := HSH.o h0;have HEL := kp hel;have HSHT := kp hsh;have hn16 : n ≤ 16 := hsh.2.1;have hm16 : n2 ≤ 16 := hsh.2.2.2.1;obtain ⟨fn, hfn⟩ : ∃ q : Nat, fee = (q : Int) := ⟨fee.toNat, (Int.toNat_of_nonneg HF.o.1).symm⟩;obtain ⟨en, hen⟩ : ∃ q : Nat, ex = (q : Int) := ⟨ex.toNat, (Int.toNat_of_nonneg hsh.2.2.2.2.1).symm⟩;have HFU := kq (fn ≤ 18446744073709551615) (by have := HF.o.2; rw [hfn] at this; omega);have HEU := kq (en ≤ 1099511627776) (by have := hsh.2.2.2.2.2; rw [hen] at this; omega)
  have HPT := kp (show tf = numB n ++ (l.map Prod.snd).flatMap putI ++ numB n2 ++ os.flatMap putO ++ numB fn ++ numB en by
   rw [HFY.o h0, HTE.o]; unfold putTB; simp only [hfn, hen, Int.toNat_natCast, List.length_map]; rw [HI.o.2.2.1, HO.o.2.2.1])
  have HPI := kp (show ∀ x ∈ l.map Prod.snd, (putI x).length ≤ 130 from fun x hx => by
   obtain ⟨p, hp, rfl⟩ := List.mem_map.1 hx
   exact putI_len (HI.o.2.1 p hp).2 (hel p hp).1 (hel p hp).2)
  have HPO := kq (∀ x ∈ os, (putO x).length ≤ 50) (fun x hx => putO_len (HO.o.2.1 x hx));rw [hfn] at HT2;rw [hen] at HT3;clear hsh hel hfn hen;subst h0;go_wp2_with (with_reducible refine wal 5 zero_pen ?_);intro w4 hb4 hbw4 hsz4;obtain ⟨gp, hgp⟩ := xe w_.heap.size;have HG1 := kq (g1 < gp ∧ w.heap.size ≤ gp) (by have h1 := HX.o.lt; have h2 := HB.o.size; omega);have HX4 := kp (HX.o.grow hbw4);have HB4 := kp (HB.o.grow' hbw4);rw [← hgp] at hb4 hsz4 ⊢;have HP := kq (PenAt w4 (K0 gp) gp []) (PenAt.new hb4 (fun k hk => by unfold K0 at hk; omega));have HKB := kq (KB gp w4 w4) ⟨Below.refl _ _, by omega⟩;have HXB := kq (∀ w', KB gp w4 w' → At w' g1 26 4 tv) (fun w' h => ⟨HX4.o.blk.below h.1 HG1.o.1, HX4.o.len⟩);have HBB := kq (∀ w', KB gp w4 w' → Below w.heap.size w w') (fun w' h => HB4.o.trans (h.1.mono HG1.o.2));have HKP := kq (∀ (w' : World) (xs : List UInt8), KB gp w4 w' → PenAt w' (K0 gp) gp xs → PenAt w' (Kq gp g1) gp xs) (fun w' xs h hp => hp.plus (HXB.o _ h).blk (by decide) (by have := HG1.o.1; omega));clear hb4 hbw4 hsz4 hgp HX HB HX4;have qn := conv_u64' (n := n) (by omega);have c0 := (HXB.o _ HKB.o).blk.at_ HT0.o;go_wp2_with fail;refine (num_any gp n (Kq gp g1) [] _ (HKP.o _ _ HKB.o HP.o) (by simp) (by omega)).mono ?_;rintro e v_ ⟨rfl, hp_, hk_⟩;have HP_ := kp hp_.minus;have HKB_ := kp (HKB.o.kept hk_);clear hp_ hk_ HP HKB;have HP := HP_; have HKB := HKB_;clear HP_ HKB_;try clear w_
  rename World => w_;replace HP := kq (PenAt w_ (K0 gp) gp (numB n)) HP.o;clear c0 qn;have ln := numB_le (n := n) (by omega); have lm := numB_le (n := n2) (by omega);have c0 := (HXB.o _ HKB.o).blk.at_ HT0.o;obtain ⟨pre, hpre⟩ := xe (numB n);have HPR := kp hpre;have hprl : pre.length ≤ 9 := by rw [hpre]; exact ln
  rw [← hpre] at HP HPT;clear hpre ln;obtain ⟨ins, hins⟩ := xe (l.map Prod.snd);have HINS := kp hins;have HINL := kq (ins.length = n) (by rw [hins, List.length_map]; exact HI.o.2.2.1);rw [← hins] at HPT HPI;clear hins
  go_upto_block 0 with fail
  go_cut [] from 10 (fun wr => Hid (PenAt wr (K0 gp) gp (pre ++ ins.flatMap putI) ∧ KB gp w4 wr))
  case first =>
   go_wp2_with fail;go_loopw [23] (fun iv wr => ∃ k : Nat, k ≤ n ∧ iv = .int .i64 k ∧ Hid (PenAt wr (K0 gp) gp (pre ++ (ins.take k).flatMap putI) ∧ KB gp w4 wr)) (fun iv _ => n - (intOf iv).toNat)
   case atStart => exact ⟨0, by omega, rfl, kp ⟨by simpa using HP.o, HKB.o⟩⟩
   case round =>
    obtain ⟨k, hk, rfl, hI⟩ := hrel;clear HP HKB c0;have HP := kp hI.o.1; have HKB := kp hI.o.2;clear hI;rename World => w_;by_cases hlt : k < n
    ·obtain ⟨b, off, p, hA, hp, hok, hc⟩ := HI.o.at_ hlt;subst hA;have HBW := kp (HBB.o _ HKB.o);obtain ⟨hsl, hix0, hix1⟩ := HEL.o p (List.mem_of_getElem? hp);have HC := kq (∀ j u, (inV p.1 p.2)[j]? = some u → w_.cell? ⟨b, off + k * 35 + j, none⟩ = some u) (fun j u hu => bcell HBW.o (hc j u hu));have HPC := kp (inV_cl hok);have HSN := kp (fm_snoc putI (l := ins) (k := k) (p := p.2) (by rw [HINS.o, List.getElem?_map, hp]; rfl));obtain ⟨⟨A4, c4, e4, hc4, hs4⟩, hio⟩ := hok;have HS4 := kp hs4;have HFL := kp (fm_le putI 130 k HPI.o);have HA32 := kp (in_at (v := p.1) hio);have HDG := kp (dig_map hio.1)
     have HTX := kp (show ∀ (j : Nat) (u : Value), (p.2.tx.map B)[j]? = some u → (inV p.1 p.2)[0 + j]? = some u from fun j u hu => by
      rw [Nat.zero_add]; unfold inV; rw [List.getElem?_append_left (List.getElem?_eq_some_iff.1 hu).1]; exact hu)
     obtain ⟨pv, hpv⟩ := xe (inV p.1 p.2);rw [← hpv] at HC HPC HA32 HTX;rw [e4] at HA32;obtain ⟨xn, hxn⟩ : ∃ q : Nat, p.2.index = (q : Int) := ⟨p.2.index.toNat, (Int.toNat_of_nonneg hix0).symm⟩;obtain ⟨an, han⟩ : ∃ q : Nat, p.2.amount = (q : Int) := ⟨p.2.amount.toNat, (Int.toNat_of_nonneg hio.2.2.1).symm⟩;have HAU := kq (an ≤ 18446744073709551615) (by have := hio.2.2.2; rw [han] at this; omega);have hxb : xn ≤ 15 := by rw [hxn] at hix1; omega
     obtain ⟨sl, hsl2⟩ := xe p.2.secret.length;obtain ⟨tx, htx⟩ := xe p.2.tx;obtain ⟨sc, hsc⟩ := xe p.2.secret;have HPU := kq (putI p.2 = tx ++ numB xn ++ numB an ++ numB sl ++ sc) (by unfold putI; rw [hxn, han, ← htx, ← hsc, hsl2, hsc]; simp only [Int.toNat_natCast]);have htl : tx.length = 32 := by rw [htx]; exact hio.1
     have hslb : sl ≤ 64 := by rw [hsl2]; exact hsl
     rw [hxn, han, ← hsl2] at HA32;rw [← htx] at HTX HDG;rw [← hsl2, ← hsc] at HS4;obtain ⟨xs, hxs⟩ := xe (pre ++ (ins.take k).flatMap putI);have HXE := kp hxs;have hxl : xs.length ≤ 9 + 16 * 130 := by rw [hxs, List.length_append]; have := HFL.o; omega
     rw [← hxs] at HP;clear hp hc hsl hix0 hix1 e4 hc4 hs4 hio hpv hxn han hsl2 htx hsc hxs HFL HBW;have u1 := numB_le (n := xn) (by omega); have u2 := numB_le (n := an) HAU.o; have u3 := numB_le (n := sl) (by omega);have HB := kp (HBB.o _ HKB.o);go_wp2_with (with_reducible first | refine wlm 26 row_tin HC.o HPC.o.len ?_ | refine wal 7 zero_tin ?_);intro w1_ hb1_ hbw1_ hsz1_;have HB1_ := kp (at_mk hb1_ len_tin);have HBW1_ := kp hbw1_;have HZ1_ := kp hsz1_;clear hb1_ hbw1_ hsz1_;go_wp2_with (with_reducible refine wsb row_tin HB1_.o.blk HB1_.o.len HPC.o.len HPC.o.one ?_);intro v_ b_ g_ s_;have y_ := var_grow HBW1_.o HZ1_.o g_;have HX_ := kp (at_mk b_ HPC.o.len);clear b_ g_ s_ HB1_ HBW1_ HZ1_;replace HB := kp (HB.o.grow' y_);replace HP := kp (HP.o.grow y_);replace HKB := kp (HKB.o.grow y_);generalize hg_ : w_.heap.size = g7 at HX_ ⊢;clear hg_;have HE := HX_;clear y_ HX_;clear w1_;try clear w_
     rename World => w_;clear HB HC
     have HGQ := kp (show g7 ≠ gp from fun e => by
      obtain ⟨_, _, h1, _⟩ := HP.o;have h2 := HE.o.blk;rw [e] at h2;unfold Blk at h1 h2;rw [h1] at h2;injection h2 with h2
      injection h2 with _ h2
      exact absurd h2 (by decide))
     replace HP := kp (HP.o.plus HE.o.blk (by decide) HGQ.o);have HM := kq (∀ (j : Nat) (u : Value), (tx.map B)[j]? = some u → w_.cell? ⟨g7, 0 + j, none⟩ = some u) (fun j u hu => HE.o.blk.at_ (HTX.o j u hu));go_wp2_with (with_reducible refine wlm 29 row_id HM.o HDG.o.len ?_);clear HM;go_wp2_with fail;refine (pid_any gp (Kq gp g7) xs HDG.o _ HP.o (by omega)).mono ?_;rintro e v_ ⟨rfl, hp_, hk_⟩;have HP_ := kp hp_;have HKB_ := kp (HKB.o.kept hk_);have HE_ := kp (HE.o.kept hk_);clear hp_ hk_ HP HKB HE;have HP := HP_; have HKB := HKB_; have HE := HE_;clear HP_ HKB_ HE_;try clear w_
     rename World => w_;have c32 := HE.o.blk.at_ HA32.o.1;have q2 := conv_u64' (n := xn) (by omega);go_wp2_with fail;refine (num_any gp xn (Kq gp g7) (xs ++ tx) _ HP.o (by clear q2; rw [List.length_append]; omega) (by clear q2; omega)).mono ?_;rintro e v_ ⟨rfl, hp_, hk_⟩;have HP_ := kp hp_;have HKB_ := kp (HKB.o.kept hk_);have HE_ := kp (HE.o.kept hk_);clear hp_ hk_ HP HKB HE;have HP := HP_; have HKB := HKB_; have HE := HE_;clear HP_ HKB_ HE_;try clear w_
     rename World => w_;clear c32 q2;have c33 := HE.o.blk.at_ HA32.o.2.1;go_wp2_with fail;refine (num_any gp an (Kq gp g7) (xs ++ tx ++ numB xn) _ HP.o (by rw [List.length_append, List.length_append]; omega) HAU.o).mono ?_;rintro e v_ ⟨rfl, hp_, hk_⟩;have HP_ := kp hp_;have HKB_ := kp (HKB.o.kept hk_);have HE_ := kp (HE.o.kept hk_);clear hp_ hk_ HP HKB HE;have HP := HP_; have HKB := HKB_; have HE := HE_;clear HP_ HKB_ HE_;try clear w_
     rename World => w_;clear c33;have c34 := HE.o.blk.at_ HA32.o.2.2;have HS5 := kp (HS4.o.below (HBB.o _ HKB.o));go_wp2_with fail;refine (ptext_any gp (Kq gp g7) (xs ++ tx ++ numB xn ++ numB an) _ HP.o HS5.o (fun j hj => .inl (Nat.lt_of_lt_of_le hj HG1.o.2)) (by rw [List.length_append, List.length_append, List.length_append]; omega)).mono ?_;rintro e v_ ⟨rfl, hp_, hk_⟩;have HP_ := kp hp_.minus;have HKB_ := kp (HKB.o.kept hk_);clear hp_ hk_ HP HKB HE;have HP := HP_; have HKB := HKB_;clear HP_ HKB_;try clear w_
     rename World => w_;clear c34 HS5
     have HPN := kp (show PenAt w_ (K0 gp) gp (pre ++ (ins.take (k + 1)).flatMap putI) by
      rw [HSN.o, HPU.o, ← List.append_assoc, ← HXE.o];have h := HP.o;simp only [List.append_assoc] at h ⊢
      exact h)
     clear HP u1 u2 u3;go_wp2_with fail;go_roundw
     case rel => exact ⟨k + 1, by omega, by go_num, kp ⟨HPN.o, HKB.o⟩⟩
     case measure => simp [intOf]; omega
    ·obtain rfl : k = n := by omega
     have HP_ := kq (PenAt w_ (K0 gp) gp (pre ++ ins.flatMap putI)) (by have h := HP.o; rw [List.take_of_length_le (by rw [HINL.o]; exact Nat.le_refl _)] at h; exact h);go_wp2_with fail
     go_meet
     case rel => exact kp ⟨HP_.o, HKB.o⟩
  case rest =>
   clear HP HKB c0;have HP := kp hcut.o.1; have HKB := kp hcut.o.2;clear hcut;try clear w_
   rename World => w_;have HFL := kq ((ins.flatMap putI).length ≤ n * 130) (by have h := fm_len putI 130 ins HPI.o; rw [HINL.o] at h; exact h);obtain ⟨p1, hp1⟩ := xe (pre ++ ins.flatMap putI);have hp1l : p1.length ≤ 9 + 16 * 130 := by rw [hp1, List.length_append]; have := HFL.o; omega
   rw [← hp1] at HP HPT;clear hp1 HFL hprl;have c1 := (HXB.o _ HKB.o).blk.at_ HT1.o;have qm := conv_u64' (n := n2) (by omega);go_wp2_with fail;refine (num_any gp n2 (Kq gp g1) p1 _ (HKP.o _ _ HKB.o HP.o) (by clear qm; omega) (by clear qm; omega)).mono ?_;rintro e v_ ⟨rfl, hp_, hk_⟩;have HP_ := kp hp_.minus;have HKB_ := kp (HKB.o.kept hk_);clear hp_ hk_ HP HKB;have HP := HP_; have HKB := HKB_;clear HP_ HKB_;try clear w_
   rename World => w_;clear c1 qm;obtain ⟨p2, hp2⟩ := xe (p1 ++ numB n2);have hp2l : p2.length ≤ 18 + 16 * 130 := by rw [hp2, List.length_append]; omega
   rw [← hp2] at HP HPT;clear hp2 lm hp1l;have c1 := (HXB.o _ HKB.o).blk.at_ HT1.o
   go_upto_block 2 with fail
   go_cut [] from 10 (fun wr => Hid (PenAt wr (K0 gp) gp (p2 ++ os.flatMap putO) ∧ KB gp w4 wr))
   case first =>
    go_wp2_with fail;go_loopw [51] (fun iv wr => ∃ k : Nat, k ≤ n2 ∧ iv = .int .i64 k ∧ Hid (PenAt wr (K0 gp) gp (p2 ++ (os.take k).flatMap putO) ∧ KB gp w4 wr)) (fun iv _ => n2 - (intOf iv).toNat)
    case atStart => exact ⟨0, by omega, rfl, kp ⟨by simpa using HP.o, HKB.o⟩⟩
    case round =>
     obtain ⟨k, hk, rfl, hI⟩ := hrel;clear HP HKB c1;have HP := kp hI.o.1; have HKB := kp hI.o.2;clear hI;rename World => w_;by_cases hlt : k < n2
     ·obtain ⟨b, off, p, hA, hp, hok, hc⟩ := HO.o.at_ hlt;subst hA;have HB := kp (HBB.o _ HKB.o);have HC := kq (∀ j u, (outV p)[j]? = some u → w_.cell? ⟨b, off + k * 33 + j, none⟩ = some u) (fun j u hu => bcell HB.o (hc j u hu));have HPC := kp (outV_cl hok);have HSN := kp (fm_snoc putO hp);have HFL := kp (fm_le putO 50 k HPO.o);have HA32 := kp (out_at hok);have HDG := kp (dig_map hok.1)
      have HTX := kp (show ∀ (j : Nat) (u : Value), (p.owner.map B)[j]? = some u → (outV p)[0 + j]? = some u from fun j u hu => by
       rw [Nat.zero_add]; unfold outV; rw [List.getElem?_append_left (List.getElem?_eq_some_iff.1 hu).1]; exact hu)
      obtain ⟨pv, hpv⟩ := xe (outV p);rw [← hpv] at HC HPC HA32 HTX;obtain ⟨an, han⟩ : ∃ q : Nat, p.amount = (q : Int) := ⟨p.amount.toNat, (Int.toNat_of_nonneg hok.2.1).symm⟩;have HAU := kq (an ≤ 18446744073709551615) (by have := hok.2.2; rw [han] at this; omega);obtain ⟨tx, htx⟩ := xe p.owner;have HPU := kq (putO p = tx ++ numB an) (by unfold putO; rw [han, ← htx]; simp only [Int.toNat_natCast]);have htl : tx.length = 32 := by rw [htx]; exact hok.1
      rw [han] at HA32;rw [← htx] at HTX HDG;obtain ⟨xs, hxs⟩ := xe (p2 ++ (os.take k).flatMap putO);have HXE := kp hxs;have hxl : xs.length ≤ 18 + 16 * 130 + 16 * 50 := by rw [hxs, List.length_append]; have := HFL.o; omega
      rw [← hxs] at HP;clear hp hc hok hpv han htx hxs HFL;have u2 := numB_le (n := an) HAU.o;go_wp2_with (with_reducible first | refine wlm 54 row_tout HC.o HPC.o.len ?_ | refine wal 9 zero_tout ?_);intro w1_ hb1_ hbw1_ hsz1_;have HB1_ := kp (at_mk hb1_ len_tout);have HBW1_ := kp hbw1_;have HZ1_ := kp hsz1_;clear hb1_ hbw1_ hsz1_;go_wp2_with (with_reducible refine wsb row_tout HB1_.o.blk HB1_.o.len HPC.o.len HPC.o.one ?_);intro v_ b_ g_ s_;have y_ := var_grow HBW1_.o HZ1_.o g_;have HX_ := kp (at_mk b_ HPC.o.len);clear b_ g_ s_ HB1_ HBW1_ HZ1_;replace HB := kp (HB.o.grow' y_);replace HP := kp (HP.o.grow y_);replace HKB := kp (HKB.o.grow y_);generalize hg_ : w_.heap.size = g7 at HX_ ⊢;clear hg_;have HE := HX_;clear y_ HX_;clear w1_;try clear w_
      rename World => w_;clear HB HC
      have HGQ := kp (show g7 ≠ gp from fun e => by
       obtain ⟨_, _, h1, _⟩ := HP.o;have h2 := HE.o.blk;rw [e] at h2;unfold Blk at h1 h2;rw [h1] at h2;injection h2 with h2
       injection h2 with _ h2
       exact absurd h2 (by decide))
      replace HP := kp (HP.o.plus HE.o.blk (by decide) HGQ.o);have HM := kq (∀ (j : Nat) (u : Value), (tx.map B)[j]? = some u → w_.cell? ⟨g7, 0 + j, none⟩ = some u) (fun j u hu => HE.o.blk.at_ (HTX.o j u hu));go_wp2_with (with_reducible refine wlm 56 row_id HM.o HDG.o.len ?_);clear HM;go_wp2_with fail;refine (pid_any gp (Kq gp g7) xs HDG.o _ HP.o (by omega)).mono ?_;rintro e v_ ⟨rfl, hp_, hk_⟩;have HP_ := kp hp_;have HKB_ := kp (HKB.o.kept hk_);have HE_ := kp (HE.o.kept hk_);clear hp_ hk_ HP HKB HE;have HP := HP_; have HKB := HKB_; have HE := HE_;clear HP_ HKB_ HE_;try clear w_
      rename World => w_;have c33 := HE.o.blk.at_ HA32.o;go_wp2_with fail;refine (num_any gp an (Kq gp g7) (xs ++ tx) _ HP.o (by rw [List.length_append]; omega) HAU.o).mono ?_;rintro e v_ ⟨rfl, hp_, hk_⟩;have HP_ := kp hp_.minus;have HKB_ := kp (HKB.o.kept hk_);clear hp_ hk_ HP HKB HE;have HP := HP_; have HKB := HKB_;clear HP_ HKB_;try clear w_
      rename World => w_;clear c33
      have HPN := kp (show PenAt w_ (K0 gp) gp (p2 ++ (os.take (k + 1)).flatMap putO) by
       rw [HSN.o, HPU.o, ← List.append_assoc, ← HXE.o];have h := HP.o;simp only [List.append_assoc] at h ⊢
       exact h)
      clear HP u2;go_wp2_with fail;go_roundw
      case rel => exact ⟨k + 1, by omega, by go_num, kp ⟨HPN.o, HKB.o⟩⟩
      case measure => simp [intOf]; omega
     ·obtain rfl : k = n2 := by omega
      have HP_ := kq (PenAt w_ (K0 gp) gp (p2 ++ os.flatMap putO)) (by have h := HP.o; rw [List.take_of_length_le (by rw [HO.o.2.2.1]; exact Nat.le_refl _)] at h; exact h);go_wp2_with fail
      go_meet
      case rel => exact kp ⟨HP_.o, HKB.o⟩
   case rest =>
    clear HP HKB c1;have HP := kp hcut.o.1; have HKB := kp hcut.o.2;clear hcut;try clear w_
    rename World => w_;have HFL := kq ((os.flatMap putO).length ≤ n2 * 50) (by have h := fm_len putO 50 os HPO.o; rw [HO.o.2.2.1] at h; exact h);obtain ⟨p3, hp3⟩ := xe (p2 ++ os.flatMap putO);have hp3l : p3.length ≤ 18 + 16 * 130 + 16 * 50 := by rw [hp3, List.length_append]; have := HFL.o; omega
    rw [← hp3] at HP HPT;clear hp3 HFL hp2l;have uf := numB_le (n := fn) HFU.o;have ue := numB_le (n := en) (by have := HEU.o; omega);have c2 := (HXB.o _ HKB.o).blk.at_ HT2.o;go_wp2_with fail;refine (num_any gp fn (Kq gp g1) p3 _ (HKP.o _ _ HKB.o HP.o) (by omega) HFU.o).mono ?_;rintro e v_ ⟨rfl, hp_, hk_⟩;have HP_ := kp hp_.minus;have HKB_ := kp (HKB.o.kept hk_);clear hp_ hk_ HP HKB;have HP := HP_; have HKB := HKB_;clear HP_ HKB_;try clear w_
    rename World => w_;clear c2;have c3 := (HXB.o _ HKB.o).blk.at_ HT3.o;have qe := conv_u64' (n := en) (by have := HEU.o; omega);go_wp2_with fail;refine (num_any gp en (Kq gp g1) (p3 ++ numB fn) _ (HKP.o _ _ HKB.o HP.o) (by clear qe; rw [List.length_append]; omega) (by have := HEU.o; clear qe; omega)).mono ?_;rintro e v_ ⟨rfl, hp_, hk_⟩;have HP_ := kp hp_.minus;have HKB_ := kp (HKB.o.kept hk_);clear hp_ hk_ HP HKB;have HP := HP_; have HKB := HKB_;clear HP_ HKB_;try clear w_
    rename World => w_;clear c3 qe;rw [← HPT.o] at HP;have HTL := kq (tf.length ≤ 100000) (by rw [HPT.o]; simp only [List.length_append]; omega);go_wp2_with fail;refine (pbytes_any gp (K0 gp) tf _ HP.o (by have := HTL.o; omega)).mono ?_;rintro e w6 ⟨A', c', rfl, ho, hc, hg5⟩;have HO5 := kp (own_base ho (HBB.o _ HKB.o).size);have HC5 := kp hc;have HB6 := kq (Grow w w6) ((HBB.o _ HKB.o).grow' hg5);clear ho hc hg5;go_wp2_with fail
    go_ret2
    exact ⟨A', c', rfl, HO5.o, HC5.o, HB6.o⟩
 ·have d0 : (ck != 0) = true := by simpa using h0
  have HNI := kp (HFN.o h0);clear h0;go_wp2_with fail
  go_ret2
  refine ⟨none, 0, ?_⟩;rw [HNI.o];exact ⟨rfl, World.ownsRow_nil _ _ _ _, Nat.le_refl _, HB.o⟩
open Go.RowKit
def KR (gp z1 z2 : Nat) : Nat → Prop := fun j => j < gp ∨ (z1 ≤ j ∧ j < z2)
theorem own_kr {w w' : World} {gp z n c : Nat} {A : Option Addr} {xs : List Value} (ho : OwnAt w z A n c xs) (hk : Kept (KR gp z w.heap.size) w w') : Sl w' w'.heap.size 1 A n xs := by
 have h := Sl.of_own ho;refine ⟨h.1, fun hn => ?_⟩;obtain ⟨b, off, e, hb, hc⟩ := h.2 hn;have h1 : z ≤ b := own_from ho b (by rw [e]; rfl);exact ⟨b, off, e, Nat.lt_of_lt_of_le hb hk.size, fun j u hu => (World.cell?_of_block (a := ⟨b, off + j, none⟩) (hk.block b (.inr ⟨h1, hb⟩))).trans (hc j u hu)⟩
theorem ptexto_any (gp : Nat) (xs : List UInt8) {A : Option Addr} {n c : Nat} {bs : List UInt8} (w0 w : World) (h : PenAt w0 (KR gp 0 0) gp xs) (hg : Grow w0 w) (hbn : bs.length = n) (ho : OwnAt w w0.heap.size A n c (bs.map B)) (hl : xs.length + n ≤ 900000) :
  Calls Try.prog 26 #[.pointer (some ⟨gp, 0, none⟩), .slice A n c] w fun e w' => e = .returned (.tuple #[]) ∧ PenAt w' (KR gp 0 0) gp (xs ++ (numB n ++ bs)) ∧ Kept (KR gp 0 0) w w' :=
 (ptextk_any gp (KR gp w0.heap.size w.heap.size) xs w (h.more hg (fun j hj => by rcases hj with h | h; exact .inl (.inl h); exact .inr h)) hbn (fun w' hk => own_kr ho hk) hl).mono
   fun e w' ⟨h1, h2, h3⟩ => ⟨h1, h2.less (fun j hj => by rcases hj with h | h; exact .inl h; omega), h3.mono (fun j hj => by rcases hj with h | h; exact .inl h; omega)⟩
theorem num_anyI (g : Nat) (N : Int) (K : Nat → Prop) (xs : List UInt8) (w : World) (h : PenAt w K g xs) (hl : xs.length ≤ 1000000) (h0 : 0 ≤ N) (hN : N ≤ 18446744073709551615) :
  Calls Try.prog 22 #[.pointer (some ⟨g, 0, none⟩), .int .u64 N] w fun e w' => e = .returned (.tuple #[]) ∧ PenAt w' K g (xs ++ numB N.toNat) ∧ Kept K w w' := by
 have := num_any g N.toNat K xs w h hl (by omega);rw [Int.toNat_of_nonneg h0] at this; exact this
theorem KB.keptR {gp : Nat} {w4 w w2 : World} (h : KB gp w4 w) (k : Kept (KR gp 0 0) w w2) : KB gp w4 w2 := ⟨h.1.trans (k.below (fun j hj => .inl hj)), h.2⟩
theorem convI {k : Int} (h0 : 0 ≤ k) (h : k ≤ 18446744073709551615) : IntKind.u64.wrap k = k := by rw [IntKind.wrap_u64]; omega
theorem putCB_leC {x : Cer} (hx : x.ok) (hp : x.path.length ≤ 32) : (putCB x).length ≤ 2000 := by
 have l1 := eformB_le hx.1; have l2 := hformB_le hx.2.2.1; have l3 := hx.2.2.2;have n1 := numB_le (n := (eformB x.e).length) (by omega); have n2 := numB_le (n := x.path.length) (by omega); have n3 := numB_le (n := (hformB x.h).length) (by omega);have fl := flat_32 x.path hx.2.1;unfold putCB;simp only [List.length_append];omega
theorem checkC_zero {m : Cmd} (h : checkC m = 0) : (1 ≤ m.kind ∧ m.kind ≤ 9) ∧ (0 ≤ m.serial ∧ m.serial ≤ 1099511627776 ∧ m.dest.amount ≤ 4611686018427387904 ∧ 0 ≤ m.epoch ∧ m.epoch ≤ 1099511627776) ∧ m.certs.length ≤ 16 ∧ (hasTxK m.kind = true → checkT m.tx = 0) ∧ (∀ x ∈ m.certs, badCert x = false) ∧ (hasCK m.kind = false → m.certs = []) ∧ (wrong1 m || wrong2 m) = false := by
 unfold checkC at h;split at h
 ·cases h
 rename_i h1;split at h
 ·cases h
 rename_i h2;split at h
 ·cases h
 rename_i h3;split at h
 ·rename_i h4;rw [h] at h4; simp at h4
 rename_i h4;split at h
 ·cases h
 rename_i h5;simp only [Bool.or_eq_true, not_or, Bool.not_eq_true] at h2;obtain ⟨⟨ha, hb⟩, hc⟩ := h2;have hb0 := hb;unfold wrong3 at hc;simp only [Bool.or_eq_false_iff, decide_eq_false_iff_not] at hc;unfold wrong2 at hb;simp only [Bool.or_eq_false_iff, Bool.and_eq_false_iff, Bool.not_eq_false', Bool.not_eq_eq_eq_not, Bool.not_false, List.isEmpty_iff] at hb;refine ⟨by omega, by omega, by omega, fun hk => ?_, fun x hx => ?_, fun hk => ?_, by rw [ha, hb0]; rfl⟩
 ·rw [hk] at h4;simpa using h4
 ·simp only [Bool.not_eq_true] at h5;exact List.any_eq_false.1 h5 x hx |> (by simpa using ·)
 ·rcases hb.2 with h | h
  ·rw [hk] at h; cases h
  ·exact h
theorem certText_le {x : Cer} (hx : x.ok) (hb : badCert x = false) : (certText x).length ≤ 2009 := by
 have hp : x.path.length ≤ 32 := by unfold badCert at hb; simp at hb; omega
 have h := putCB_leC hx hp;have h2 := numB_le (n := (putCB x).length) (by omega);unfold certText; rw [List.length_append]; omega
theorem cmput_any {q : CW} {m : Cmd} (w : World) (h : CmdAt w q m) (hs : SmallC m) :
  Calls Try.prog 9 #[.agg (q.vs m).toArray] w fun e w' => ∃ A' c', e = .returned (.tuple #[.slice A' (formC m).1.length c', .int .i64 (formC m).2]) ∧ OwnAt w' w.heap.size A' (formC m).1.length c' ((formC m).1.map B) ∧ (formC m).1.length ≤ c' ∧ Grow w w' := by
 have HXC := kp (vs_cl (q := q) h.ok);have X0 := kp (vs_kind q m); have X5 := kp (vs_certs q m);have X39 := kp (vs_serial (q := q) h.ok.2.2.2.1); have X40 := kp (vs_epoch (q := q) h.ok.2.2.2.1);have XA := kq ((q.vs m)[38]? = some (.int .u64 m.dest.amount)) (vs_to (j := 32) (by unfold outV; rw [List.getElem?_append_right (by simp [h.ok.2.2.2.1.1])]; simp [h.ok.2.2.2.1.1]));have XO := kp (fun j u (hu : (m.dest.owner.map B)[j]? = some u) => vs_to (q := q) (m := m) (j := j) (u := u) (by unfold outV; rw [List.getElem?_append_left (List.getElem?_eq_some_iff.1 hu).1]; exact hu));have XI := kp (fun j u (hu : (m.id.map B)[j]? = some u) => vs_id (q := q) h.ok.2.2.2.1 hu);have XX := kp (fun j u (hu : (q.tv m)[j]? = some u) => vs_tx hu);have LX := kq ((q.tv m).length = 4) rfl;have HDO := kp (dig_map h.ok.2.2.2.1.1); have HDI := kp (dig_map h.ok.2.2.2.2.2.2);have HAM := kq (0 ≤ m.dest.amount ∧ m.dest.amount ≤ 18446744073709551615) (by have := h.ok.2.2.2.1.2; unfold U64 at this; omega);have HLO := kq (m.dest.owner.length = 32) h.ok.2.2.2.1.1; have HLI := kq (m.id.length = 32) h.ok.2.2.2.2.2.2;have hn3 : m.certs.length = q.n3 := h.n3;have HCK := kp (fun w' (hg : Grow w w') => cmcheck_any w' (h.grow hg) hs);have HHT := kp (fun w' => hastx_any m.kind w'); have HHC := kp (fun w' => hasc_any m.kind w')
 have HTP := kp (fun (w' : World) (hg : Grow w w') => show Calls Try.prog 25 #[.agg (q.tv m).toArray] w' fun e w'' => ∃ A' c', e = .returned (.tuple #[.slice A' (tformB m.tx).length c', .int .i64 (checkT m.tx)]) ∧ OwnAt w'' w'.heap.size A' (tformB m.tx).length c' ((tformB m.tx).map B) ∧ (tformB m.tx).length ≤ c' ∧ Grow w' w'' from by
  have := tputo_any w' (h.ins.grow hg) (h.outs.grow hg) (by rw [← h.n1]; exact Nat.le_trans hs.1 (by decide)) (by rw [← h.n2]; exact Nat.le_trans hs.2.1 (by decide)) h.ok.2.1.2.2.1 h.ok.2.1.2.2.2
  rw [h.tx] at this; exact this)
 have HCA := kp (fun (w' : World) (hg : Grow w w') => h.certs.grow hg);have HCE := kp h.certsE;have HPL := kq (∀ x ∈ m.certs, x.path.length ≤ 1000) hs.2.2.2.2;have HZ := kq (checkC m = 0 → _) (fun e => checkC_zero (m := m) e)
 have HTL := kp (show hasTxK m.kind = true → checkC m = 0 → tformB m.tx = putTB m.tx ∧ (putTB m.tx).length ≤ 3000 from fun h1 h2 => by
  have h3 := (checkC_zero h2).2.2.2.1 h1
  exact ⟨by unfold tformB; rw [if_pos h3], putTB_le h.ok.2.1 h3⟩)
 have HCT := kq (checkC m = 0 → ∀ x ∈ m.certs, (certText x).length ≤ 2009) (fun h1 x hx => certText_le (h.ok.2.2.1 x hx) ((checkC_zero h1).2.2.2.2.1 x hx));have F1 := kq (checkC m ≠ 0 → formC m = ([], checkC m)) (fun e => by unfold formC; rw [if_pos e]);have F2 := kq (checkC m = 0 → 8192 < (putCm m).length → formC m = ([], 4)) (fun e e2 => by unfold formC; rw [if_neg (by simp [e]), if_pos e2]);have F3 := kq (checkC m = 0 → ¬ 8192 < (putCm m).length → formC m = (putCm m, 0)) (fun e e2 => by unfold formC; rw [if_neg (by simp [e]), if_neg e2]);have P1 := kq (m.kind = 1 → putCm m = numB m.kind.toNat ++ numB m.serial.toNat ++ m.dest.owner ++ numB m.dest.amount.toNat) (fun e => by unfold putCm txPart certPart hasTxK hasCK; rw [e]; simp)
 have PT := kp (show hasTxK m.kind = true → checkC m = 0 → putCm m = numB m.kind.toNat ++ (numB (tformB m.tx).length ++ tformB m.tx) ++ (if hasCK m.kind then numB q.n3 else []) ++ m.certs.flatMap certText from fun e e0 => by
  have h1 := HTL.o e e0;have h2 := (checkC_zero e0).2.2.2.2.2.1;unfold putCm txPart certPart;rw [if_pos e, h1.1];have e2 : 2 ≤ m.kind ∧ m.kind ≤ 6 := by unfold hasTxK at e; simp at e; omega
  rw [if_neg (show ¬ m.kind = 1 by omega), if_neg (show ¬ m.kind = 7 by omega), if_neg (show ¬ m.kind = 9 by omega), hn3];cases hc : hasCK m.kind with
  | true => simp
  | false => rw [h2 hc]; simp)
 have P7 := kq (m.kind = 7 → putCm m = numB m.kind.toNat ++ numB m.epoch.toNat) (fun e => by unfold putCm txPart certPart hasTxK hasCK; rw [e]; simp);have P9 := kq (m.kind = 9 → putCm m = numB m.kind.toNat ++ m.id) (fun e => by unfold putCm txPart certPart hasTxK hasCK; rw [e]; simp)
 have P8 := kp (show m.kind ≠ 1 → hasTxK m.kind = false → m.kind ≠ 7 → m.kind ≠ 9 → putCm m = numB m.kind.toNat from fun e1 e2 e3 e4 => by
  have e5 : hasCK m.kind = false := by unfold hasTxK at e2; unfold hasCK; simp at e2 ⊢; omega
  unfold putCm txPart certPart; rw [e2, e5, if_neg e1, if_neg e3, if_neg e4]; simp)
 obtain ⟨ck, hck⟩ := xe (checkC m);obtain ⟨pc, hpc⟩ := xe (putCm m);obtain ⟨fm, hfm⟩ := xe (formC m);obtain ⟨tb, htb⟩ := xe (tformB m.tx);obtain ⟨tk, htk⟩ := xe (checkT m.tx);rw [← hck] at HCK HZ HTL HCT F1 F2 F3 PT;rw [← hpc] at F2 F3 P1 PT P7 P9 P8;rw [← hfm] at F1 F2 F3 ⊢;rw [← htb] at HTP HTL PT; rw [← htk] at HTP;have HTB := kq (hasTxK m.kind = true → ck = 0 → tb.length ≤ 3000) (fun h1 h2 => by rw [(HTL.o h1 h2).1]; exact (HTL.o h1 h2).2);obtain ⟨xv, hxv⟩ := xe (q.vs m);obtain ⟨tv, htv⟩ := xe (q.tv m);obtain ⟨crs, hcrs⟩ := xe m.certs;rw [← hxv] at HXC X0 X5 X39 X40 XA XO XI XX HCK ⊢;rw [← htv] at XX LX HTP;have HCL := kq (crs.length = q.n3) (by rw [hcrs]; exact hn3);have HC16 := kq (ck = 0 → q.n3 ≤ 16) (fun e => by rw [← hn3]; exact (HZ.o e).2.2.1);rw [← hcrs] at HCE HPL HCT PT;have HRG := kq (ck = 0 → (1 ≤ m.kind ∧ m.kind ≤ 9) ∧ (0 ≤ m.serial ∧ m.serial ≤ 1099511627776 ∧ 0 ≤ m.epoch ∧ m.epoch ≤ 1099511627776)) (fun e => ⟨(HZ.o e).1, by have := (HZ.o e).2.1; omega⟩);clear HZ HTL;obtain ⟨own, hown⟩ := xe m.dest.owner;obtain ⟨mid, hmid⟩ := xe m.id;rw [← hown] at XO HDO HLO P1; rw [← hmid] at XI HDI HLI P9;obtain ⟨k, hk⟩ := xe m.kind;obtain ⟨se, hse⟩ := xe m.serial;obtain ⟨ep, hep⟩ := xe m.epoch;obtain ⟨am, ham⟩ := xe m.dest.amount;rw [← hk] at X0 HHT HHC HTB HRG P1 PT P7 P9 P8; rw [← hse] at X39 HRG P1; rw [← hep] at X40 HRG P7; rw [← ham] at XA HAM P1;obtain ⟨A, n, c, A2, n2, c2, A3, n3, c3, l, cl⟩ := q;simp only at X5 HCA HCE PT HCL HC16;clear h hs hn3 hck hpc hfm htb htk hxv htv hcrs hown hmid hk hse hep ham;refine bq (fun w_ HB => ?_)
 go_enter Try.func9, Try.ntmps9
 go_wp2_with (with_reducible refine wbx 1 ?_);intro v_ b_ y_ s_;have HX_ := kp (at_mk b_ HXC.o.len);clear b_ s_;have HG_ := kp HB.o.size;replace HB := kp (HB.o.grow' y_);generalize hg_ : w_.heap.size = g1 at HX_ HG_ ⊢;clear hg_;have HX_g := HG_;clear HG_;have HX := HX_;clear y_ HX_;try clear w_
 rename World => w_;go_wp2_with (with_reducible refine wlb 11 row_cmd HX.o.blk HX.o.len ?_);refine (HCK.o _ HB.o).mono ?_;rintro e w_ ⟨rfl, y_⟩;replace HB := kp (HB.o.grow' y_);replace HX := kp (HX.o.grow y_);clear y_;by_cases h0 : ck = 0
 rotate_left
 ·have d0 : (ck != 0) = true := by simpa using h0
  have HNI := kp (F1.o h0);clear h0;go_wp2_with fail
  go_ret2
  exact ⟨none, 0, by rw [HNI.o]; rfl, by rw [HNI.o]; exact World.ownsRow_nil _ _ _ _, by rw [HNI.o]; exact Nat.le_refl _, HB.o⟩
 obtain ⟨⟨hk1, hk9⟩, hse0, hse1, hep0, hep1⟩ := HRG.o h0;have hn16 : n3 ≤ 16 := HC16.o h0;have HCT2 := kp (HCT.o h0);have HTB2 := kp (fun e => HTB.o e h0);have PT2 := kp (fun e => PT.o e h0);have F22 := kp (F2.o h0); have F32 := kp (F3.o h0);have d0 : (ck != 0) = false := by simpa using h0
 clear HCK HRG HC16 HCT HTB PT F1 F2 F3 h0;go_wp2_with (with_reducible refine wal 5 zero_pen ?_);clear d0;intro w4 hb4 hbw4 hsz4;obtain ⟨gp, hgp⟩ := xe w_.heap.size;have HG1 := kq (g1 < gp ∧ w.heap.size ≤ gp) (by have h1 := HX.o.lt; have h2 := HB.o.size; omega);have HX4 := kp (HX.o.grow hbw4);have HB4 := kp (HB.o.grow' hbw4);rw [← hgp] at hb4 hsz4 ⊢;have HP := kq (PenAt w4 (KR gp 0 0) gp []) (PenAt.new hb4 (fun k hk => by rcases hk with h | h; omega; omega));have HKB := kq (KB gp w4 w4) ⟨Below.refl _ _, by omega⟩;have HXB := kq (∀ w', KB gp w4 w' → At w' g1 33 73 xv) (fun w' h => ⟨HX4.o.blk.below h.1 HG1.o.1, HX4.o.len⟩);have HBB := kq (∀ w', KB gp w4 w' → Below w.heap.size w w') (fun w' h => HB4.o.trans (h.1.mono HG1.o.2));clear hb4 hbw4 hsz4 hgp HX HB HX4;have c0 := (HXB.o _ HKB.o).blk.at_ X0.o;have qk := convI (k := k) (by omega) (by omega);go_wp2_with fail;refine (num_anyI gp k (KR gp 0 0) [] _ HP.o (by simp) (by clear qk; omega) (by clear qk; omega)).mono ?_;rintro e v_ ⟨rfl, hp_, hk_⟩;have HP_ := kp hp_;have HKB_ := kp (HKB.o.keptR hk_);clear hp_ hk_ HP HKB;have HP := HP_; have HKB := HKB_;clear HP_ HKB_;try clear w_
 rename World => w_;clear c0 qk;obtain ⟨p0, hp0⟩ := xe (numB k.toNat);have hl0 : p0.length ≤ 9 := by rw [hp0]; exact numB_le (by omega)
 replace HP := kq (PenAt w_ (KR gp 0 0) gp p0) (by rw [hp0]; exact HP.o);rw [← hp0] at P1 PT2 P7 P9 P8;clear hp0;have c0 := (HXB.o _ HKB.o).blk.at_ X0.o
 go_upto_block 0 with fail
 go_cut [] from 6 (fun wr => Hid (PenAt wr (KR gp 0 0) gp pc ∧ pc.length ≤ 100000) ∧ Hid (KB gp w4 wr))
 case first =>
  by_cases h_1 : k = 1
  ·have y_1 := beq_te (a := k) (b := 1) h_1;have PQ := kp (P1.o h_1);clear h_1;clear c0;have c0 := (HXB.o _ HKB.o).blk.at_ X0.o;have c39 := (HXB.o _ HKB.o).blk.at_ X39.o;have qk := convI (k := se) (by omega) (by omega);go_wp2_with fail;refine (num_anyI gp se (KR gp 0 0) p0 _ HP.o (by clear qk; omega) (by clear qk; omega) (by clear qk; omega)).mono ?_;rintro e v_ ⟨rfl, hp_, hk_⟩;have HP_ := kp hp_;have HKB_ := kp (HKB.o.keptR hk_);clear hp_ hk_ HP HKB;have HP := HP_; have HKB := HKB_;clear HP_ HKB_;try clear w_
   rename World => w_;clear c0 c39 qk;have ls := numB_le (n := se.toNat) (by omega);have FO := kq (∀ j u, (own.map B)[j]? = some u → w_.cell? ⟨g1, 6 + j, none⟩ = some u) (fun j u hu => (HXB.o _ HKB.o).blk.at_ (XO.o j u hu));go_wp2_with (with_reducible refine wlm 30 row_aid FO.o HDO.o.len ?_);refine (pid_any gp (KR gp 0 0) (p0 ++ numB se.toNat) HDO.o _ HP.o (by rw [List.length_append]; omega)).mono ?_;rintro e v_ ⟨rfl, hp_, hk_⟩;have HP_ := kp hp_;have HKB_ := kp (HKB.o.keptR hk_);clear hp_ hk_ HP HKB;have HP := HP_; have HKB := HKB_;clear HP_ HKB_;try clear w_
   rename World => w_;clear FO;have lo := HLO.o;have c38 := (HXB.o _ HKB.o).blk.at_ XA.o;go_wp2_with fail;refine (num_anyI gp am (KR gp 0 0) (p0 ++ numB se.toNat ++ own) _ HP.o (by rw [List.length_append, List.length_append]; omega) HAM.o.1 HAM.o.2).mono ?_;rintro e v_ ⟨rfl, hp_, hk_⟩;have HP_ := kp hp_;have HKB_ := kp (HKB.o.keptR hk_);clear hp_ hk_ HP HKB;have HP := HP_; have HKB := HKB_;clear HP_ HKB_;try clear w_
   rename World => w_;clear c38;have la := numB_le (n := am.toNat) (by have := HAM.o.2; omega);have HPN := kq (PenAt w_ (KR gp 0 0) gp pc ∧ pc.length ≤ 100000) ⟨by rw [PQ.o]; exact HP.o, by rw [PQ.o]; simp only [List.length_append]; omega⟩;clear HP la lo ls;go_wp2_with fail
   go_meet
   case rel => exact ⟨HPN, HKB⟩
  have y_1 := beq_fe (a := k) (b := 1) h_1;have H_1 := kp h_1;clear h_1;go_wp2_with fail;refine (HHT.o _).mono ?_;rintro e v_ ⟨rfl, y_⟩;replace HP := kp (HP.o.grow y_);replace HKB := kp (HKB.o.grow y_);clear c0 y_;try clear w_
  rename World => w_;have c0 := (HXB.o _ HKB.o).blk.at_ X0.o;obtain ⟨ht, hht⟩ := xe (hasTxK k);rw [← hht] at HTB2 PT2 P8 ⊢;clear hht;cases ht with
  | false =>
   by_cases h_7 : k = 7
   ·have y_7 := beq_te (a := k) (b := 7) h_7;have PQ := kp (P7.o h_7);clear h_7;have c40 := (HXB.o _ HKB.o).blk.at_ X40.o;have qk := convI (k := ep) (by omega) (by omega);go_wp2_with fail;refine (num_anyI gp ep (KR gp 0 0) p0 _ HP.o (by clear qk; omega) (by clear qk; omega) (by clear qk; omega)).mono ?_;rintro e v_ ⟨rfl, hp_, hk_⟩;have HP_ := kp hp_;have HKB_ := kp (HKB.o.keptR hk_);clear hp_ hk_ HP HKB;have HP := HP_; have HKB := HKB_;clear HP_ HKB_;try clear w_
    rename World => w_;clear c0 c40 qk;have ls := numB_le (n := ep.toNat) (by omega);have HPN := kq (PenAt w_ (KR gp 0 0) gp pc ∧ pc.length ≤ 100000) ⟨by rw [PQ.o]; exact HP.o, by rw [PQ.o]; simp only [List.length_append]; omega⟩;clear HP ls;go_wp2_with fail
    go_meet
    case rel => exact ⟨HPN, HKB⟩
   have y_7 := beq_fe (a := k) (b := 7) h_7;have H_7 := kp h_7;clear h_7;by_cases h_9 : k = 9
   ·have y_9 := beq_te (a := k) (b := 9) h_9;have PQ := kp (P9.o h_9);clear h_9;have FI := kq (∀ j u, (mid.map B)[j]? = some u → w_.cell? ⟨g1, 41 + j, none⟩ = some u) (fun j u hu => (HXB.o _ HKB.o).blk.at_ (XI.o j u hu));go_wp2_with (with_reducible refine wlm 80 row_aid FI.o HDI.o.len ?_);refine (pid_any gp (KR gp 0 0) p0 HDI.o _ HP.o (by omega)).mono ?_;rintro e v_ ⟨rfl, hp_, hk_⟩;have HP_ := kp hp_;have HKB_ := kp (HKB.o.keptR hk_);clear hp_ hk_ HP HKB;have HP := HP_; have HKB := HKB_;clear HP_ HKB_;try clear w_
    rename World => w_;clear c0 FI;have lo := HLI.o;have HPN := kq (PenAt w_ (KR gp 0 0) gp pc ∧ pc.length ≤ 100000) ⟨by rw [PQ.o]; exact HP.o, by rw [PQ.o]; simp only [List.length_append]; omega⟩;clear HP lo;go_wp2_with fail
    go_meet
    case rel => exact ⟨HPN, HKB⟩
   have y_9 := beq_fe (a := k) (b := 9) h_9;have HPN := kq (PenAt w_ (KR gp 0 0) gp pc ∧ pc.length ≤ 100000) (by rw [P8.o H_1.o rfl H_7.o h_9]; exact ⟨HP.o, by omega⟩);clear h_9 HP;go_wp2_with fail
   go_meet
   case rel => exact ⟨HPN, HKB⟩
  | true =>
   have htl : tb.length ≤ 3000 := HTB2.o rfl;have PQ := kp (PT2.o rfl);have FX := kq (∀ j u, tv[j]? = some u → w_.cell? ⟨g1, 1 + j, none⟩ = some u) (fun j u hu => (HXB.o _ HKB.o).blk.at_ (XX.o j u hu));go_wp2_with (with_reducible refine wlm 42 row_tx FX.o LX.o ?_);refine (HTP.o _ (HBB.o _ HKB.o)).mono ?_;rintro e w3_ ⟨TA, TC, rfl, ho_, hc_, y_⟩;have HO_ := kp ho_;have HGW := kp y_;have HKB_ := kp (HKB.o.grow y_);obtain ⟨tl, htl2⟩ := xe tb.length;have HTE := kp htl2;rw [← htl2] at HO_ PQ htl ⊢;clear c0 FX HKB ho_ hc_ y_ htl2;have HKB := HKB_;clear HKB_;go_wp2_with fail;refine (ptexto_any gp p0 _ _ HP.o HGW.o HTE.o.symm HO_.o (by omega)).mono ?_;rintro e v_ ⟨rfl, hp_, hk_⟩;have HP_ := kp hp_;have HKB_ := kp (HKB.o.keptR hk_);clear hp_ hk_ HP HKB HO_ HGW;have HP := HP_; have HKB := HKB_;clear HP_ HKB_;try clear w_
   try clear w3_
   rename World => w_;obtain ⟨p1, hp1⟩ := xe (p0 ++ (numB tl ++ tb));have hl1 : p1.length ≤ 3018 := by rw [hp1]; have := numB_le (n := tl) (by omega); have := HTE.o; simp only [List.length_append]; omega
   rw [← hp1] at HP PQ;clear hp1 hl0 HTE htl;have c0 := (HXB.o _ HKB.o).blk.at_ X0.o;go_wp2_with fail;refine (HHC.o _).mono ?_;rintro e v_ ⟨rfl, y_⟩;replace HP := kp (HP.o.grow y_);replace HKB := kp (HKB.o.grow y_);clear c0 y_;try clear w_
   rename World => w_;obtain ⟨hc, hhc⟩ := xe (hasCK k);rw [← hhc] at PQ ⊢;clear hhc;obtain ⟨p2, hp2⟩ := xe (p1 ++ (if hc then numB n3 else []));have HPE := kp hp2;have hl2 : p2.length ≤ 3030 := by rw [hp2]; have := numB_le (n := n3) (by omega); rw [List.length_append]; split; omega; simp; omega
   rw [← hp2] at PQ;clear hp2
   go_upto_if 50 with fail
   go_cut [] from 51 to 55 (fun wr => Hid (PenAt wr (KR gp 0 0) gp p2) ∧ Hid (KB gp w4 wr))
   case first =>
    cases hc with
    | false =>
     have HPN := kq (PenAt w_ (KR gp 0 0) gp p2) (by rw [HPE.o]; simpa using HP.o);go_wp2_with fail
     go_meet
     case rel => exact ⟨HPN, HKB⟩
    | true =>
     have c5 := (HXB.o _ HKB.o).blk.at_ X5.o;have qk := convI (k := (n3 : Int)) (by omega) (by omega);go_wp2_with fail;refine (num_any gp n3 (KR gp 0 0) p1 _ HP.o (by clear qk; omega) (by clear qk; omega)).mono ?_;rintro e v_ ⟨rfl, hp_, hk_⟩;have HPN := kq (PenAt v_ (KR gp 0 0) gp p2) (by rw [HPE.o]; simpa using hp_);have HKB_ := kp (HKB.o.keptR hk_);clear hp_ hk_ HP HKB c5 qk;go_wp2_with fail
     go_meet
     case rel => exact ⟨HPN, HKB_⟩
   case rest =>
    obtain ⟨hp_, hk_⟩ := hcut;clear HP HKB HPE;have HP := hp_; have HKB := hk_;clear hp_ hk_;try clear w_
    rename World => w_;have c5 := (HXB.o _ HKB.o).blk.at_ X5.o;go_wp2_with fail;go_loopw [59] (fun iv wr => ∃ j : Nat, j ≤ n3 ∧ iv = .int .i64 j ∧ Hid (PenAt wr (KR gp 0 0) gp (p2 ++ (crs.take j).flatMap certText)) ∧ Hid (KB gp w4 wr)) (fun iv _ => n3 - (intOf iv).toNat)
    case atStart => exact ⟨0, by omega, rfl, kp (by simpa using HP.o), HKB⟩
    case round =>
     obtain ⟨j, hj, rfl, hp_, hk_⟩ := hrel;clear HP HKB c5;have HP := hp_; have HKB := hk_;clear hp_ hk_;rename World => w_;by_cases hlt : j < n3
     ·obtain ⟨b, off, p, P1_, pn, pcp, rfl, hp, hp1, hok, hid, hbl, hcc⟩ := (HCA.o w (Below.refl _ _)).at_ hlt;have HPX := kq (crs[j]? = some p.2) (by rw [HCE.o, List.getElem?_map, hp]; rfl);have HSN := kp (fm_snoc certText HPX.o);have HPC := kp (cerV_cl (v := .slice P1_ pn pcp) rfl hok);have HB := kp (HBB.o _ HKB.o);have HC := kq (∀ i u, (certV (.slice P1_ pn pcp) p.2)[i]? = some u → w_.cell? ⟨b, off + j * 137 + i, none⟩ = some u) (fun i u hu => bcell HB.o (hcc i u hu));have HFL := kp (fm_le certText 2009 j HCT2.o);have HL1 := kp (HCT2.o _ (List.mem_of_getElem? HPX.o));have HPT := kq (pn ≤ 1000) (by rw [← hid.2.1]; exact HPL.o _ (List.mem_of_getElem? HPX.o));have HPUT := kp (fun (w' : World) (hg : Grow w w') => cputo_any (A2 := P1_) (n2 := pn) (c2 := pcp) w' hok HPT.o (hid.grow hg));obtain ⟨cb, hcb⟩ := xe (putCB p.2);have HCB := kq (certText p.2 = numB cb.length ++ cb) (by rw [hcb]; rfl);rw [HCB.o] at HSN HL1;rw [← hcb] at HPUT;obtain ⟨pv, hpv⟩ := xe (certV (.slice P1_ pn pcp) p.2);rw [← hpv] at HPC HC HPUT;have hlc : cb.length ≤ 2009 := by have := HL1.o; rw [List.length_append] at this; omega
      obtain ⟨xs, hxs⟩ := xe (p2 ++ (crs.take j).flatMap certText);have HXE := kp hxs;have hxl : xs.length ≤ 3030 + 16 * 2009 := by rw [hxs, List.length_append]; have := HFL.o; omega
      rw [← hxs] at HP;clear hp hp1 hok hid hbl hcc hcb hpv hxs HFL HPT HL1;go_wp2_with (with_reducible first | refine wlm 62 row_cert HC.o HPC.o.len ?_ | refine wal 9 zero_cert ?_);intro w1_ hb1_ hbw1_ hsz1_;have HB1_ := kp (at_mk hb1_ len_cert);have HBW1_ := kp hbw1_;have HZ1_ := kp hsz1_;clear hb1_ hbw1_ hsz1_;go_wp2_with (with_reducible refine wsb row_cert HB1_.o.blk HB1_.o.len HPC.o.len HPC.o.one ?_);intro v_ b_ g_ s_;have y_ := var_grow HBW1_.o HZ1_.o g_;have HX_ := kp (at_mk b_ HPC.o.len);clear b_ g_ s_ HB1_ HBW1_ HZ1_;replace HB := kp (HB.o.grow' y_);replace HP := kp (HP.o.grow y_);replace HKB := kp (HKB.o.grow y_);generalize hg_ : w_.heap.size = g9 at HX_ ⊢;clear hg_;have HE := HX_;clear y_ HX_;clear w1_;try clear w_
      rename World => w_;clear HC HB;go_wp2_with (with_reducible refine wlb 63 row_cert HE.o.blk HE.o.len ?_);refine (HPUT.o _ (HBB.o _ HKB.o)).mono ?_;rintro e w3_ ⟨TA, TC, rfl, ho_, hc_, y_⟩;have HO_ := kp ho_;have HGW := kp y_;have HKB_ := kp (HKB.o.grow y_);obtain ⟨tl2, htl2⟩ := xe cb.length;have HTE := kp htl2;rw [← htl2] at HO_ hlc HSN ⊢;clear HKB ho_ hc_ y_ htl2 HE HPUT;have HKB := HKB_;clear HKB_;go_wp2_with fail;refine (ptexto_any gp xs _ _ HP.o HGW.o HTE.o.symm HO_.o (by omega)).mono ?_;rintro e v_ ⟨rfl, hp_, hk_⟩;replace HP := kq (PenAt v_ (KR gp 0 0) gp (p2 ++ (crs.take (j + 1)).flatMap certText)) (by rw [HSN.o, ← List.append_assoc, ← HXE.o]; exact hp_);replace HKB := kp (HKB.o.keptR hk_);clear hp_ hk_ HO_ HGW;try clear w_
      try clear w3_
      rename World => w_;clear hlc hxl;go_wp2_with fail;go_roundw
      case rel => exact ⟨j + 1, by omega, by go_num, HP, HKB⟩
      case measure => simp [intOf]; omega
     ·obtain rfl : j = n3 := by omega
      have HPN := kp (show PenAt w_ (KR gp 0 0) gp pc ∧ pc.length ≤ 100000 from by
       have h := HP.o;rw [List.take_of_length_le (by rw [HCL.o]; exact Nat.le_refl _), ← PQ.o] at h;refine ⟨h, ?_⟩;have h2 := fm_len certText 2009 crs HCT2.o;rw [HCL.o] at h2
       rw [PQ.o, List.length_append]; omega)
      go_wp2_with fail
      go_meet
      case rel => exact ⟨HPN, HKB⟩
 case rest =>
  obtain ⟨hp_, hk_⟩ := hcut;clear HP HKB c0;have HP := kp hp_.o.1; have hpl := hp_.o.2;have HKB := hk_;clear hp_ hk_;try clear w_
  rename World => w_;go_wp2_with fail;refine (pbytes_any gp (KR gp 0 0) pc _ HP.o (by omega)).mono ?_;rintro e w6 ⟨A', c', rfl, ho, hc, hg5⟩;have HO5 := kp (own_base ho (HBB.o _ HKB.o).size);have HC5 := kp hc;have HB6 := kq (Grow w w6) ((HBB.o _ HKB.o).grow' hg5);clear ho hc hg5 HP HKB;by_cases h8 : 8192 < pc.length
  ·have HNI := kp (F22.o h8);have y8 : (8192 : Int) < (pc.length : Int) := by omega
   go_wp2_with fail
   go_ret2
   exact ⟨none, 0, by rw [HNI.o]; rfl, by rw [HNI.o]; exact World.ownsRow_nil _ _ _ _, by rw [HNI.o]; exact Nat.le_refl _, HB6.o⟩
  ·have HNI := kp (F32.o h8);have y8 := lt_fe (a := 8192) (b := (pc.length : Int)) (by omega);go_wp2_with fail
   go_ret2
   exact ⟨A', c', by rw [HNI.o]; rfl, by rw [HNI.o]; exact HO5.o, by rw [HNI.o]; exact HC5.o, HB6.o⟩
end Go.Proofs.Ytobmldegjajocaa

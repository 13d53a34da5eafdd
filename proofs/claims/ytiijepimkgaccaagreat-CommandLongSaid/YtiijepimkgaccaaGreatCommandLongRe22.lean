/- Contracts: the closure of Same, slices.EqualFunc of ins, tx.Same. Printed by mktsame2.py. -/
import Derived.Test.YtiijepimkgaccaaGreatCommandLongRe21
set_option linter.unusedSimpArgs false
set_option linter.unusedVariables false
set_option maxRecDepth 100000
set_option maxHeartbeats 16000000
namespace Go.Proofs.YtiijepimkgaccaaGreat
open Go.RowKit Go.Shelf
theorem inp_eq {x y : Inp} {rp rs res : Bool} (h1 : rp = true ↔ x.pt = y.pt) (h3 : decide (x.secret = y.secret) = rs) (h : res = true ↔ x = y) : res = (rp && decide (x.amount = y.amount) && rs) := by
 rw [Bool.eq_iff_iff, h];simp only [Bool.and_eq_true, h1, ← h3, decide_eq_true_iff];obtain ⟨a, b, c, d⟩ := x; obtain ⟨a2, b2, c2, d2⟩ := y;simp [Inp.pt, and_assoc]
theorem txn_eq {a b : Txn} {ri ro res : Bool} (h1 : ri = true ↔ a.ins = b.ins) (h2 : ro = true ↔ a.outs = b.outs) (h : res = true ↔ a = b) : res = (ri && ro && decide (a.fee = b.fee) && decide (a.expiry = b.expiry)) := by
 rw [Bool.eq_iff_iff, h];simp only [Bool.and_eq_true, h1, h2, decide_eq_true_iff];obtain ⟨x1, x2, x3, x4⟩ := a; obtain ⟨y1, y2, y3, y4⟩ := b;simp [and_assoc]
theorem InOK.grow {w w2 : World} {p : Value × Inp} (h : InOK w w.heap.size p) (hg : Grow w w2) : InOK w2 w2.heap.size p := by
 obtain ⟨⟨A, c, e, hc, hs⟩, hk⟩ := h;exact ⟨⟨A, c, e, hc, (hs.below hg).more hg.size⟩, hk⟩
theorem same1_any {res : Bool} {p q : Value × Inp} (hres : res = true ↔ p.2 = q.2) (w : World) (h1 : InOK w w.heap.size p) (h2 : InOK w w.heap.size q) (hn : p.2.secret.length ≤ 1000000) :
  Calls Tryz.prog 71 #[.agg (inV p.1 p.2).toArray, .agg (inV q.1 q.2).toArray] w fun e w' => e = .returned (.bool res) ∧ Grow w w' := by
 have HPC := kp (inV_cl h1); have HQC := kp (inV_cl h2);obtain ⟨⟨A, c, e1, hc1, hs1⟩, hk1⟩ := h1;obtain ⟨⟨A2, c2, e2, hc2, hs2⟩, hk2⟩ := h2;obtain ⟨r, hr, hq⟩ := pt_eq (x := p.2.pt) (y := q.2.pt) ⟨hk1.1, hk1.2.1⟩ ⟨hk2.1, hk2.2.1⟩;obtain ⟨rs, hrs⟩ : ∃ z, decide (p.2.secret = q.2.secret) = z := ⟨_, rfl⟩;have HRES := kp (inp_eq hr hrs hres);have HSB := kp (fun (w' : World) (hg : Grow w w') => sbytes_any (A := A) (n := p.2.secret.length) (c := c) (A2 := A2) (n2 := q.2.secret.length) (c2 := c2) hrs w' ((hs1.below hg).more hg.size) ((hs2.below hg).more hg.size) hn);have HP3 := kq ((inV p.1 p.2)[33]? = some (.int .u64 p.2.amount)) ((in_at hk1).2.1);have HP4 := kq ((inV p.1 p.2)[34]? = some (.slice A p.2.secret.length c)) (by rw [← e1]; exact (in_at hk1).2.2);have HQ3 := kq ((inV q.1 q.2)[33]? = some (.int .u64 q.2.amount)) ((in_at hk2).2.1);have HQ4 := kq ((inV q.1 q.2)[34]? = some (.slice A2 q.2.secret.length c2)) (by rw [← e2]; exact (in_at hk2).2.2);have HPT := kp (fun (w : World) (g : Nat) (h : Blk w g 58 (inV p.1 p.2)) => pt_cells h hk1);have HQT := kp (fun (w : World) (g : Nat) (h : Blk w g 58 (inV q.1 q.2)) => pt_cells h hk2);have HXL := kp (ptKV_len (x := p.2.pt) ⟨hk1.1, hk1.2.1⟩); have HYL := kp (ptKV_len (x := q.2.pt) ⟨hk2.1, hk2.2.1⟩);clear hr hrs hres hs1 hs2 hk1 hk2 hc1 hc2 e1 e2 hn;obtain ⟨n1, hn1⟩ := xe p.2.secret.length;obtain ⟨n2, hn2⟩ := xe q.2.secret.length;obtain ⟨am, ham⟩ := xe p.2.amount;obtain ⟨an, han⟩ := xe q.2.amount;obtain ⟨xp, hxp⟩ := xe (ptKV p.2.pt);obtain ⟨xq, hxq⟩ := xe (ptKV q.2.pt);obtain ⟨pv, hpv⟩ := xe (inV p.1 p.2);obtain ⟨qv, hqv⟩ := xe (inV q.1 q.2);rw [← hn1] at HSB HP4;rw [← hn2] at HSB HQ4;rw [← ham] at HRES HP3;rw [← han] at HRES HQ3;rw [← hxp] at HPT HXL hq;rw [← hxq] at HQT HYL hq;rw [← hpv] at HPC HP3 HP4 HPT ⊢;rw [← hqv] at HQC HQ3 HQ4 HQT ⊢;clear hn1 hn2 ham han hxp hxq hpv hqv;refine bq (fun w_ HB => ?_)
 go_enter Tryz.func71, Tryz.ntmps71
 go_wp2_with (with_reducible refine wbx 2 ?_);intro v_ b_ y_ hsz2_;have HX_ := kp (at_mk b_ HPC.o.len);clear b_ hsz2_;have HG_ := kp HB.o.size;replace HB := kp (HB.o.grow' y_);generalize hg_ : w_.heap.size = g1 at HX_ HG_ ⊢;clear hg_;have HX_g := HG_;clear HG_;have HX := HX_;clear y_ HX_;try clear w_
 rename World => w_;go_wp2_with (with_reducible refine wbx 3 ?_);intro v_ b_ y_ hsz2_;have HX_ := kp (at_mk b_ HQC.o.len);clear b_ hsz2_;have HG_ := kp HB.o.size;replace HB := kp (HB.o.grow' y_);replace HX := kp (HX.o.grow y_);generalize hg_ : w_.heap.size = g2 at HX_ HG_ ⊢;clear hg_;have HY_g := HG_;clear HG_;have HY := HX_;clear y_ HX_;try clear w_
 rename World => w_;have FM1 := kp (HPT.o _ _ HX.o.blk);have FM2 := kp (HQT.o _ _ HY.o.blk);have c33 := HX.o.blk.at_ HP3.o; have c34 := HX.o.blk.at_ HP4.o;have d33 := HY.o.blk.at_ HQ3.o; have d34 := HY.o.blk.at_ HQ4.o;cases r with
 | false =>
  have HF := kq (res = false) (by rw [HRES.o]; rfl);go_wp2_with (with_reducible first | refine wlm 6 row_point FM1.o HXL.o ?_ | refine wlm 8 row_point FM2.o HYL.o ?_);go_ret
  exact ⟨by rw [HF.o]; rfl, HB.o⟩
 | true =>
  by_cases hea : am = an
  ·have HF := kq (res = rs) (by rw [HRES.o, decide_eq_true hea]; rfl);subst hea;have b1 : (am == am) = true := by simp
   have b2 : decide (am = am) = true := by simp
   go_wp2_with (with_reducible first | refine wlm 6 row_point FM1.o HXL.o ?_ | refine wlm 8 row_point FM2.o HYL.o ?_);refine (HSB.o _ HB.o).mono ?_;rintro e v_ ⟨rfl, y_⟩;have HB_ := kp (HB.o.grow' y_);clear y_ HB;go_wp2_with fail;go_ret
   exact ⟨by rw [HF.o]; rfl, HB_.o⟩
  ·have HF := kq (res = false) (by rw [HRES.o, decide_eq_false hea]; rfl);have b1 : (am == an) = false := by simp [hea]
   have b2 : decide (am = an) = false := by simp [hea]
   go_wp2_with (with_reducible first | refine wlm 6 row_point FM1.o HXL.o ?_ | refine wlm 8 row_point FM2.o HYL.o ?_);go_ret
   exact ⟨by rw [HF.o]; rfl, HB.o⟩
theorem eqfunc_any {res : Bool} {A A2 : Option Addr} {n c n2 c2 : Nat} {l m : List (Value × Inp)} (hres : res = true ↔ l.map Prod.snd = m.map Prod.snd) (w : World) (hn : n ≤ 1000000) (hsec : ∀ p ∈ l, p.2.secret.length ≤ 1000000) (h1 : InsAt w A n c l) (h2 : InsAt w A2 n2 c2 m) :
  Calls Tryz.prog 70 #[.slice A n c, .slice A2 n2 c2, .func (.func 71) #[] #[]] w fun e w' => e = .returned (.bool res) ∧ Grow w w' := by
 have H1 := kp h1; have H2 := kp h2;have HL1 := kp h1.2.2.1; have HL2 := kp h2.2.2.1;have HRES := kp hres; have HSEC := kp hsec;clear h1 h2 hres hsec;refine bq (fun w_ HB => ?_);by_cases hl : n = n2
 ·subst hl;have g1 : ((n : Int) == (n : Int)) = true := by simp
  have g2 : ((n : Int) != (n : Int)) = false := by simp
  go_enter Tryz.func70, Tryz.ntmps70
  go_wp2_with fail;go_loopw [17] (fun i wr => ∃ k : Nat, k ≤ n ∧ i = .int .i64 k ∧ Hid ((l.map Prod.snd).take k = (m.map Prod.snd).take k) ∧ Hid (Below w.heap.size w wr)) (fun i _ => n - (intOf i).toNat)
  case atStart => exact ⟨0, by omega, rfl, kp (by simp), HB⟩
  case round =>
   obtain ⟨k, hk, rfl, hup, hbw⟩ := hrel;clear HB;have HB := hbw;clear hbw;rename World => w_;by_cases hlt : k < n
   ·obtain ⟨b, off, p, rfl, hp, hok, hc⟩ := H1.o.at_ hlt;obtain ⟨b2, off2, q, rfl, hp2, hok2, hc2⟩ := H2.o.at_ hlt;have HP := kq ((l.map Prod.snd)[k]? = some p.2) (by rw [List.getElem?_map, hp]; rfl);have HP2 := kq ((m.map Prod.snd)[k]? = some q.2) (by rw [List.getElem?_map, hp2]; rfl);have HPC := kp (inV_cl hok); have HQC := kp (inV_cl hok2)
    obtain ⟨r, hr⟩ : ∃ r : Bool, (r = true ↔ p.2 = q.2) := by
     by_cases h : p.2 = q.2
     ·exact ⟨true, by simp [h]⟩
     ·exact ⟨false, by simp [h]⟩
    have HRR := kp hr;have HL := kp (fun (w' : World) (hg : Grow w w') => same1_any hr w' (hok.grow hg) (hok2.grow hg) (HSEC.o p (List.mem_of_getElem? hp)));have HC0 := kp hc; have HD0 := kp hc2;obtain ⟨pv, hpv⟩ := xe (inV p.1 p.2);obtain ⟨qv, hqv⟩ := xe (inV q.1 q.2);rw [← hpv] at HPC HC0 HL;rw [← hqv] at HQC HD0 HL;clear hr hp hp2 hok hok2 hc hc2 hpv hqv;have v1 : IntKind.i64.wrap ((k : Int) + 1) = (k : Int) + 1 := IntWalk.i64_in _ (by omega);have v2 : RowKit.wrap64 ((k : Int) + 1) = (k : Int) + 1 := wrap64_in _ (by clear v1; omega);have HC := kq (∀ j' u, pv[j']? = some u → w_.cell? ⟨b, off + k * 35 + j', none⟩ = some u) (fun j' u hu => bcell HB.o (HC0.o j' u hu));go_wp2_with (with_reducible first | refine wlm 21 row_tin HC.o HPC.o.len ?_ | refine wal 8 zero_tin ?_);intro w1_ hb1_ hbw1_ hsz1_;have HB1_ := kp (at_mk hb1_ len_tin);have HBW1_ := kp hbw1_;have HZ1_ := kp hsz1_;clear hb1_ hbw1_ hsz1_;go_wp2_with (with_reducible refine wsb row_tin HB1_.o.blk HB1_.o.len HPC.o.len HPC.o.one ?_);intro v_ b_ g_ hsz2_;have y_ := var_grow HBW1_.o HZ1_.o g_;have HX_ := kp (at_mk b_ HPC.o.len);clear b_ g_ hsz2_ HB1_ HBW1_ HZ1_;replace HB := kp (HB.o.grow' y_);generalize hg_ : w_.heap.size = g8 at HX_ ⊢;clear hg_;have HE := HX_;clear y_ HX_;clear w1_;try clear w_
    rename World => w_;clear HC;have HD := kq (∀ j' u, qv[j']? = some u → w_.cell? ⟨b2, off2 + k * 35 + j', none⟩ = some u) (fun j' u hu => bcell HB.o (HD0.o j' u hu));go_wp2_with (with_reducible first | refine wlm 25 row_tin HD.o HQC.o.len ?_ | refine wal 9 zero_tin ?_);intro w1_ hb1_ hbw1_ hsz1_;have HB1_ := kp (at_mk hb1_ len_tin);have HBW1_ := kp hbw1_;have HZ1_ := kp hsz1_;clear hb1_ hbw1_ hsz1_;go_wp2_with (with_reducible refine wsb row_tin HB1_.o.blk HB1_.o.len HQC.o.len HQC.o.one ?_);intro v_ b_ g_ hsz2_;have y_ := var_grow HBW1_.o HZ1_.o g_;have HX_ := kp (at_mk b_ HQC.o.len);clear b_ g_ hsz2_ HB1_ HBW1_ HZ1_;replace HB := kp (HB.o.grow' y_);replace HE := kp (HE.o.grow y_);generalize hg_ : w_.heap.size = g9 at HX_ ⊢;clear hg_;have HF := HX_;clear y_ HX_;clear w1_;try clear w_
    rename World => w_;clear HD;go_wp2_with (with_reducible first | refine wlb 27 row_tin HE.o.blk HE.o.len ?_ | refine wlb 28 row_tin HF.o.blk HF.o.len ?_);refine (HL.o _ HB.o).mono ?_;rintro e v_ ⟨rfl, y_⟩;have HB_ := kp (HB.o.grow' y_);clear y_ HB HL;cases r with
    | true =>
     have HEQ := kq (p.2 = q.2) (HRR.o.1 rfl);go_wp2_with fail;go_roundw
     all_goals clear v1 v2
     case rel => exact ⟨k + 1, by omega, by go_num, kp (by rw [List.take_add_one, List.take_add_one, HP.o, HP2.o, hup.o, HEQ.o]), HB_⟩
     case measure => simp [intOf]; omega
    | false =>
     have HN := kp (show res = false by
      cases res with
      | false => rfl
      | true =>
       have h := HRES.o.1 rfl;have h1 := HP.o;rw [h, HP2.o] at h1;have := HRR.o.2 (Option.some.inj h1).symm
       cases this)
     clear v1 v2;go_wp2_with fail;go_ret
     exact ⟨by rw [HN.o]; rfl, HB_.o⟩
   ·have HN := kp (show res = true by
      refine HRES.o.2 ?_;have h := hup.o;rw [List.take_of_length_le (by rw [List.length_map, HL1.o]; omega), List.take_of_length_le (by rw [List.length_map, HL2.o]; omega)] at h
      exact h)
    go_wp2_with fail;go_ret
    exact ⟨by rw [HN.o]; rfl, HB.o⟩
 ·have g1 : ((n : Int) == (n2 : Int)) = false := by simp; omega
  have g2 : ((n : Int) != (n2 : Int)) = true := by simp; omega
  have g3 : (n == n2) = false := by simp; omega
  have g4 : (n != n2) = true := by simp; omega
  have g5 : decide (n = n2) = false := by simp; omega
  have HN := kp (show res = false by
   cases res with
   | false => rfl
   | true => have h := congrArg List.length (HRES.o.1 rfl); rw [List.length_map, List.length_map, HL1.o, HL2.o] at h; exact absurd h hl)
  clear hl
  go_enter Tryz.func70, Tryz.ntmps70
  go_wp2_with fail;go_ret
  exact ⟨by rw [HN.o]; rfl, HB.o⟩
theorem tsame_any {res : Bool} {A A2 : Option Addr} {n c n2 c2 : Nat} {B1 B2 : Option Addr} {m d m2 d2 : Nat} {fee ex fee2 ex2 : Int} {l l2 : List (Value × Inp)} {os os2 : List Outp} (hres : res = true ↔ (⟨l.map Prod.snd, os, fee, ex⟩ : Txn) = ⟨l2.map Prod.snd, os2, fee2, ex2⟩) (w : World) (hn : n ≤ 1000000) (hm : m ≤ 1000000) (hsec : ∀ p ∈ l, p.2.secret.length ≤ 1000000) (h1 : InsAt w A n c l) (h2 : InsAt w A2 n2 c2 l2) (h3 : OutsAt w B1 m d os) (h4 : OutsAt w B2 m2 d2 os2) :
  Calls Tryz.prog 39 #[.agg (txV A n c B1 m d fee ex).toArray, .agg (txV A2 n2 c2 B2 m2 d2 fee2 ex2).toArray] w fun e w' => e = .returned (.bool res) ∧ Grow w w' := by
 obtain ⟨ri, hri⟩ : ∃ r : Bool, (r = true ↔ l.map Prod.snd = l2.map Prod.snd) := by
  by_cases h : l.map Prod.snd = l2.map Prod.snd
  ·exact ⟨true, by simp [h]⟩
  ·exact ⟨false, by simp [h]⟩
 obtain ⟨ro, hro⟩ : ∃ r : Bool, (r = true ↔ os = os2) := by
  by_cases h : os = os2
  ·exact ⟨true, by simp [h]⟩
  ·exact ⟨false, by simp [h]⟩
 have HRES := kq (res = (ri && ro && decide (fee = fee2) && decide (ex = ex2))) (txn_eq (a := ⟨l.map Prod.snd, os, fee, ex⟩) (b := ⟨l2.map Prod.snd, os2, fee2, ex2⟩) hri hro hres);have HEF := kp (fun (w' : World) (hg : Grow w w') => eqfunc_any hri w' hn hsec (h1.grow hg) (h2.grow hg));have HEO := kp (fun (w' : World) (hg : Grow w w') => eqouts_any hro w' hm (h3.grow hg) (h4.grow hg));have HTC := kp (txV_cl (A := A) (n := n) (c := c) (A2 := B1) (n2 := m) (c2 := d) (fee := fee) (ex := ex));have HUC := kp (txV_cl (A := A2) (n := n2) (c := c2) (A2 := B2) (n2 := m2) (c2 := d2) (fee := fee2) (ex := ex2));have HT0 := kq ((txV A n c B1 m d fee ex)[0]? = some (.slice A n c)) rfl;have HT1 := kq ((txV A n c B1 m d fee ex)[1]? = some (.slice B1 m d)) rfl;have HT2 := kq ((txV A n c B1 m d fee ex)[2]? = some (.int .u64 fee)) rfl;have HT3 := kq ((txV A n c B1 m d fee ex)[3]? = some (.int .i64 ex)) rfl;have HU0 := kq ((txV A2 n2 c2 B2 m2 d2 fee2 ex2)[0]? = some (.slice A2 n2 c2)) rfl;have HU1 := kq ((txV A2 n2 c2 B2 m2 d2 fee2 ex2)[1]? = some (.slice B2 m2 d2)) rfl;have HU2 := kq ((txV A2 n2 c2 B2 m2 d2 fee2 ex2)[2]? = some (.int .u64 fee2)) rfl;have HU3 := kq ((txV A2 n2 c2 B2 m2 d2 fee2 ex2)[3]? = some (.int .i64 ex2)) rfl;obtain ⟨tv, htv⟩ := xe (txV A n c B1 m d fee ex);obtain ⟨uv, huv⟩ := xe (txV A2 n2 c2 B2 m2 d2 fee2 ex2);rw [← htv] at HTC HT0 HT1 HT2 HT3 ⊢;rw [← huv] at HUC HU0 HU1 HU2 HU3 ⊢;clear htv huv hri hro hres h1 h2 h3 h4 hsec hn hm;refine bq (fun w_ HB => ?_)
 go_enter Tryz.func39, Tryz.ntmps39
 go_wp2_with (with_reducible refine wbx 2 ?_);intro v_ b_ y_ hsz2_;have HX_ := kp (at_mk b_ HTC.o.len);clear b_ hsz2_;have HG_ := kp HB.o.size;replace HB := kp (HB.o.grow' y_);generalize hg_ : w_.heap.size = g1 at HX_ HG_ ⊢;clear hg_;have HX_g := HG_;clear HG_;have HX := HX_;clear y_ HX_;try clear w_
 rename World => w_;go_wp2_with (with_reducible refine wbx 3 ?_);intro v_ b_ y_ hsz2_;have HX_ := kp (at_mk b_ HUC.o.len);clear b_ hsz2_;have HG_ := kp HB.o.size;replace HB := kp (HB.o.grow' y_);replace HX := kp (HX.o.grow y_);generalize hg_ : w_.heap.size = g2 at HX_ HG_ ⊢;clear hg_;have HY_g := HG_;clear HG_;have HY := HX_;clear y_ HX_;try clear w_
 rename World => w_;have c0 := HX.o.blk.at_ HT0.o; have d0 := HY.o.blk.at_ HU0.o;go_wp2_with fail;refine (HEF.o _ HB.o).mono ?_;clear c0 d0;rintro e v_ ⟨rfl, y_⟩;have y_ := y_;clear y_;replace HB := kp (HB.o.grow' y_);replace HX := kp (HX.o.grow y_);replace HY := kp (HY.o.grow y_);clear y_;try clear w_
 rename World => w_;have c1 := HX.o.blk.at_ HT1.o; have d1 := HY.o.blk.at_ HU1.o;cases ri with
 | false =>
  have HN := kq (res = false) (by rw [HRES.o]; rfl);go_wp2_with fail;go_ret
  exact ⟨by rw [HN.o]; rfl, HB.o⟩
 | true =>
  go_wp2_with fail;refine (HEO.o _ HB.o).mono ?_;clear c1 d1;rintro e w3_ ⟨rfl, y_⟩;have y_ := y_;clear y_;replace HB := kp (HB.o.grow' y_);replace HX := kp (HX.o.grow y_);replace HY := kp (HY.o.grow y_);clear y_;try clear w_
  rename World => w_;have c2_ := HX.o.blk.at_ HT2.o; have d2_ := HY.o.blk.at_ HU2.o;have c3_ := HX.o.blk.at_ HT3.o; have d3_ := HY.o.blk.at_ HU3.o;cases ro with
  | false =>
   have HN := kq (res = false) (by rw [HRES.o]; rfl);go_wp2_with fail;go_ret
   exact ⟨by rw [HN.o]; rfl, HB.o⟩
  | true =>
   by_cases hf : fee = fee2
   ·by_cases he : ex = ex2
    ·have HN := kq (res = true) (by rw [HRES.o, decide_eq_true hf, decide_eq_true he]; rfl);subst hf; subst he;go_wp2_with fail;go_ret
     exact ⟨by rw [HN.o]; simp, HB.o⟩
    ·have HN := kq (res = false) (by rw [HRES.o, decide_eq_false he]; simp);have b1 : (ex == ex2) = false := by simp [he]
     have b2 : decide (ex = ex2) = false := by simp [he]
     subst hf;go_wp2_with fail;go_ret
     exact ⟨by rw [HN.o]; first | rfl | simp [he], HB.o⟩
   ·have HN := kq (res = false) (by rw [HRES.o, decide_eq_false hf]; simp);have b1 : (fee == fee2) = false := by simp [hf]
    have b2 : decide (fee = fee2) = false := by simp [hf]
    go_wp2_with fail;go_ret
    exact ⟨by rw [HN.o]; first | rfl | simp [hf], HB.o⟩
theorem cerV_cl {v : Value} {x : Cer} (hv : v.oneCell' = true) (h : x.ok) : Cl 137 (certV v x) := ⟨certV_len h, fun u hu => by
 unfold certV entV hdrV at hu;simp only [List.mem_cons, List.mem_append, List.not_mem_nil, or_false] at hu;rcases hu with (rfl | rfl | h | rfl | rfl | rfl) | rfl | (rfl | rfl | rfl | h | h) | h
 all_goals first | rfl | exact hv | exact all_bytes _ u h⟩
theorem key_aidQ : WideMaps.KeyLaw Tryz.prog 32 := deep_law_laid laid_out' (m := 3) (by omega) (of_decide_eq_true (by kernel_rfl)) (by kernel_rfl) (by kernel_rfl)
theorem aid_eqQ (a b : List UInt8) (ha : a.length = 32) (hb : b.length = 32) : ∃ r : Bool, (r = true ↔ a = b) ∧ ∀ w, (Op.equalIn 10000 32 (.agg (a.map B).toArray) (.agg (b.map B).toArray)).run Tryz.prog w = .ok r w := by
 obtain ⟨n4, hn4⟩ := types_3;obtain ⟨r, hr, hq⟩ := eql_deep key_aidQ (m := 3) (by omega) (by kernel_rfl) (by kernel_rfl) (by kernel_rfl) (a.map B) (b.map B) (by rw [List.length_map, ha, cells_id]) (by rw [List.length_map, hb, cells_id]) (by rw [hn4]; exact lits_id _ _ ha) (by rw [hn4]; exact lits_id _ _ hb);exact ⟨r, hr.trans ⟨map_B_injT, fun h => by rw [h]⟩, hq⟩
def SmallC (m : Cmd) : Prop := m.tx.ins.length ≤ 100000 ∧ m.tx.outs.length ≤ 100000 ∧ (∀ i ∈ m.tx.ins, i.secret.length ≤ 1000000) ∧ m.certs.length ≤ 100000 ∧ ∀ x ∈ m.certs, x.path.length ≤ 1000
theorem bool_of (p : Prop) : ∃ r : Bool, r = true ↔ p := by
 by_cases h : p
 ·exact ⟨true, by simp [h]⟩
 ·exact ⟨false, by simp [h]⟩
theorem same_parts {a b : Cmd} {res rk rt rs re rd rx rc : Bool} (h : res = true ↔ a = b) (h1 : rk = true ↔ a.kind = b.kind) (h2 : rt = true ↔ a.dest = b.dest) (h3 : rs = true ↔ a.serial = b.serial) (h4 : re = true ↔ a.epoch = b.epoch) (h5 : rd = true ↔ a.id = b.id) (h6 : rx = true ↔ a.tx = b.tx) (h7 : rc = true ↔ a.certs = b.certs) :
  res = (rk && rt && rs && re && rd && rx && rc) := by
 rw [Bool.eq_iff_iff, h, cmd_ext];simp only [Bool.and_eq_true, h1, h2, h3, h4, h5, h6, h7];constructor
 ·rintro ⟨a1, a2, a3, a4, a5, a6, a7⟩; exact ⟨⟨⟨⟨⟨⟨a1, a4⟩, a5⟩, a6⟩, a7⟩, a2⟩, a3⟩
 ·rintro ⟨⟨⟨⟨⟨⟨a1, a4⟩, a5⟩, a6⟩, a7⟩, a2⟩, a3⟩; exact ⟨a1, a2, a3, a4, a5, a6, a7⟩
theorem eqcerts_any {res : Bool} {A A2 : Option Addr} {n c n2 c2 : Nat} {l m : List (Value × Cer)} (hres : res = true ↔ l.map Prod.snd = m.map Prod.snd) (w : World) (hn : n ≤ 1000000) (hsec : ∀ p ∈ l, p.2.path.length ≤ 1000000) (h1 : CertsAt w A n c l) (h2 : CertsAt w A2 n2 c2 m) :
  Calls Tryz.prog 40 #[.slice A n c, .slice A2 n2 c2, .func (.func 41) #[] #[]] w fun e w' => e = .returned (.bool res) ∧ Grow w w' := by
 have H1 := kp h1; have H2 := kp h2;have HL1 := kp h1.2.2.1; have HL2 := kp h2.2.2.1;have HRES := kp hres; have HSEC := kp hsec;clear h1 h2 hres hsec;refine bq (fun w_ HB => ?_);by_cases hl : n = n2
 ·subst hl;have g1 : ((n : Int) == (n : Int)) = true := by simp
  have g2 : ((n : Int) != (n : Int)) = false := by simp
  go_enter Tryz.func40, Tryz.ntmps40
  go_wp2_with fail;go_loopw [17] (fun i wr => ∃ k : Nat, k ≤ n ∧ i = .int .i64 k ∧ Hid ((l.map Prod.snd).take k = (m.map Prod.snd).take k) ∧ Hid (Below w.heap.size w wr)) (fun i _ => n - (intOf i).toNat)
  case atStart => exact ⟨0, by omega, rfl, kp (by simp), HB⟩
  case round =>
   obtain ⟨k, hk, rfl, hup, hbw⟩ := hrel;clear HB;have HB := hbw;clear hbw;rename World => w_;by_cases hlt : k < n
   ·obtain ⟨b, off, p, P1, pn, pc, rfl, hp, hp1, hok, hid, hbl, hc⟩ := H1.o.at_ hlt;obtain ⟨b2, off2, q, Q1, qn, qc, rfl, hp2, hq1, hok2, hid2, hbl2, hc2⟩ := H2.o.at_ hlt;have HP := kq ((l.map Prod.snd)[k]? = some p.2) (by rw [List.getElem?_map, hp]; rfl);have HP2 := kq ((m.map Prod.snd)[k]? = some q.2) (by rw [List.getElem?_map, hp2]; rfl);have HPC := kp (cerV_cl (v := .slice P1 pn pc) rfl hok); have HQC := kp (cerV_cl (v := .slice Q1 qn qc) rfl hok2)
    obtain ⟨r, hr⟩ : ∃ r : Bool, (r = true ↔ p.2 = q.2) := by
     by_cases h : p.2 = q.2
     ·exact ⟨true, by simp [h]⟩
     ·exact ⟨false, by simp [h]⟩
    have HRR := kp hr;have HL := kp (fun (w' : World) (hg : Grow w w') => csame_any (res := r) (by rw [Bool.eq_iff_iff, hr, decide_eq_true_eq]) w' hok hok2 (by rw [← hid.2.1]; exact HSEC.o p (List.mem_of_getElem? hp)) (hid.grow hg) (hid2.grow hg));have HC0 := kp hc; have HD0 := kp hc2;obtain ⟨pv, hpv⟩ := xe (certV (.slice P1 pn pc) p.2);obtain ⟨qv, hqv⟩ := xe (certV (.slice Q1 qn qc) q.2);rw [← hpv] at HPC HC0 HL;rw [← hqv] at HQC HD0 HL;clear hr hp hp2 hp1 hq1 hok hok2 hid hid2 hbl hbl2 hc hc2 hpv hqv;have v1 : IntKind.i64.wrap ((k : Int) + 1) = (k : Int) + 1 := IntWalk.i64_in _ (by omega);have v2 : RowKit.wrap64 ((k : Int) + 1) = (k : Int) + 1 := wrap64_in _ (by clear v1; omega);have HC := kq (∀ j' u, pv[j']? = some u → w_.cell? ⟨b, off + k * 137 + j', none⟩ = some u) (fun j' u hu => bcell HB.o (HC0.o j' u hu));go_wp2_with (with_reducible first | refine wlm 21 row_cert HC.o HPC.o.len ?_ | refine wal 8 zero_cert ?_);intro w1_ hb1_ hbw1_ hsz1_;have HB1_ := kp (at_mk hb1_ len_cert);have HBW1_ := kp hbw1_;have HZ1_ := kp hsz1_;clear hb1_ hbw1_ hsz1_;go_wp2_with (with_reducible refine wsb row_cert HB1_.o.blk HB1_.o.len HPC.o.len HPC.o.one ?_);intro v_ b_ g_ hsz2_;have y_ := var_grow HBW1_.o HZ1_.o g_;have HX_ := kp (at_mk b_ HPC.o.len);clear b_ g_ hsz2_ HB1_ HBW1_ HZ1_;replace HB := kp (HB.o.grow' y_);generalize hg_ : w_.heap.size = g8 at HX_ ⊢;clear hg_;have HE := HX_;clear y_ HX_;clear w1_;try clear w_
    rename World => w_;clear HC;have HD := kq (∀ j' u, qv[j']? = some u → w_.cell? ⟨b2, off2 + k * 137 + j', none⟩ = some u) (fun j' u hu => bcell HB.o (HD0.o j' u hu));go_wp2_with (with_reducible first | refine wlm 25 row_cert HD.o HQC.o.len ?_ | refine wal 9 zero_cert ?_);intro w1_ hb1_ hbw1_ hsz1_;have HB1_ := kp (at_mk hb1_ len_cert);have HBW1_ := kp hbw1_;have HZ1_ := kp hsz1_;clear hb1_ hbw1_ hsz1_;go_wp2_with (with_reducible refine wsb row_cert HB1_.o.blk HB1_.o.len HQC.o.len HQC.o.one ?_);intro v_ b_ g_ hsz2_;have y_ := var_grow HBW1_.o HZ1_.o g_;have HX_ := kp (at_mk b_ HQC.o.len);clear b_ g_ hsz2_ HB1_ HBW1_ HZ1_;replace HB := kp (HB.o.grow' y_);replace HE := kp (HE.o.grow y_);generalize hg_ : w_.heap.size = g9 at HX_ ⊢;clear hg_;have HF := HX_;clear y_ HX_;clear w1_;try clear w_
    rename World => w_;clear HD;go_wp2_with (with_reducible first | refine wlb 27 row_cert HE.o.blk HE.o.len ?_ | refine wlb 28 row_cert HF.o.blk HF.o.len ?_);refine (HL.o _ HB.o).mono ?_;rintro e v_ ⟨rfl, y_⟩;have HB_ := kp (HB.o.grow' y_);clear y_ HB HL;cases r with
    | true =>
     have HEQ := kq (p.2 = q.2) (HRR.o.1 rfl);go_wp2_with fail;go_roundw
     all_goals clear v1 v2
     case rel => exact ⟨k + 1, by omega, by go_num, kp (by rw [List.take_add_one, List.take_add_one, HP.o, HP2.o, hup.o, HEQ.o]), HB_⟩
     case measure => simp [intOf]; omega
    | false =>
     have HN := kp (show res = false by
      cases res with
      | false => rfl
      | true =>
       have h := HRES.o.1 rfl;have h1 := HP.o;rw [h, HP2.o] at h1;have := HRR.o.2 (Option.some.inj h1).symm
       cases this)
     clear v1 v2;go_wp2_with fail;go_ret
     exact ⟨by rw [HN.o]; rfl, HB_.o⟩
   ·have HN := kp (show res = true by
      refine HRES.o.2 ?_;have h := hup.o;rw [List.take_of_length_le (by rw [List.length_map, HL1.o]; omega), List.take_of_length_le (by rw [List.length_map, HL2.o]; omega)] at h
      exact h)
    go_wp2_with fail;go_ret
    exact ⟨by rw [HN.o]; rfl, HB.o⟩
 ·have g1 : ((n : Int) == (n2 : Int)) = false := by simp; omega
  have g2 : ((n : Int) != (n2 : Int)) = true := by simp; omega
  have g3 : (n == n2) = false := by simp; omega
  have g4 : (n != n2) = true := by simp; omega
  have g5 : decide (n = n2) = false := by simp; omega
  have HN := kp (show res = false by
   cases res with
   | false => rfl
   | true => have h := congrArg List.length (HRES.o.1 rfl); rw [List.length_map, List.length_map, HL1.o, HL2.o] at h; exact absurd h hl)
  clear hl
  go_enter Tryz.func40, Tryz.ntmps40
  go_wp2_with fail;go_ret
  exact ⟨by rw [HN.o]; rfl, HB.o⟩
theorem cmsame_any {res : Bool} {q1 q2 : CW} {m1 m2 : Cmd} (hres : res = true ↔ m1 = m2) (w : World) (h1 : CmdAt w q1 m1) (h2 : CmdAt w q2 m2) (hs : SmallC m1) :
  Calls Tryz.prog 12 #[.agg (q1.vs m1).toArray, .agg (q2.vs m2).toArray] w fun e w' => e = .returned (.bool res) ∧ Grow w w' := by
 obtain ⟨rt, hrt, hqt⟩ := out_eq h1.ok.2.2.2.1 h2.ok.2.2.2.1;obtain ⟨rd, hrd, hqd⟩ := aid_eqQ m1.id m2.id h1.ok.2.2.2.2.2.2 h2.ok.2.2.2.2.2.2;obtain ⟨rx, hrx⟩ := bool_of (m1.tx = m2.tx);obtain ⟨rc, hrc⟩ := bool_of (m1.certs = m2.certs);obtain ⟨rk, hrk⟩ := bool_of (m1.kind = m2.kind);obtain ⟨rs, hrs⟩ := bool_of (m1.serial = m2.serial);obtain ⟨re, hre⟩ := bool_of (m1.epoch = m2.epoch);have HRES := kp (same_parts hres hrk hrt hrs hre hrd hrx hrc);have HQT := kp hqt; have HQD := kp hqd
 have HTX := kp (fun (w' : World) (hg : Grow w w') => show Calls Tryz.prog 39 #[.agg (q1.tv m1).toArray, .agg (q2.tv m2).toArray] w' fun e w'' => e = .returned (.bool rx) ∧ Grow w' w'' from
  tsame_any (by rw [h1.tx, h2.tx]; exact hrx) w' (by rw [← h1.n1]; have := hs.1; omega) (by rw [← h1.n2]; have := hs.2.1; omega) (fun p hp => hs.2.2.1 p.2 (by rw [h1.insE]; exact List.mem_map_of_mem hp)) (h1.ins.grow hg) (h2.ins.grow hg) (h1.outs.grow hg) (h2.outs.grow hg))
 have HCT := kp (fun (w' : World) (hg : Grow w w') => eqcerts_any (res := rc) (by rw [← h1.certsE, ← h2.certsE]; exact hrc) w' (by rw [← h1.n3]; have := hs.2.2.2.1; omega) (fun p hp => by have := hs.2.2.2.2 p.2 (by rw [h1.certsE]; exact List.mem_map_of_mem hp); omega) (h1.certs.grow hg) (h2.certs.grow hg));have HXC := kp (vs_cl (q := q1) h1.ok); have HYC := kp (vs_cl (q := q2) h2.ok);have X0 := kp (vs_kind q1 m1); have Y0 := kp (vs_kind q2 m2);have X5 := kp (vs_certs q1 m1); have Y5 := kp (vs_certs q2 m2);have X39 := kp (vs_serial (q := q1) h1.ok.2.2.2.1); have Y39 := kp (vs_serial (q := q2) h2.ok.2.2.2.1);have X40 := kp (vs_epoch (q := q1) h1.ok.2.2.2.1); have Y40 := kp (vs_epoch (q := q2) h2.ok.2.2.2.1);have XT := kp (fun j u (hu : (outV m1.dest)[j]? = some u) => vs_to (q := q1) hu); have YT := kp (fun j u (hu : (outV m2.dest)[j]? = some u) => vs_to (q := q2) hu);have XI := kp (fun j u (hu : (m1.id.map B)[j]? = some u) => vs_id (q := q1) h1.ok.2.2.2.1 hu); have YI := kp (fun j u (hu : (m2.id.map B)[j]? = some u) => vs_id (q := q2) h2.ok.2.2.2.1 hu);have XX := kp (fun j u (hu : (q1.tv m1)[j]? = some u) => vs_tx hu); have YX := kp (fun j u (hu : (q2.tv m2)[j]? = some u) => vs_tx hu);have LT := kp (outV_length h1.ok.2.2.2.1); have LU := kp (outV_length h2.ok.2.2.2.1);have LI := kq ((m1.id.map B).length = 32) (by rw [List.length_map]; exact h1.ok.2.2.2.2.2.2); have LJ := kq ((m2.id.map B).length = 32) (by rw [List.length_map]; exact h2.ok.2.2.2.2.2.2);have LX := kq ((q1.tv m1).length = 4) rfl; have LY := kq ((q2.tv m2).length = 4) rfl;obtain ⟨xv, hxv⟩ := xe (q1.vs m1);obtain ⟨yv, hyv⟩ := xe (q2.vs m2);obtain ⟨ts, hts⟩ := xe (outV m1.dest);obtain ⟨us, hus⟩ := xe (outV m2.dest);obtain ⟨is, his⟩ := xe (m1.id.map B);obtain ⟨js, hjs⟩ := xe (m2.id.map B);obtain ⟨tv, htv⟩ := xe (q1.tv m1);obtain ⟨uv, huv⟩ := xe (q2.tv m2);rw [← hxv] at HXC X0 X5 X39 X40 XT XI XX ⊢;rw [← hyv] at HYC Y0 Y5 Y39 Y40 YT YI YX ⊢;rw [← hts] at XT LT HQT; rw [← hus] at YT LU HQT;rw [← his] at XI LI HQD; rw [← hjs] at YI LJ HQD;rw [← htv] at XX LX HTX; rw [← huv] at YX LY HTX;obtain ⟨k1, hk1⟩ := xe m1.kind;obtain ⟨k2, hk2⟩ := xe m2.kind;obtain ⟨s1, hs1⟩ := xe m1.serial;obtain ⟨s2, hs2⟩ := xe m2.serial;obtain ⟨e1, he1⟩ := xe m1.epoch;obtain ⟨e2, he2⟩ := xe m2.epoch;rw [← hk1] at X0 hrk; rw [← hk2] at Y0 hrk; rw [← hs1] at X39 hrs; rw [← hs2] at Y39 hrs; rw [← he1] at X40 hre; rw [← he2] at Y40 hre;have HRK := kp hrk; have HRS := kp hrs; have HRE := kp hre;clear hres h1 h2 hs hrt hqt hrd hqd hrx hrc hrk hrs hre hxv hyv hts hus his hjs htv huv hk1 hk2 hs1 hs2 he1 he2;refine bq (fun w_ HB => ?_)
 go_enter Tryz.func12, Tryz.ntmps12
 go_wp2_with (with_reducible refine wbx 2 ?_);intro v_ b_ y_ hsz2_;have HX_ := kp (at_mk b_ HXC.o.len);clear b_ hsz2_;have HG_ := kp HB.o.size;replace HB := kp (HB.o.grow' y_);generalize hg_ : w_.heap.size = g1 at HX_ HG_ ⊢;clear hg_;have HX_g := HG_;clear HG_;have HX := HX_;clear y_ HX_;try clear w_
 rename World => w_;go_wp2_with (with_reducible refine wbx 3 ?_);intro v_ b_ y_ hsz2_;have HX_ := kp (at_mk b_ HYC.o.len);clear b_ hsz2_;have HG_ := kp HB.o.size;replace HB := kp (HB.o.grow' y_);replace HX := kp (HX.o.grow y_);generalize hg_ : w_.heap.size = g2 at HX_ HG_ ⊢;clear hg_;have HY_g := HG_;clear HG_;have HY := HX_;clear y_ HX_;try clear w_
 rename World => w_;have c0 := HX.o.blk.at_ X0.o; have d0 := HY.o.blk.at_ Y0.o;have FT := kq (∀ j u, ts[j]? = some u → w_.cell? ⟨g1, 6 + j, none⟩ = some u) (fun j u hu => HX.o.blk.at_ (XT.o j u hu));have FU := kq (∀ j u, us[j]? = some u → w_.cell? ⟨g2, 6 + j, none⟩ = some u) (fun j u hu => HY.o.blk.at_ (YT.o j u hu));have FI := kq (∀ j u, is[j]? = some u → w_.cell? ⟨g1, 41 + j, none⟩ = some u) (fun j u hu => HX.o.blk.at_ (XI.o j u hu));have FJ := kq (∀ j u, js[j]? = some u → w_.cell? ⟨g2, 41 + j, none⟩ = some u) (fun j u hu => HY.o.blk.at_ (YI.o j u hu));have FX := kq (∀ j u, tv[j]? = some u → w_.cell? ⟨g1, 1 + j, none⟩ = some u) (fun j u hu => HX.o.blk.at_ (XX.o j u hu));have FY := kq (∀ j u, uv[j]? = some u → w_.cell? ⟨g2, 1 + j, none⟩ = some u) (fun j u hu => HY.o.blk.at_ (YX.o j u hu));have c39 := HX.o.blk.at_ X39.o; have d39 := HY.o.blk.at_ Y39.o; have c40 := HX.o.blk.at_ X40.o; have d40 := HY.o.blk.at_ Y40.o;have heqt := HQT.o; have heqd := HQD.o;cases rk with
 | false =>
  have z_ : k1 ≠ k2 := fun h => by have := HRK.o.2 h; cases this
  have z1 : (k1 == k2) = false := by simpa using z_
  have z2 : (k1 != k2) = true := by simpa using z_
  clear z_;have HN := kq (res = false) (by rw [HRES.o]; simp);go_wp2_with (with_reducible first | refine wlw 12 row_tout FT.o LT.o ?_ | refine wlw 14 row_tout FU.o LU.o ?_ | refine wlw 33 row_aid FI.o LI.o ?_ | refine wlw 35 row_aid FJ.o LJ.o ?_ | refine wlw 40 row_tx FX.o LX.o ?_ | refine wlw 42 row_tx FY.o LY.o ?_);go_ret
  exact ⟨by rw [HN.o]; first | rfl | simp, HB.o⟩
 | true =>
  have z_ : k1 = k2 := HRK.o.1 rfl;have z1 : (k1 == k2) = true := by simpa using z_
  have z2 : (k1 != k2) = false := by simpa using z_
  clear z_;cases rt with
  | false =>
   have HN := kq (res = false) (by rw [HRES.o]; simp);go_wp2_with (with_reducible first | refine wlw 12 row_tout FT.o LT.o ?_ | refine wlw 14 row_tout FU.o LU.o ?_ | refine wlw 33 row_aid FI.o LI.o ?_ | refine wlw 35 row_aid FJ.o LJ.o ?_ | refine wlw 40 row_tx FX.o LX.o ?_ | refine wlw 42 row_tx FY.o LY.o ?_);go_ret
   exact ⟨by rw [HN.o]; first | rfl | simp, HB.o⟩
  | true =>
   cases rs with
   | false =>
    have z_ : s1 ≠ s2 := fun h => by have := HRS.o.2 h; cases this
    have z3 : (s1 == s2) = false := by simpa using z_
    have z4 : (s1 != s2) = true := by simpa using z_
    clear z_;have HN := kq (res = false) (by rw [HRES.o]; simp);go_wp2_with (with_reducible first | refine wlw 12 row_tout FT.o LT.o ?_ | refine wlw 14 row_tout FU.o LU.o ?_ | refine wlw 33 row_aid FI.o LI.o ?_ | refine wlw 35 row_aid FJ.o LJ.o ?_ | refine wlw 40 row_tx FX.o LX.o ?_ | refine wlw 42 row_tx FY.o LY.o ?_);go_ret
    exact ⟨by rw [HN.o]; first | rfl | simp, HB.o⟩
   | true =>
    have z_ : s1 = s2 := HRS.o.1 rfl;have z3 : (s1 == s2) = true := by simpa using z_
    have z4 : (s1 != s2) = false := by simpa using z_
    clear z_;cases re with
    | false =>
     have z_ : e1 ≠ e2 := fun h => by have := HRE.o.2 h; cases this
     have z5 : (e1 == e2) = false := by simpa using z_
     have z6 : (e1 != e2) = true := by simpa using z_
     clear z_;have HN := kq (res = false) (by rw [HRES.o]; simp);go_wp2_with (with_reducible first | refine wlw 12 row_tout FT.o LT.o ?_ | refine wlw 14 row_tout FU.o LU.o ?_ | refine wlw 33 row_aid FI.o LI.o ?_ | refine wlw 35 row_aid FJ.o LJ.o ?_ | refine wlw 40 row_tx FX.o LX.o ?_ | refine wlw 42 row_tx FY.o LY.o ?_);go_ret
     exact ⟨by rw [HN.o]; first | rfl | simp, HB.o⟩
    | true =>
     have z_ : e1 = e2 := HRE.o.1 rfl;have z5 : (e1 == e2) = true := by simpa using z_
     have z6 : (e1 != e2) = false := by simpa using z_
     clear z_;cases rd with
     | false =>
      have HN := kq (res = false) (by rw [HRES.o]; simp);go_wp2_with (with_reducible first | refine wlw 12 row_tout FT.o LT.o ?_ | refine wlw 14 row_tout FU.o LU.o ?_ | refine wlw 33 row_aid FI.o LI.o ?_ | refine wlw 35 row_aid FJ.o LJ.o ?_ | refine wlw 40 row_tx FX.o LX.o ?_ | refine wlw 42 row_tx FY.o LY.o ?_);go_ret
      exact ⟨by rw [HN.o]; first | rfl | simp, HB.o⟩
     | true =>
      go_wp2_with (with_reducible first | refine wlw 12 row_tout FT.o LT.o ?_ | refine wlw 14 row_tout FU.o LU.o ?_ | refine wlw 33 row_aid FI.o LI.o ?_ | refine wlw 35 row_aid FJ.o LJ.o ?_ | refine wlw 40 row_tx FX.o LX.o ?_ | refine wlw 42 row_tx FY.o LY.o ?_);refine (HTX.o _ HB.o).mono ?_;clear c0 d0 c39 d39 c40 d40 heqt heqd FT FU FI FJ FX FY z1 z2 z3 z4 z5 z6;rintro e v_ ⟨rfl, y_⟩;have y_ := y_;clear y_;replace HB := kp (HB.o.grow' y_);replace HX := kp (HX.o.grow y_);replace HY := kp (HY.o.grow y_);clear y_;try clear w_
      rename World => w_;have c5 := HX.o.blk.at_ X5.o; have d5 := HY.o.blk.at_ Y5.o;cases rx with
      | false =>
       have HN := kq (res = false) (by rw [HRES.o]; simp);go_wp2_with fail;go_ret
       exact ⟨by rw [HN.o]; first | rfl | simp, HB.o⟩
      | true =>
       go_wp2_with fail;refine (HCT.o _ HB.o).mono ?_;clear c5 d5;rintro e w3_ ⟨rfl, y_⟩;have y_ := y_;clear y_;replace HB := kp (HB.o.grow' y_);replace HX := kp (HX.o.grow y_);replace HY := kp (HY.o.grow y_);clear y_;try clear w_
       rename World => w_;have HN := kq (res = rc) (by rw [HRES.o]; simp);go_wp2_with fail;go_ret
       exact ⟨by rw [HN.o]; first | rfl | simp, HB.o⟩
theorem ptext_any (g : Nat) (K : Nat → Prop) (xs : List UInt8) {A : Option Addr} {n c Bd : Nat} {bs : List UInt8} (w : World) (h : PenAt w K g xs) (hs : Sl w Bd 1 A n (bs.map B)) (hbd : ∀ k, k < Bd → K k) (hl : xs.length + n ≤ 900000) :
  Calls Tryz.prog 23 #[.pointer (some ⟨g, 0, none⟩), .slice A n c] w fun e w' => e = .returned (.tuple #[]) ∧ PenAt w' K g (xs ++ (numB n ++ bs)) ∧ Kept K w w' := by
 have HP := kp h;have HS := kp hs;have HBD := kp hbd;have hbn : bs.length = n := by have := hs.len; simpa using this
 have HBN := kp hbn;have HU := kp (numB_le (n := n) (by omega));have q1 := conv_u64' (n := n) (by omega);clear h hs hbd hbn
 go_enter Tryz.func23, Tryz.ntmps23
 go_wp2_with fail;refine (num_any g n K xs _ HP.o (by omega) (by omega)).mono ?_;rintro e v_ ⟨rfl, hp_, hk_⟩;have HK := kp hk_;have HS2 := kp (HS.o.below (hk_.below HBD.o));obtain ⟨ys, hys⟩ := xe (xs ++ numB n);have HYE := kq (ys ++ bs = xs ++ (numB n ++ bs)) (by rw [hys, List.append_assoc]);have HYL := kq (ys.length ≤ xs.length + 9) (by rw [hys, List.length_append]; have := HU.o; omega);rw [← hys] at hp_;obtain ⟨Ap, cp, hq1, hq2, hq3, hq4⟩ := hp_;have HPB := kp hq1;have HPO := kp hq2;have HPK := kp hq3;have HPN := kp hq4;have hcl := hq1.at_ (i := 0) rfl;have hyl := HYL.o;have HONE := kp (all_bytes bs);clear hk_ hq1 hq2 hq3 hq4 HS HP q1 hys;go_wp2_with (first | (at_builtin; refine wpl_apps rfl rfl el_u8 HPO.o rfl HS2.o rfl HONE.o (by omega) (by omega) (Nat.zero_le _) ?_));intro A3 c3 w3_ ho_ hg_ hA_;have hll : (ys ++ bs).length = ys.length + n := by rw [List.length_append, HBN.o]
 have HPB3 := kp (HPB.o.grown hg_ (fun e => (HPN.o e.symm).elim));have HAP := kp (pen_app (ys := ys ++ bs) (A' := A3) (c' := c3) HPB.o HPO.o HPK.o HPN.o (by rw [hll, List.map_append]; exact ho_) hg_ (fun b hb => hA_.elim (fun h => .inl (h.symm.trans hb)) (fun h => .inr (by obtain ⟨a, h1, h2⟩ := h; subst h1; have h3 : a.block = b := Option.some.inj hb; omega))));rw [hll] at HAP;clear ho_ hg_ hA_ hcl hll;have hcl := HPB3.o.at_ (i := 0) rfl;have hfz := HPB3.o.frozen 0;go_wp2_with fail;refine bodyPost_end (results_none rfl _ _ _) rfl ?_;exact ⟨rfl, by rw [← HYE.o]; exact HAP.o.1, HK.o.trans HAP.o.2⟩
def Kq (gp q : Nat) : Nat → Prop := fun k => k < gp ∨ k = q
def K0 (gp : Nat) : Nat → Prop := fun k => k < gp
def KB (gp : Nat) (w4 w : World) : Prop := Below gp w4 w ∧ gp ≤ w4.heap.size
theorem KB.sz {gp : Nat} {w4 w : World} (h : KB gp w4 w) : gp ≤ w.heap.size := Nat.le_trans h.2 h.1.size
theorem KB.grow {gp : Nat} {w4 w w2 : World} (h : KB gp w4 w) (k : Grow w w2) : KB gp w4 w2 := ⟨h.1.trans (k.mono h.sz), h.2⟩
theorem KB.kept {gp q : Nat} {w4 w w2 : World} (h : KB gp w4 w) (k : Kept (Kq gp q) w w2) : KB gp w4 w2 := ⟨h.1.trans (k.below (fun j hj => .inl hj)), h.2⟩
theorem PenAt.plus {w : World} {gp g q : Nat} {xs : List UInt8} {T : TypeId} {cs : List Value} (h : PenAt w (K0 gp) g xs) (hb : Blk w q T cs) (hT : T ≠ 5) (hq : q ≠ g) : PenAt w (Kq gp q) g xs := by
 obtain ⟨A, c, h1, h2, h3, h4⟩ := h;refine ⟨A, c, h1, h2, fun k hk => ?_, h4⟩;rcases hk with hk | rfl
 ·exact h3 k hk
 ·refine ⟨hb.lt, hq, fun e => ?_⟩;rcases h2.2 with ⟨hv, _⟩ | ⟨b, cap, cur, hv, _, hh, _⟩
  ·injection hv with hA; subst hA; cases e
  ·injection hv with hA; subst hA
   have e2 : b = k := Option.some.inj e;subst e2;unfold Blk at hb;rw [hb] at hh;injection hh with hh
   injection hh with _ hh
   exact hT hh
theorem PenAt.minus {w : World} {gp g q : Nat} {xs : List UInt8} (h : PenAt w (Kq gp q) g xs) : PenAt w (K0 gp) g xs := h.less (fun k hk => .inl hk)
theorem At.kept {w w2 : World} {gp q n : Nat} {T : TypeId} {cs : List Value} (h : At w q T n cs) (k : Kept (Kq gp q) w w2) : At w2 q T n cs := ⟨k.blk h.1 (.inr rfl), h.2⟩
theorem putI_len {i : Inp} (h : i.ok) (h2 : i.secret.length ≤ 64) (h3 : 0 ≤ i.index ∧ i.index ≤ 15) : (putI i).length ≤ 130 := by
 unfold putI;simp only [List.length_append];have a := numB_le (n := i.index.toNat) (by omega);have b := numB_le (n := i.amount.toNat) (by have := h.2.2; unfold U64 at this; omega);have c := numB_le (n := i.secret.length) (by omega);have d := h.1;omega
theorem putO_len {o : Outp} (h : o.ok) : (putO o).length ≤ 50 := by
 unfold putO;simp only [List.length_append];have b := numB_le (n := o.amount.toNat) (by have := h.2; unfold U64 at this; omega);have d := h.1;omega
theorem fm_len {α : Type} (f : α → List UInt8) (m : Nat) : ∀ (l : List α), (∀ x ∈ l, (f x).length ≤ m) → (l.flatMap f).length ≤ l.length * m
 | [], _ => by simp
 | x :: l, h => by
  rw [List.flatMap_cons, List.length_append, List.length_cons, Nat.succ_mul];have h1 := h x (List.mem_cons_self ..);have h2 := fm_len f m l (fun y hy => h y (List.mem_cons_of_mem _ hy));omega
theorem fm_snoc {α : Type} (f : α → List UInt8) {l : List α} {k : Nat} {p : α} (h : l[k]? = some p) : (l.take (k + 1)).flatMap f = (l.take k).flatMap f ++ f p := by
 rw [take_snoc h]; simp
theorem fm_le {α : Type} (f : α → List UInt8) (m : Nat) {l : List α} (k : Nat) (h : ∀ x ∈ l, (f x).length ≤ m) : ((l.take k).flatMap f).length ≤ k * m := by
 have := fm_len f m (l.take k) (fun x hx => h x (List.mem_of_mem_take hx));have h2 : (l.take k).length ≤ k := by rw [List.length_take]; omega
 exact Nat.le_trans this (Nat.mul_le_mul_right m h2)
end Go.Proofs.YtiijepimkgaccaaGreat

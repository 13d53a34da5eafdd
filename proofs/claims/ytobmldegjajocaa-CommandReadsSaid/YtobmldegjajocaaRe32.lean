/- The contract of the document's Same. Printed by mkrtsame.py. -/
import Derived.Test.YtobmldegjajocaaRe18
set_option linter.unusedSimpArgs false
set_option linter.unusedVariables false
set_option maxRecDepth 100000
set_option maxHeartbeats 16000000
namespace Go.Proofs.Ytobmldegjajocaa
open Go.RowKit Go.Shelf
theorem res_false {res : Bool} {P : Prop} (h : res = true ↔ P) (hn : ¬ P) : res = false := by
 cases res with
 | false => rfl
 | true => exact absurd (h.1 rfl) hn
theorem ex_bool (P : Prop) : ∃ r : Bool, (r = true ↔ P) := by
 by_cases h : P
 ·exact ⟨true, by simp [h]⟩
 ·exact ⟨false, by simp [h]⟩
theorem take_ne {α : Type} {l m : List α} {k : Nat} {p q : α} (hp : l[k]? = some p) (hq : m[k]? = some q) (hn : p ≠ q) : l ≠ m := by
 intro h;rw [h, hq] at hp;exact hn (Option.some.inj hp).symm
theorem rtsame_any {res : Bool} {A A2 : Option Addr} {n c n2 c2 : Nat} {B1 B2 : Option Addr} {m d m2 d2 : Nat} {fee ex fee2 ex2 : Int} {l l2 : List (Value × Inp)} {os os2 : List Outp} (hres : res = true ↔ (⟨l.map Prod.snd, os, fee, ex⟩ : Txn) = ⟨l2.map Prod.snd, os2, fee2, ex2⟩) (w : World) (hn : n ≤ 1000000) (hm : m ≤ 1000000) (hsec : ∀ p ∈ l, p.2.secret.length ≤ 1000000) (h1 : InsAt w A n c l) (h2 : InsAt w A2 n2 c2 l2) (h3 : OutsAt w B1 m d os) (h4 : OutsAt w B2 m2 d2 os2) :
  Calls Try.prog 41 #[.agg (txV A n c B1 m d fee ex).toArray, .agg (txV A2 n2 c2 B2 m2 d2 fee2 ex2).toArray] w fun e w' => e = .returned (.bool res) ∧ Grow w w' := by
 have HRES := kp hres;have HI1 := kp h1; have HI2 := kp h2; have HO1 := kp h3; have HO2 := kp h4;have HSEC := kp hsec;have HL1 := kp h1.2.2.1; have HL2 := kp h2.2.2.1; have HL3 := kp h3.2.2.1; have HL4 := kp h4.2.2.1;have HTC := kp (txV_cl (A := A) (n := n) (c := c) (A2 := B1) (n2 := m) (c2 := d) (fee := fee) (ex := ex));have HUC := kp (txV_cl (A := A2) (n := n2) (c := c2) (A2 := B2) (n2 := m2) (c2 := d2) (fee := fee2) (ex := ex2));have HT0 := kq ((txV A n c B1 m d fee ex)[0]? = some (.slice A n c)) rfl;have HT1 := kq ((txV A n c B1 m d fee ex)[1]? = some (.slice B1 m d)) rfl;have HT2 := kq ((txV A n c B1 m d fee ex)[2]? = some (.int .u64 fee)) rfl;have HT3 := kq ((txV A n c B1 m d fee ex)[3]? = some (.int .i64 ex)) rfl;have HU0 := kq ((txV A2 n2 c2 B2 m2 d2 fee2 ex2)[0]? = some (.slice A2 n2 c2)) rfl;have HU1 := kq ((txV A2 n2 c2 B2 m2 d2 fee2 ex2)[1]? = some (.slice B2 m2 d2)) rfl;have HU2 := kq ((txV A2 n2 c2 B2 m2 d2 fee2 ex2)[2]? = some (.int .u64 fee2)) rfl;have HU3 := kq ((txV A2 n2 c2 B2 m2 d2 fee2 ex2)[3]? = some (.int .i64 ex2)) rfl;obtain ⟨tv, htv⟩ := xe (txV A n c B1 m d fee ex);obtain ⟨uv, huv⟩ := xe (txV A2 n2 c2 B2 m2 d2 fee2 ex2);rw [← htv] at HTC HT0 HT1 HT2 HT3 ⊢;rw [← huv] at HUC HU0 HU1 HU2 HU3 ⊢;clear htv huv hres h1 h2 h3 h4 hsec;refine bq (fun w_ HB => ?_)
 go_enter Try.func41, Try.ntmps41
 go_wp2_with (with_reducible refine wbx 2 ?_);intro v_ b_ y_ s_;have HX_ := kp (at_mk b_ HTC.o.len);clear b_ s_;have HG_ := kp HB.o.size;replace HB := kp (HB.o.grow' y_);generalize hg_ : w_.heap.size = g1 at HX_ HG_ ⊢;clear hg_;have HX_g := HG_;clear HG_;have HX := HX_;clear y_ HX_;try clear w_
 rename World => w_;go_wp2_with (with_reducible refine wbx 3 ?_);intro v_ b_ y_ s_;have HX_ := kp (at_mk b_ HUC.o.len);clear b_ s_;have HG_ := kp HB.o.size;replace HB := kp (HB.o.grow' y_);replace HX := kp (HX.o.grow y_);generalize hg_ : w_.heap.size = g2 at HX_ HG_ ⊢;clear hg_;have HY_g := HG_;clear HG_;have HY := HX_;clear y_ HX_;try clear w_
 rename World => w_;have c0 := HX.o.blk.at_ HT0.o; have d0 := HY.o.blk.at_ HU0.o;have c1 := HX.o.blk.at_ HT1.o; have d1 := HY.o.blk.at_ HU1.o;have c2_ := HX.o.blk.at_ HT2.o; have d2_ := HY.o.blk.at_ HU2.o;have c3_ := HX.o.blk.at_ HT3.o; have d3_ := HY.o.blk.at_ HU3.o;by_cases hnn : n = n2
 ·subst hnn;by_cases hmm : m = m2
  ·subst hmm;by_cases hf : fee = fee2
   ·subst hf;by_cases he : ex = ex2
    ·subst he;have n1_ : ((n : Int) != (n : Int)) = false := by simp
     have n2_ : ((m : Int) != (m : Int)) = false := by simp
     have n3_ : (fee != fee) = false := by simp
     have n4_ : (ex != ex) = false := by simp
     go_wp2_with fail;clear c0 d0 c1 d1 c2_ d2_ c3_ d3_ n1_ n2_ n3_ n4_;go_loopw [5] (fun i wr => ∃ k : Nat, k ≤ n ∧ i = .int .i64 k ∧ Hid ((l.map Prod.snd).take k = (l2.map Prod.snd).take k) ∧ Hid (At wr g1 26 4 tv ∧ At wr g2 26 4 uv ∧ Below w.heap.size w wr)) (fun i _ => n - (intOf i).toNat)
     case atStart => exact ⟨0, by omega, rfl, kp (by simp), kp ⟨HX.o, HY.o, HB.o⟩⟩
     case round =>
      obtain ⟨k, hk, rfl, hup, hI⟩ := hrel;clear HX HY HB;have HX := kp hI.o.1; have HY := kp hI.o.2.1; have HB := kp hI.o.2.2;clear hI;rename World => w_;by_cases hlt : k < n
      ·have c0 := HX.o.blk.at_ HT0.o
       go_upto_block 1 with fail
       clear c0;obtain ⟨b, off, p, rfl, hp, hok, hc⟩ := HI1.o.at_ hlt;obtain ⟨b2, off2, q, rfl, hp2, hok2, hc2⟩ := HI2.o.at_ hlt;have HP := kq ((l.map Prod.snd)[k]? = some p.2) (by rw [List.getElem?_map, hp]; rfl);have HP2 := kq ((l2.map Prod.snd)[k]? = some q.2) (by rw [List.getElem?_map, hp2]; rfl);obtain ⟨⟨A3, c3, e1, hc3, hs1⟩, hk1⟩ := hok;obtain ⟨⟨A4, c4, e2, hc4, hs2⟩, hk2⟩ := hok2;obtain ⟨r, hr, hq⟩ := pt_eq (x := p.2.pt) (y := q.2.pt) ⟨hk1.1, hk1.2.1⟩ ⟨hk2.1, hk2.2.1⟩;obtain ⟨rs, hrs⟩ : ∃ z, decide (p.2.secret = q.2.secret) = z := ⟨_, rfl⟩;obtain ⟨rr, hrr⟩ := ex_bool (p.2 = q.2);have HRR := kp hrr;have HRE := kp (inp_eq hr hrs hrr);have HSB := kp (fun (w' : World) (hg : Grow w w') => bytes1_any (A := A3) (n := p.2.secret.length) (c := c3) (A2 := A4) (n2 := q.2.secret.length) (c2 := c4) hrs w' ((hs1.below hg).more hg.size) ((hs2.below hg).more hg.size) (HSEC.o p (List.mem_of_getElem? hp)));have HC := kq (∀ j' u, (ptKV p.2.pt)[j']? = some u → w.cell? ⟨b, off + k * 35 + j', none⟩ = some u) (fun j' u hu => hc j' u (by rw [show inV p.1 p.2 = ptKV p.2.pt ++ [.int .u64 p.2.amount, p.1] by simp [inV, ptKV, Inp.pt], List.getElem?_append_left (List.getElem?_eq_some_iff.1 hu).1]; exact hu));have HD := kq (∀ j' u, (ptKV q.2.pt)[j']? = some u → w.cell? ⟨b2, off2 + k * 35 + j', none⟩ = some u) (fun j' u hu => hc2 j' u (by rw [show inV q.1 q.2 = ptKV q.2.pt ++ [.int .u64 q.2.amount, q.1] by simp [inV, ptKV, Inp.pt], List.getElem?_append_left (List.getElem?_eq_some_iff.1 hu).1]; exact hu));have CA3 := kp (hc 33 _ (in_at (v := p.1) hk1).2.1); have CA4 := kp (hc 34 _ (in_at (v := p.1) hk1).2.2);have DA3 := kp (hc2 33 _ (in_at (v := q.1) hk2).2.1); have DA4 := kp (hc2 34 _ (in_at (v := q.1) hk2).2.2);have HXL := kp (ptKV_len (x := p.2.pt) ⟨hk1.1, hk1.2.1⟩); have HYL := kp (ptKV_len (x := q.2.pt) ⟨hk2.1, hk2.2.1⟩);rw [e1] at CA4;rw [e2] at DA4;clear hr hrs hrr hs1 hs2 hk1 hk2 hc3 hc4 e1 e2 hp hp2 hc hc2;obtain ⟨l1_, hn1⟩ := xe p.2.secret.length;obtain ⟨l2_, hn2⟩ := xe q.2.secret.length;obtain ⟨am, ham⟩ := xe p.2.amount;obtain ⟨an, han⟩ := xe q.2.amount;obtain ⟨xp, hxp⟩ := xe (ptKV p.2.pt);obtain ⟨xq, hxq⟩ := xe (ptKV q.2.pt);rw [← hn1] at HSB CA4;rw [← hn2] at HSB DA4;rw [← ham] at HRE CA3;rw [← han] at HRE DA3;rw [← hxp] at HC HXL hq;rw [← hxq] at HD HYL hq;clear hn1 hn2 ham han hxp hxq;have v1 : IntKind.i64.wrap ((k : Int) + 1) = (k : Int) + 1 := IntWalk.i64_in _ (by omega);have v2 : RowKit.wrap64 ((k : Int) + 1) = (k : Int) + 1 := wrap64_in _ (by clear v1; omega);cases r with
       | false =>
        have HN := kq (res = false) (res_false HRES.o (fun h => take_ne HP.o HP2.o (fun e => by have := HRR.o.2 e; rw [HRE.o] at this; simp at this) (congrArg Txn.ins h)));try go_wp2_with fail
        repeat' (first | (with_reducible refine wp_flow (id := 6) [0,1,0,7,15,31,0,64,0,448,960,1984,4095,8191,16383,32767,16383,131071,262143,524287,16383,1064959,16383,7356415,15745023,32522239,67108863,134217727,268435455,536870911,1073741823,536870911,4294967295,8589934591,17179869183,536870911,34896609279,536870911,241055039487,515932946431,1065688760319,2199023255551,4398046511103,8796093022207] [0,0,0,0,0,0,0,0,0,0,0,0,0,0,0,0,0,0,0,0,0,0,0,0,0,0,0,0,0,0,0,0,0,0,0,0,0,0,0,0,0,3,0,0] (fun i => match i with | 41 => spV (.bool rs) | _ => spV undef) (by kernel_rfl) (by kernel_rfl) ?_) | go_values | go_skip | go_guarded | go_step | go_upon | go_back)
        intro w_ hd_;have y_ := hd_.grow;replace HB := kp (HB.o.grow' y_);replace HX := kp (HX.o.grow y_);replace HY := kp (HY.o.grow y_);clear y_ hd_;show wpL _ _ _ _ _ _ _ [0,1,2,3,4,5,6,7,8,9,10,11,12,13,14,15,16,17,18,19,20,21,22,23,24,25,26,27,28,29,30,31,32,33,34,35,36,37,38,39,40,41,42,43] _ _
        have c0 := HX.o.blk.at_ HT0.o; have d0 := HY.o.blk.at_ HU0.o;have c33 := bcell HB.o CA3.o; have d33 := bcell HB.o DA3.o;have c34 := bcell HB.o CA4.o; have d34 := bcell HB.o DA4.o;have HM1 := kq (∀ j' u, xp[j']? = some u → w_.cell? ⟨b, off + k * 35 + j', none⟩ = some u) (fun j' u hu => bcell HB.o (HC.o j' u hu));have HM2 := kq (∀ j' u, xq[j']? = some u → w_.cell? ⟨b2, off2 + k * 35 + j', none⟩ = some u) (fun j' u hu => bcell HB.o (HD.o j' u hu));repeat (first | (refine fl_load rfl (by decide) (by first | exact wanted_none rfl | (go_simp; done) | fail) rfl (by first | rfl | (go_simp; rfl)) (by kernel_rfl) (by first | exact c0 | exact d0 | exact c33 | exact d33 | exact c34 | exact d34) (fun K hK => ?_); go_simp; refine hK _ ?_; clear hK K) | (refine fl_skip rfl (by first | (go_simp; done) | fail) (fun K hK => ?_); go_simp; refine hK _ ?_; clear hK K) | (refine flc (fun K hK => ?_); go_simp; refine hK _ ?_; clear hK K))
        refine fl_loadm rfl (by decide) (by first | exact wanted_none rfl | (go_simp; done) | fail) rfl row_point HM1.o (by first | rfl | (go_simp; done) | rfl) HXL.o (fun K hK => ?_);go_simp;refine hK _ ?_;clear hK K;repeat (first | (refine fl_load rfl (by decide) (by first | exact wanted_none rfl | (go_simp; done) | fail) rfl (by first | rfl | (go_simp; rfl)) (by kernel_rfl) (by first | exact c0 | exact d0 | exact c33 | exact d33 | exact c34 | exact d34) (fun K hK => ?_); go_simp; refine hK _ ?_; clear hK K) | (refine fl_skip rfl (by first | (go_simp; done) | fail) (fun K hK => ?_); go_simp; refine hK _ ?_; clear hK K) | (refine flc (fun K hK => ?_); go_simp; refine hK _ ?_; clear hK K))
        refine fl_loadm rfl (by decide) (by first | exact wanted_none rfl | (go_simp; done) | fail) rfl row_point HM2.o (by first | rfl | (go_simp; done) | rfl) HYL.o (fun K hK => ?_);go_simp;refine hK _ ?_;clear hK K;repeat (first | (refine fl_load rfl (by decide) (by first | exact wanted_none rfl | (go_simp; done) | fail) rfl (by first | rfl | (go_simp; rfl)) (by kernel_rfl) (by first | exact c0 | exact d0 | exact c33 | exact d33 | exact c34 | exact d34) (fun K hK => ?_); go_simp; refine hK _ ?_; clear hK K) | (refine fl_skip rfl (by first | (go_simp; done) | fail) (fun K hK => ?_); go_simp; refine hK _ ?_; clear hK K) | (refine flc (fun K hK => ?_); go_simp; refine hK _ ?_; clear hK K))
        refine fl_done ?_;intro v_ hg_ hL_;replace HB := kp (HB.o.grow' hg_);replace HX := kp (HX.o.grow hg_);replace HY := kp (HY.o.grow hg_);clear hg_ hL_;try clear w_
        rename World => w_;clear HM1 HM2 hq c0 d0 c33 d33 c34 d34 HSB;clear v1 v2;go_wp2_with fail;go_ret
        exact ⟨by rw [HN.o]; rfl, HB.o⟩
       | true =>
        by_cases hea : am = an
        ·subst hea;have a1 : (am != am) = false := by simp
         have a2 : (am == am) = true := by simp
         try go_wp2_with fail
         repeat' (first | (with_reducible refine wp_flow (id := 6) [0,1,0,7,15,31,0,64,0,448,960,1984,4095,8191,16383,32767,16383,131071,262143,524287,16383,1064959,16383,7356415,15745023,32522239,67108863,134217727,268435455,536870911,1073741823,536870911,4294967295,8589934591,17179869183,536870911,34896609279,536870911,241055039487,515932946431,1065688760319,2199023255551,4398046511103,8796093022207] [0,0,0,0,0,0,0,0,0,0,0,0,0,0,0,0,0,0,0,0,0,0,0,0,0,0,0,0,0,0,0,0,0,0,0,0,0,0,0,0,0,3,0,0] (fun i => match i with | 41 => spV (.bool rs) | _ => spV undef) (by kernel_rfl) (by kernel_rfl) ?_) | go_values | go_skip | go_guarded | go_step | go_upon | go_back)
         intro w_ hd_;have y_ := hd_.grow;replace HB := kp (HB.o.grow' y_);replace HX := kp (HX.o.grow y_);replace HY := kp (HY.o.grow y_);clear y_ hd_;show wpL _ _ _ _ _ _ _ [0,1,2,3,4,5,6,7,8,9,10,11,12,13,14,15,16,17,18,19,20,21,22,23,24,25,26,27,28,29,30,31,32,33,34,35,36,37,38,39,40,41,42,43] _ _
         have c0 := HX.o.blk.at_ HT0.o; have d0 := HY.o.blk.at_ HU0.o;have c33 := bcell HB.o CA3.o; have d33 := bcell HB.o DA3.o;have c34 := bcell HB.o CA4.o; have d34 := bcell HB.o DA4.o;have HM1 := kq (∀ j' u, xp[j']? = some u → w_.cell? ⟨b, off + k * 35 + j', none⟩ = some u) (fun j' u hu => bcell HB.o (HC.o j' u hu));have HM2 := kq (∀ j' u, xq[j']? = some u → w_.cell? ⟨b2, off2 + k * 35 + j', none⟩ = some u) (fun j' u hu => bcell HB.o (HD.o j' u hu));repeat (first | (refine fl_load rfl (by decide) (by first | exact wanted_none rfl | (go_simp; done) | fail) rfl (by first | rfl | (go_simp; rfl)) (by kernel_rfl) (by first | exact c0 | exact d0 | exact c33 | exact d33 | exact c34 | exact d34) (fun K hK => ?_); go_simp; refine hK _ ?_; clear hK K) | (refine fl_skip rfl (by first | (go_simp; done) | fail) (fun K hK => ?_); go_simp; refine hK _ ?_; clear hK K) | (refine flc (fun K hK => ?_); go_simp; refine hK _ ?_; clear hK K))
         refine fl_loadm rfl (by decide) (by first | exact wanted_none rfl | (go_simp; done) | fail) rfl row_point HM1.o (by first | rfl | (go_simp; done) | rfl) HXL.o (fun K hK => ?_);go_simp;refine hK _ ?_;clear hK K;repeat (first | (refine fl_load rfl (by decide) (by first | exact wanted_none rfl | (go_simp; done) | fail) rfl (by first | rfl | (go_simp; rfl)) (by kernel_rfl) (by first | exact c0 | exact d0 | exact c33 | exact d33 | exact c34 | exact d34) (fun K hK => ?_); go_simp; refine hK _ ?_; clear hK K) | (refine fl_skip rfl (by first | (go_simp; done) | fail) (fun K hK => ?_); go_simp; refine hK _ ?_; clear hK K) | (refine flc (fun K hK => ?_); go_simp; refine hK _ ?_; clear hK K))
         refine fl_loadm rfl (by decide) (by first | exact wanted_none rfl | (go_simp; done) | fail) rfl row_point HM2.o (by first | rfl | (go_simp; done) | rfl) HYL.o (fun K hK => ?_);go_simp;refine hK _ ?_;clear hK K;repeat (first | (refine fl_load rfl (by decide) (by first | exact wanted_none rfl | (go_simp; done) | fail) rfl (by first | rfl | (go_simp; rfl)) (by kernel_rfl) (by first | exact c0 | exact d0 | exact c33 | exact d33 | exact c34 | exact d34) (fun K hK => ?_); go_simp; refine hK _ ?_; clear hK K) | (refine fl_skip rfl (by first | (go_simp; done) | fail) (fun K hK => ?_); go_simp; refine hK _ ?_; clear hK K) | (refine flc (fun K hK => ?_); go_simp; refine hK _ ?_; clear hK K))
         refine flv (fun v_ hg_ hL_ => ?_) (fun K hK => ?_)
         ·skip
          replace HB := kp (HB.o.grow' hg_);exact HSB.o _ HB.o
         go_simp;refine hK _ ?_;clear hK K;repeat (first | (refine fl_load rfl (by decide) (by first | exact wanted_none rfl | (go_simp; done) | fail) rfl (by first | rfl | (go_simp; rfl)) (by kernel_rfl) (by first | exact c0 | exact d0 | exact c33 | exact d33 | exact c34 | exact d34) (fun K hK => ?_); go_simp; refine hK _ ?_; clear hK K) | (refine fl_skip rfl (by first | (go_simp; done) | fail) (fun K hK => ?_); go_simp; refine hK _ ?_; clear hK K) | (refine flc (fun K hK => ?_); go_simp; refine hK _ ?_; clear hK K))
         refine fl_done ?_;intro v_ hg_ hL_;replace HB := kp (HB.o.grow' hg_);replace HX := kp (HX.o.grow hg_);replace HY := kp (HY.o.grow hg_);clear hg_ hL_;try clear w_
         rename World => w_;clear HM1 HM2 hq c0 d0 c33 d33 c34 d34 HSB;cases rs with
         | true =>
          have HEQ := kq (p.2 = q.2) (HRR.o.1 (by rw [HRE.o]; simp));go_wp2_with fail;go_roundw
          all_goals clear v1 v2
          case rel => exact ⟨k + 1, by omega, by go_num, kp (by rw [List.take_add_one, List.take_add_one, HP.o, HP2.o, hup.o, HEQ.o]), kp ⟨HX.o, HY.o, HB.o⟩⟩
          case measure => simp [intOf]; omega
         | false =>
          have HN := kq (res = false) (res_false HRES.o (fun h => take_ne HP.o HP2.o (fun e => by have := HRR.o.2 e; rw [HRE.o] at this; simp at this) (congrArg Txn.ins h)));clear v1 v2;go_wp2_with fail;go_ret
          exact ⟨by rw [HN.o]; rfl, HB.o⟩
        ·have HN := kq (res = false) (res_false HRES.o (fun h => take_ne HP.o HP2.o (fun e => by have := HRR.o.2 e; rw [HRE.o] at this; simp [hea] at this) (congrArg Txn.ins h)));have a1 : (am != an) = true := by simp [hea]
         have a2 : (am == an) = false := by simp [hea]
         have a3 : decide (am = an) = false := by simp [hea]
         try go_wp2_with fail
         repeat' (first | (with_reducible refine wp_flow (id := 6) [0,1,0,7,15,31,0,64,0,448,960,1984,4095,8191,16383,32767,16383,131071,262143,524287,16383,1064959,16383,7356415,15745023,32522239,67108863,134217727,268435455,536870911,1073741823,536870911,4294967295,8589934591,17179869183,536870911,34896609279,536870911,241055039487,515932946431,1065688760319,2199023255551,4398046511103,8796093022207] [0,0,0,0,0,0,0,0,0,0,0,0,0,0,0,0,0,0,0,0,0,0,0,0,0,0,0,0,0,0,0,0,0,0,0,0,0,0,0,0,0,3,0,0] (fun i => match i with | 41 => spV (.bool rs) | _ => spV undef) (by kernel_rfl) (by kernel_rfl) ?_) | go_values | go_skip | go_guarded | go_step | go_upon | go_back)
         intro w_ hd_;have y_ := hd_.grow;replace HB := kp (HB.o.grow' y_);replace HX := kp (HX.o.grow y_);replace HY := kp (HY.o.grow y_);clear y_ hd_;show wpL _ _ _ _ _ _ _ [0,1,2,3,4,5,6,7,8,9,10,11,12,13,14,15,16,17,18,19,20,21,22,23,24,25,26,27,28,29,30,31,32,33,34,35,36,37,38,39,40,41,42,43] _ _
         have c0 := HX.o.blk.at_ HT0.o; have d0 := HY.o.blk.at_ HU0.o;have c33 := bcell HB.o CA3.o; have d33 := bcell HB.o DA3.o;have c34 := bcell HB.o CA4.o; have d34 := bcell HB.o DA4.o;have HM1 := kq (∀ j' u, xp[j']? = some u → w_.cell? ⟨b, off + k * 35 + j', none⟩ = some u) (fun j' u hu => bcell HB.o (HC.o j' u hu));have HM2 := kq (∀ j' u, xq[j']? = some u → w_.cell? ⟨b2, off2 + k * 35 + j', none⟩ = some u) (fun j' u hu => bcell HB.o (HD.o j' u hu));repeat (first | (refine fl_load rfl (by decide) (by first | exact wanted_none rfl | (go_simp; done) | fail) rfl (by first | rfl | (go_simp; rfl)) (by kernel_rfl) (by first | exact c0 | exact d0 | exact c33 | exact d33 | exact c34 | exact d34) (fun K hK => ?_); go_simp; refine hK _ ?_; clear hK K) | (refine fl_skip rfl (by first | (go_simp; done) | fail) (fun K hK => ?_); go_simp; refine hK _ ?_; clear hK K) | (refine flc (fun K hK => ?_); go_simp; refine hK _ ?_; clear hK K))
         refine fl_loadm rfl (by decide) (by first | exact wanted_none rfl | (go_simp; done) | fail) rfl row_point HM1.o (by first | rfl | (go_simp; done) | rfl) HXL.o (fun K hK => ?_);go_simp;refine hK _ ?_;clear hK K;repeat (first | (refine fl_load rfl (by decide) (by first | exact wanted_none rfl | (go_simp; done) | fail) rfl (by first | rfl | (go_simp; rfl)) (by kernel_rfl) (by first | exact c0 | exact d0 | exact c33 | exact d33 | exact c34 | exact d34) (fun K hK => ?_); go_simp; refine hK _ ?_; clear hK K) | (refine fl_skip rfl (by first | (go_simp; done) | fail) (fun K hK => ?_); go_simp; refine hK _ ?_; clear hK K) | (refine flc (fun K hK => ?_); go_simp; refine hK _ ?_; clear hK K))
         refine fl_loadm rfl (by decide) (by first | exact wanted_none rfl | (go_simp; done) | fail) rfl row_point HM2.o (by first | rfl | (go_simp; done) | rfl) HYL.o (fun K hK => ?_);go_simp;refine hK _ ?_;clear hK K;repeat (first | (refine fl_load rfl (by decide) (by first | exact wanted_none rfl | (go_simp; done) | fail) rfl (by first | rfl | (go_simp; rfl)) (by kernel_rfl) (by first | exact c0 | exact d0 | exact c33 | exact d33 | exact c34 | exact d34) (fun K hK => ?_); go_simp; refine hK _ ?_; clear hK K) | (refine fl_skip rfl (by first | (go_simp; done) | fail) (fun K hK => ?_); go_simp; refine hK _ ?_; clear hK K) | (refine flc (fun K hK => ?_); go_simp; refine hK _ ?_; clear hK K))
         refine fl_done ?_;intro v_ hg_ hL_;replace HB := kp (HB.o.grow' hg_);replace HX := kp (HX.o.grow hg_);replace HY := kp (HY.o.grow hg_);clear hg_ hL_;try clear w_
         rename World => w_;clear HM1 HM2 hq c0 d0 c33 d33 c34 d34 HSB;clear v1 v2;go_wp2_with fail;go_ret
         exact ⟨by rw [HN.o]; rfl, HB.o⟩
      ·obtain rfl : k = n := by omega
       have HINS := kp (show l.map Prod.snd = l2.map Prod.snd by
        have h := hup.o;rw [List.take_of_length_le (by rw [List.length_map, HL1.o]; omega), List.take_of_length_le (by rw [List.length_map, HL2.o]; omega)] at h
        exact h)
       clear hup;have c0 := HX.o.blk.at_ HT0.o;go_wp2_with fail;clear c0;go_loopw [6] (fun i wr => ∃ j : Nat, j ≤ m ∧ i = .int .i64 j ∧ Hid (os.take j = os2.take j) ∧ Hid (At wr g1 26 4 tv ∧ At wr g2 26 4 uv ∧ Below w.heap.size w wr)) (fun i _ => m - (intOf i).toNat)
       case atStart => exact ⟨0, by omega, rfl, kp (by simp), kp ⟨HX.o, HY.o, HB.o⟩⟩
       case round =>
        obtain ⟨j, hj, rfl, hup, hI⟩ := hrel;clear HX HY HB;have HX := kp hI.o.1; have HY := kp hI.o.2.1; have HB := kp hI.o.2.2;clear hI;rename World => w_;by_cases hjt : j < m
        ·have c1 := HX.o.blk.at_ HT1.o
         go_upto_block 3 with fail
         clear c1;obtain ⟨b, off, p, rfl, hp, hok, hc⟩ := HO1.o.at_ hjt;obtain ⟨b2, off2, p2, rfl, hp2, hok2, hc2⟩ := HO2.o.at_ hjt;have HP := kp hp; have HP2 := kp hp2;obtain ⟨r, hr, hq⟩ := out_eq hok hok2;have HRR := kp hr;have HC := kp hc; have HC2 := kp hc2;have HK1 := kp (outV_len hok); have HK2 := kp (outV_len hok2);obtain ⟨ov, hov⟩ := xe (outV p);obtain ⟨ou, hou⟩ := xe (outV p2);rw [← hov] at HC HK1 hq;rw [← hou] at HC2 HK2 hq;clear hr hc hc2 hok hok2 hp hp2 hov hou;have v1 : IntKind.i64.wrap ((j : Int) + 1) = (j : Int) + 1 := IntWalk.i64_in _ (by omega);have v2 : RowKit.wrap64 ((j : Int) + 1) = (j : Int) + 1 := wrap64_in _ (by clear v1; omega);try go_wp2_with fail
         repeat' (first | (with_reducible refine wp_flow (id := 11) [0,1,0,7,15,0,32,0,224,480,1023] [0,0,0,0,0,0,0,0,0,0,0] (fun i => match i with  | _ => spV undef) (by kernel_rfl) (by kernel_rfl) ?_) | go_values | go_skip | go_guarded | go_step | go_upon | go_back)
         intro w_ hd_;have y_ := hd_.grow;replace HB := kp (HB.o.grow' y_);replace HX := kp (HX.o.grow y_);replace HY := kp (HY.o.grow y_);clear y_ hd_;show wpL _ _ _ _ _ _ _ [0,1,2,3,4,5,6,7,8,9,10] _ _
         have c1 := HX.o.blk.at_ HT1.o; have d1 := HY.o.blk.at_ HU1.o;have HM1 := kq (∀ j' u, ov[j']? = some u → w_.cell? ⟨b, off + j * 33 + j', none⟩ = some u) (fun j' u hu => bcell HB.o (HC.o j' u hu));have HM2 := kq (∀ j' u, ou[j']? = some u → w_.cell? ⟨b2, off2 + j * 33 + j', none⟩ = some u) (fun j' u hu => bcell HB.o (HC2.o j' u hu));repeat (first | (refine fl_load rfl (by decide) (by first | exact wanted_none rfl | (go_simp; done) | fail) rfl (by first | rfl | (go_simp; rfl)) (by kernel_rfl) (by first | exact c1 | exact d1) (fun K hK => ?_); go_simp; refine hK _ ?_; clear hK K) | (refine fl_skip rfl (by first | (go_simp; done) | fail) (fun K hK => ?_); go_simp; refine hK _ ?_; clear hK K) | (refine flc (fun K hK => ?_); go_simp; refine hK _ ?_; clear hK K))
         refine fl_loadm rfl (by decide) (by first | exact wanted_none rfl | (go_simp; done) | fail) rfl row_tout HM1.o (by first | rfl | (go_simp; done) | rfl) HK1.o (fun K hK => ?_);go_simp;refine hK _ ?_;clear hK K;repeat (first | (refine fl_load rfl (by decide) (by first | exact wanted_none rfl | (go_simp; done) | fail) rfl (by first | rfl | (go_simp; rfl)) (by kernel_rfl) (by first | exact c1 | exact d1) (fun K hK => ?_); go_simp; refine hK _ ?_; clear hK K) | (refine fl_skip rfl (by first | (go_simp; done) | fail) (fun K hK => ?_); go_simp; refine hK _ ?_; clear hK K) | (refine flc (fun K hK => ?_); go_simp; refine hK _ ?_; clear hK K))
         refine fl_loadm rfl (by decide) (by first | exact wanted_none rfl | (go_simp; done) | fail) rfl row_tout HM2.o (by first | rfl | (go_simp; done) | rfl) HK2.o (fun K hK => ?_);go_simp;refine hK _ ?_;clear hK K;repeat (first | (refine fl_load rfl (by decide) (by first | exact wanted_none rfl | (go_simp; done) | fail) rfl (by first | rfl | (go_simp; rfl)) (by kernel_rfl) (by first | exact c1 | exact d1) (fun K hK => ?_); go_simp; refine hK _ ?_; clear hK K) | (refine fl_skip rfl (by first | (go_simp; done) | fail) (fun K hK => ?_); go_simp; refine hK _ ?_; clear hK K) | (refine flc (fun K hK => ?_); go_simp; refine hK _ ?_; clear hK K))
         refine fl_done ?_;intro v_ hg_ hL_;replace HB := kp (HB.o.grow' hg_);replace HX := kp (HX.o.grow hg_);replace HY := kp (HY.o.grow hg_);clear hg_ hL_;try clear w_
         rename World => w_;clear HM1 HM2 hq c1 d1;cases r with
         | true =>
          have HE := kq (p = p2) (HRR.o.1 rfl);go_wp2_with fail;go_roundw
          all_goals clear v1 v2
          case rel => exact ⟨j + 1, by omega, by go_num, kp (by rw [List.take_add_one, List.take_add_one, HP.o, HP2.o, hup.o, HE.o]), kp ⟨HX.o, HY.o, HB.o⟩⟩
          case measure => simp [intOf]; omega
         | false =>
          have HN := kq (res = false) (res_false HRES.o (fun h => take_ne HP.o HP2.o (fun e => by have := HRR.o.2 e; cases this) (congrArg Txn.outs h)));clear v1 v2;go_wp2_with fail;go_ret
          exact ⟨by rw [HN.o]; rfl, HB.o⟩
        ·obtain rfl : j = m := by omega
         have HN := kp (show res = true by
          refine HRES.o.2 ?_;have h := hup.o;rw [List.take_of_length_le (by rw [HL3.o]; omega), List.take_of_length_le (by rw [HL4.o]; omega)] at h
          rw [HINS.o, h])
         have c1 := HX.o.blk.at_ HT1.o;go_wp2_with fail;go_ret
         exact ⟨by rw [HN.o]; rfl, HB.o⟩
    ·have HN := kq (res = false) (res_false HRES.o (fun h => he (congrArg Txn.expiry h)));have n1_ : ((n : Int) != (n : Int)) = false := by simp
     have n2_ : ((m : Int) != (m : Int)) = false := by simp
     have n3_ : (fee != fee) = false := by simp
     have b1 : (ex == ex2) = false := by simp [he]
     have b2 : (ex != ex2) = true := by simp [he]
     have b3 : decide (ex = ex2) = false := by simp [he]
     go_wp2_with fail;go_ret
     exact ⟨by rw [HN.o]; rfl, HB.o⟩
   ·have HN := kq (res = false) (res_false HRES.o (fun h => hf (congrArg Txn.fee h)));have n1_ : ((n : Int) != (n : Int)) = false := by simp
    have n2_ : ((m : Int) != (m : Int)) = false := by simp
    have b1 : (fee == fee2) = false := by simp [hf]
    have b2 : (fee != fee2) = true := by simp [hf]
    have b3 : decide (fee = fee2) = false := by simp [hf]
    go_wp2_with fail;go_ret
    exact ⟨by rw [HN.o]; rfl, HB.o⟩
  ·have HN := kq (res = false) (res_false HRES.o (fun h => hmm (by have h2 := congrArg List.length (congrArg Txn.outs h); rw [← HL3.o, ← HL4.o]; exact h2)));have n1_ : ((n : Int) != (n : Int)) = false := by simp
   have b1 : ((m : Int) == (m2 : Int)) = false := by simp; omega
   have b2 : ((m : Int) != (m2 : Int)) = true := by simp; omega
   have b3 : (m == m2) = false := by simp; omega
   have b4 : (m != m2) = true := by simp; omega
   have b5 : decide (m = m2) = false := by simp; omega
   go_wp2_with fail;go_ret
   exact ⟨by rw [HN.o]; rfl, HB.o⟩
 ·have HN := kq (res = false) (res_false HRES.o (fun h => hnn (by have h2 := congrArg List.length (congrArg Txn.ins h); simp only [List.length_map] at h2; rw [← HL1.o, ← HL2.o]; exact h2)));have b1 : ((n : Int) == (n2 : Int)) = false := by simp; omega
  have b2 : ((n : Int) != (n2 : Int)) = true := by simp; omega
  have b3 : (n == n2) = false := by simp; omega
  have b4 : (n != n2) = true := by simp; omega
  have b5 : decide (n = n2) = false := by simp; omega
  go_wp2_with fail;go_ret
  exact ⟨by rw [HN.o]; rfl, HB.o⟩
end Go.Proofs.Ytobmldegjajocaa

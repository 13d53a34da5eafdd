/- The walk of tx.isTwice. -/
import Derived.Test.YtobmldegjajocaaRe15
set_option linter.unusedSimpArgs false
set_option linter.unusedVariables false
set_option maxRecDepth 100000
set_option maxHeartbeats 16000000
namespace Go.Proofs.Ytobmldegjajocaa
open Go.RowKit Go.Shelf
theorem pt_cells {w : World} {g : Nat} {i : Inp} {v : Value} (hb : Blk w g 105 (inV v i)) (hk : i.ok) : ∀ (j : Nat) (u : Value), (ptKV i.pt)[j]? = some u → w.cell? ⟨g, 0 + j, none⟩ = some u := by
 intro j u hu;refine hb.at_ (i := 0 + j) ?_;rw [Nat.zero_add];have e : inV v i = ptKV i.pt ++ [.int .u64 i.amount, v] := by simp [inV, ptKV, Inp.pt]
 rw [e, List.getElem?_append_left (List.getElem?_eq_some_iff.1 hu).1]; exact hu
theorem istwice_any {A : Option Addr} {n c : Nat} {A2 : Option Addr} {n2 c2 : Nat} {fee ex : Int} {l : List (Value × Inp)} {os : List Outp} (w : World) (hi : InsAt w A n c l) (hn : n ≤ 1000000) :
  Calls Try.prog 96 #[.agg (txV A n c A2 n2 c2 fee ex).toArray] w fun e w' => e = .returned (.bool (twiceT ⟨l.map Prod.snd, os, fee, ex⟩)) ∧ Grow w w' := by
 have HI := kp hi;have HTC := kp (txV_cl (A := A) (n := n) (c := c) (A2 := A2) (n2 := n2) (c2 := c2) (fee := fee) (ex := ex));have HT0 := kq ((txV A n c A2 n2 c2 fee ex)[0]? = some (.slice A n c)) rfl;obtain ⟨tv, htv⟩ := xe (txV A n c A2 n2 c2 fee ex);rw [← htv] at HTC HT0 ⊢;obtain ⟨ps, hps⟩ := xe ((l.map Prod.snd).map Inp.pt);have HPS := kp hps;have HTW := kq (twiceT ⟨l.map Prod.snd, os, fee, ex⟩ = !decide ps.Nodup) (by rw [hps]; rfl);rw [HTW.o];have hmm : ∀ w, (Instr.makeMap 171 none).run Try.prog w = .ok (.map (some w.heap.size)) (w.alloc (.map #[] 0)) := fun w => rfl
 obtain ⟨w_, hw⟩ := xe w;have HB := kq (Below w.heap.size w w_) (by rw [hw]; exact Below.refl _ _)
 suffices H : Calls Try.prog 96 #[.agg tv.toArray] w_ fun e w' => e = .returned (.bool (!decide ps.Nodup)) ∧ Grow w w' by rw [hw] at H; exact H
 clear hw hi htv hps
 go_enter Try.func96, Try.ntmps96
 go_wp2_with (with_reducible refine wbx 1 ?_);intro v_ b_ y_ s_;have HX_ := kp (at_mk b_ HTC.o.len);clear b_ s_;have HG_ := kp HB.o.size;replace HB := kp (HB.o.grow' y_);generalize hg_ : w_.heap.size = g1 at HX_ HG_ ⊢;clear hg_;have HX_g := HG_;clear HG_;have HX := HX_;clear y_ HX_;try clear w_
 rename World => w_
 go_upto_region 2 with fail
 generalize hw_ : World.alloc w_ _ = v_;obtain ⟨b, hb⟩ := xe w_.heap.size;have HSN := kq (SeenAt v_ b []) ⟨⟨#[], 0, by rw [← hw_, hb]; exact heap_alloc_new _ _, MapOK.empty _ _ _, rfl⟩, by simp, by simp⟩;have y_ : Grow w_ v_ := by rw [← hw_]; exact (Below.refl _ _).alloc (Nat.le_refl _) _
 have HBG := kq (w.heap.size ≤ b) (by rw [hb]; exact HB.o.size);rw [← hb];replace HX := kp (HX.o.grow y_);replace HB := kp (HB.o.grow' y_);clear hw_ hb y_ hmm;try clear w_
 rename World => w_;have c0 := HX.o.blk.at_ HT0.o;go_wp2_with fail;go_loopw [10] (fun iv wr => ∃ k : Nat, k ≤ n ∧ iv = .int .i64 k ∧ Hid (SeenAt wr b (ps.take k) ∧ Below w.heap.size w wr)) (fun iv _ => n - (intOf iv).toNat)
 case atStart => exact ⟨0, by omega, rfl, kp ⟨HSN.o, HB.o⟩⟩
 case round =>
  obtain ⟨k, hk, rfl, hI⟩ := hrel;clear HB HSN HX c0;have HSN := kp hI.o.1; have HB := kp hI.o.2;clear hI;rename World => w_;by_cases hlt : k < n
  ·have HII := kp (HI.o.grow HB.o);obtain ⟨b0, off, p, rfl, hp, hok, hc⟩ := HII.o.at_ hlt;have HC := kp hc;have HPC := kp (inV_cl hok);have HOK := kp hok.2;have HPK := kq (ptKO p.2.pt) ⟨hok.2.1, hok.2.2.1⟩;have HPV := kq (ps[k]? = some p.2.pt) (by rw [HPS.o, List.getElem?_map, List.getElem?_map, hp]; rfl);have HPT := kp (fun (w : World) (g : Nat) (h : Blk w g 105 (inV p.1 p.2)) => pt_cells h hok.2);obtain ⟨pv, hpv⟩ := xe (inV p.1 p.2);rw [← hpv] at HC HPC HPT;obtain ⟨x, hx⟩ := xe p.2.pt;rw [← hx] at HPK HPV HPT;have HXL := kp (ptKV_len HPK.o);clear hp hok hc hpv hx HII;go_wp2_with (with_reducible first | refine wlm 13 row_tin HC.o HPC.o.len ?_ | refine wal 5 zero_tin ?_);intro w1_ hb1_ hbw1_ hsz1_;have HB1_ := kp (at_mk hb1_ len_tin);have HBW1_ := kp hbw1_;have HZ1_ := kp hsz1_;clear hb1_ hbw1_ hsz1_;go_wp2_with (with_reducible refine wsb row_tin HB1_.o.blk HB1_.o.len HPC.o.len HPC.o.one ?_);intro v_ b_ g_ s_;have y_ := var_grow HBW1_.o HZ1_.o g_;have HX_ := kp (at_mk b_ HPC.o.len);clear b_ g_ s_ HB1_ HBW1_ HZ1_;replace HB := kp (HB.o.grow' y_);replace HSN := kp (HSN.o.grow y_);generalize hg_ : w_.heap.size = g5 at HX_ ⊢;clear hg_;have HE := HX_;clear y_ HX_;clear w1_;try clear w_
   rename World => w_;have HPM := kp (HPT.o _ _ HE.o.blk);have hlk := HSN.o.look HPK.o;unfold ptKA at hlk;by_cases hm : x ∈ ps.take k
   ·have HND := kp (show decide ps.Nodup = false by
     rw [decide_eq_false_iff_not];intro hnd;obtain ⟨j, hj, he⟩ := List.getElem_of_mem hm;rw [List.getElem_take] at he;rw [List.length_take] at hj;have hk2 := (List.getElem?_eq_some_iff.1 HPV.o).2;have := (List.getElem_inj hnd (h₀ := by omega) (h₁ := (List.getElem?_eq_some_iff.1 HPV.o).1)).1 (he.trans hk2.symm)
     omega)
    rw [if_pos hm] at hlk;clear hm;go_wp2_with (with_reducible refine wlm 16 row_point HPM.o HXL.o ?_);go_ret
    exact ⟨by rw [HND.o]; rfl, HB.o⟩
   ·rw [if_neg hm] at hlk;have HNM := kp hm;clear hm;go_wp2_with (with_reducible refine wlm 16 row_point HPM.o HXL.o ?_);obtain ⟨es, clock, h3, h4, h5⟩ := HSN.o.map;obtain ⟨lx, hlx⟩ := keyOf_ptK x HPK.o
    have HGB := kp (show g5 ≠ b from fun e => by
     have h6 := HE.o.blk;unfold Blk at h6;rw [e, h3] at h6
     cases h6)
    have HM3 := kp h3;have HNO := kp (HSN.o.none HPK.o HNM.o h3);have HDN := kp (fun w3 h => seenC.done (w0 := w_) (b := b) (w := w3) h h4 hlx HNO.o h5 HSN.o.ok HPK.o HSN.o.nodup HNM.o);have HLO := kp (fun k w hk h => seenC.look (w0 := w_) (b := b) h4 hlx HNO.o k w hk h);have HR0 := kp (fun w h => seenC.run0 (w0 := w_) (b := b) (w := w) h h4 hlx HNO.o);have HR1 := kp (fun w h => seenC.run1 (w0 := w_) (b := b) (w := w) h h4 hlx HNO.o);unfold ptKA at HLO HR0 HR1;clear h3 h4 h5 hlx hlk;repeat' (first | (with_reducible refine wp_phase (id := 7) (seenC w_ b es clock x) [5, 7] [(0,2),(0,2),(0,2),(0,1),(0,2),(0,0),(0,2),(1,1)] (by kernel_rfl) (by kernel_rfl) ?_ ?_) | go_values | go_skip | go_guarded | go_step | go_upon | go_back)
    ·exact ⟨grown_of_below (Drawn.all (Drawn.one w_)) _, HM3.o⟩
    refine ph_value rfl (by first | rfl | go_simp) (fun k_ _ _ w_ hC_ => by first | (go_simp; rfl) | (go_simp; done) | rfl) (fun K hK => ?_);go_simp;refine hK _ ?_;clear hK K;refine ph_value rfl (by first | rfl | go_simp) (fun k_ _ _ w_ hC_ => by first | (go_simp; rfl) | (go_simp; done) | rfl) (fun K hK => ?_);go_simp;refine hK _ ?_;clear hK K;refine ph_loadm rfl rfl rfl row_point (fun k _ _ w h => HPT.o w g5 (Blk.grown HE.o.blk (seenC.low k w h) (fun e => HGB.o (Option.some.inj e)))) rfl HXL.o ?_
    (intro K hK; go_simp; refine hK _ ?_; clear hK K)
    refine ph_value rfl (by first | rfl | go_simp) (fun k_ h1_ h2_ w_ hC_ => by have c1 := HLO.o k_ w_ (Nat.le_trans h2_ (by decide)) hC_; first | (go_simp; rfl) | (go_simp; done) | rfl) (fun K hK => ?_);go_simp;refine hK _ ?_;clear hK K;refine ph_value rfl (by first | rfl | go_simp) (fun k_ _ _ w_ hC_ => by first | (go_simp; rfl) | (go_simp; done) | rfl) (fun K hK => ?_);go_simp;refine hK _ ?_;clear hK K;refine ph_run 0 rfl rfl rfl (by first | rfl | go_simp) (fun w' hC => ⟨_, by (have hrun := HR0.o w' hC); first | (go_simp; rfl) | (go_simp; exact ⟨rfl, rfl⟩) | go_simp, hC.entry⟩) ?_
    (intro K hK; go_simp; refine hK _ ?_; clear hK K)
    refine ph_value rfl (by first | rfl | go_simp) (fun k_ _ _ w_ hC_ => by first | (go_simp; rfl) | (go_simp; done) | rfl) (fun K hK => ?_);go_simp;refine hK _ ?_;clear hK K;refine ph_runs 1 rfl rfl rfl (by first | rfl | go_simp) (fun w' hC => ⟨_, by (have hrun := HR1.o w' hC); (have hw1 : IntKind.i64.wrap 1 = 1 := by decide); first | (go_simp; rfl) | (go_simp; exact ⟨rfl, rfl⟩) | go_simp, hC.fill⟩) ?_
    (intro K hK; go_simp; refine hK _ ?_; clear hK K)
    refine ph_nil ?_;intro w3 h3;have HS3 := kq (SeenAt w3 b (ps.take (k + 1))) (by rw [take_snoc HPV.o]; exact HDN.o w3 h3);have HB3 := kp (put_below HB.o HBG.o (seenC.low 2 w3 h3));clear h3;go_wp2_with fail;go_roundw
    case rel => exact ⟨k + 1, by omega, by go_num, kp ⟨HS3.o, HB3.o⟩⟩
    case measure => simp [intOf]; omega
  ·obtain rfl : k = n := by omega
   have HND := kp (show decide ps.Nodup = true by
    rw [decide_eq_true_iff];have h := HSN.o.nodup;rw [List.take_of_length_le (by rw [HPS.o, List.length_map, List.length_map]; have := HI.o.2.2.1; omega)] at h
    exact h)
   go_wp2_with fail;go_ret
   exact ⟨by rw [HND.o]; rfl, HB.o⟩
theorem OwnU.sl {w : World} {base n c : Nat} {A : Option Addr} {zs : List Value} (h : OwnU w base A n c zs) : Sl w w.heap.size 1 A n zs := Sl.of_own h
theorem tcheck_any {A : Option Addr} {n c : Nat} {A2 : Option Addr} {n2 c2 : Nat} {fee ex : Int} {l : List (Value × Inp)} {os : List Outp} (w : World) (hi : InsAt w A n c l) (ho : OutsAt w A2 n2 c2 os) (hn : n ≤ 100000) (hn2 : n2 ≤ 100000) (hf : U64 fee) (hex : I64 ex) :
  Calls Try.prog 55 #[.agg (txV A n c A2 n2 c2 fee ex).toArray] w fun e w' => e = .returned (.int .i64 (checkT ⟨l.map Prod.snd, os, fee, ex⟩)) ∧ Grow w w' := by
 have HI := kp hi; have HO := kp ho;have HTC := kp (txV_cl (A := A) (n := n) (c := c) (A2 := A2) (n2 := n2) (c2 := c2) (fee := fee) (ex := ex));have HT2 := kq ((txV A n c A2 n2 c2 fee ex)[2]? = some (.int .u64 fee)) rfl;have HAM := kp (fun w hi ho => amounts_any (A := A) (n := n) (c := c) (A2 := A2) (n2 := n2) (c2 := c2) (fee := fee) (ex := ex) (l := l) (os := os) w hi ho (by omega) (by omega));have HLG := kp (fun w hi => islong_any (A := A) (n := n) (c := c) (A2 := A2) (n2 := n2) (c2 := c2) (fee := fee) (ex := ex) (l := l) (os := os) w hi ho.2.2.1 (by omega) (by omega) hex);have HTW := kp (fun w hi => istwice_any (A := A) (n := n) (c := c) (A2 := A2) (n2 := n2) (c2 := c2) (fee := fee) (ex := ex) (l := l) (os := os) w hi (by omega));obtain ⟨t, ht⟩ := xe (Txn.mk (l.map Prod.snd) os fee ex);obtain ⟨lg, hlg⟩ := xe (longT t);obtain ⟨tw, htw⟩ := xe (twiceT t);rw [← ht, ← hlg] at HLG;rw [← ht, ← htw] at HTW;have e1 : t.ins.map Inp.amount = amI l := by rw [ht]; simp [amI]
 have e2 : t.outs.map Outp.amount = amO os := by rw [ht]; rfl
 have e3 : t.fee = fee := by rw [ht]
 have HP1 := kq (∀ z ∈ amI l, 0 ≤ z) (fun z hz => by obtain ⟨p, hp, rfl⟩ := List.mem_map.1 hz; exact (hi.2.1 p hp).2.2.2.1)
 have HP2 := kp (show ∀ z ∈ amO os ++ [fee], 0 ≤ z from fun z hz => by
  rcases List.mem_append.1 hz with h | h
  ·obtain ⟨p, hp, rfl⟩ := List.mem_map.1 h; exact (ho.2.1 p hp).2.1
  ·rw [List.mem_singleton.1 h]; exact hf.1)
 obtain ⟨z1, hz1⟩ := xe ((amI l).contains 0);obtain ⟨z2, hz2⟩ := xe ((amO os).contains 0);have HC1 := kp (fun (A : Option Addr) (c : Nat) w hs => contains64_any (A := A) (n := n) (c := c) (zs := amI l) (x := 0) w hs (by omega));have HC2 := kp (fun (A : Option Addr) (c : Nat) w hs => contains64_any (A := A) (n := n2) (c := c) (zs := amO os) (x := 0) w hs (by omega));have HA1 := kp (fun (A : Option Addr) (c : Nat) w hs => all_any A n c (amI l) w hs (by omega) HP1.o);have HA2 := kp (fun (A : Option Addr) (c : Nat) w hs => all_any A (n2 + 1) c (amO os ++ [fee]) w hs (by omega) HP2.o);rw [← hz1] at HC1;rw [← hz2] at HC2;obtain ⟨s1, hs1⟩ := xe ((allE 0 (amI l)).1);obtain ⟨r1, hr1⟩ := xe ((allE 0 (amI l)).2);obtain ⟨s2, hs2⟩ := xe ((allE 0 (amO os ++ [fee])).1);obtain ⟨r2, hr2⟩ := xe ((allE 0 (amO os ++ [fee])).2);rw [← hs1, ← hr1] at HA1;rw [← hs2, ← hr2] at HA2
 have HCK := kp (show checkT t = if lg = true then 4 else if tw = true then 7 else if (z1 || z2) = true then 8 else if r1 ≠ 0 then r1 else if r2 ≠ 0 then r2 else if s1 ≠ s2 then 9 else 0 by
  unfold checkT zeroT
  rw [e1, e2, e3, ← hlg, ← htw, ← hz1, ← hz2, ← hs1, ← hr1, ← hs2, ← hr2])
 rw [← ht];obtain ⟨ck, hck⟩ := xe (checkT t);rw [← hck] at HCK ⊢;have HZ := kq (((amO os ++ [fee]).map (Value.int .u64)) = (amO os).map (Value.int .u64) ++ [.int .u64 fee]) (by simp);obtain ⟨tv, htv⟩ := xe (txV A n c A2 n2 c2 fee ex);rw [← htv] at HTC HT2 HAM HLG HTW ⊢;obtain ⟨xs1, hx1⟩ := xe ((amI l).map (Value.int .u64));obtain ⟨xs2, hx2⟩ := xe ((amO os).map (Value.int .u64));rw [← hx1, ← hx2] at HAM;rw [← hx1] at HC1 HA1;rw [← hx2] at HC2 HZ;obtain ⟨xs3, hx3⟩ := xe ((amO os ++ [fee]).map (Value.int .u64));rw [← hx3] at HA2 HZ;obtain ⟨w_, hw⟩ := xe w;have HB := kq (Below w.heap.size w w_) (by rw [hw]; exact Below.refl _ _)
 suffices H : Calls Try.prog 55 #[.agg tv.toArray] w_ fun e w' => e = .returned (.int .i64 ck) ∧ Grow w w' by rw [hw] at H; exact H
 clear hw hi ho ht hlg htw e1 e2 e3 hz1 hz2 hs1 hr1 hs2 hr2 hck htv hx1 hx2 hx3 hf hex
 go_enter Try.func55, Try.ntmps55
 go_wp2_with (with_reducible refine wbx 1 ?_);intro v_ b_ y_ s_;have HX_ := kp (at_mk b_ HTC.o.len);clear b_ s_;have HG_ := kp HB.o.size;replace HB := kp (HB.o.grow' y_);generalize hg_ : w_.heap.size = g1 at HX_ HG_ ⊢;clear hg_;have HX_g := HG_;clear HG_;have HX := HX_;clear y_ HX_;try clear w_
 rename World => w_;go_wp2_with (with_reducible refine wlb 9 row_tx HX.o.blk HX.o.len ?_);refine (HAM.o _ (HI.o.grow HB.o) (HO.o.grow HB.o)).mono ?_;rintro e v_ ⟨A3, c3, A4, c4, rfl, hu1, hu2, y_⟩;have HU1 := kp hu1;have HU2 := kq (OwnU v_ w_.heap.size A4 n2 c4 xs2) hu2;have HGB := kq (w.heap.size ≤ w_.heap.size ∧ g1 < w_.heap.size) ⟨HB.o.size, HX.o.lt⟩;obtain ⟨b4, hb4⟩ := xe w_.heap.size;have HSB := kq (SzG v_ w_.heap.size) y_.size;rw [← hb4] at HU1 HU2 HGB HSB;have HX1 := kp (HX.o.grow y_);clear hu1 hu2 hb4;clear HX;have HX := HX1;clear HX1;replace HB := kp (HB.o.grow' y_);clear y_;try clear w_
 rename World => w_;go_wp2_with (with_reducible refine wlb 14 row_tx HX.o.blk HX.o.len ?_);refine (HLG.o _ (HI.o.grow HB.o)).mono ?_;rintro e w_ ⟨rfl, y_⟩;replace HB := kp (HB.o.grow' y_);replace HX := kp (HX.o.grow y_);replace HU1 := kp (HU1.o.grow y_);replace HU2 := kp (HU2.o.grow y_);replace HSB := kp (HSB.o.grow y_);clear y_;cases lg with
 | true =>
  go_wp2_with fail;go_ret
  exact ⟨by rw [HCK.o]; rfl, HB.o⟩
 | false =>
  go_wp2_with (with_reducible refine wlb 17 row_tx HX.o.blk HX.o.len ?_);refine (HTW.o _ (HI.o.grow HB.o)).mono ?_;rintro e w_ ⟨rfl, y_⟩;replace HB := kp (HB.o.grow' y_);replace HX := kp (HX.o.grow y_);replace HU1 := kp (HU1.o.grow y_);replace HU2 := kp (HU2.o.grow y_);replace HSB := kp (HSB.o.grow y_);clear y_;cases tw with
  | true =>
   go_wp2_with fail;go_ret
   exact ⟨by rw [HCK.o]; rfl, HB.o⟩
  | false =>
   go_wp2_with fail;refine (HC1.o _ _ _ HU1.o.sl).mono ?_;rintro e v_ ⟨rfl, rfl⟩;cases z1 with
   | true =>
    go_wp2_with fail;go_ret
    exact ⟨by rw [HCK.o]; rfl, HB.o⟩
   | false =>
    go_wp2_with fail;refine (HC2.o _ _ _ HU2.o.sl).mono ?_;rintro e v_ ⟨rfl, rfl⟩;cases z2 with
    | true =>
     go_wp2_with fail;go_ret
     exact ⟨by rw [HCK.o]; rfl, HB.o⟩
    | false =>
     go_wp2_with fail;refine (HA1.o _ _ _ HU1.o.sl).mono ?_;clear HU1;rintro e w_ ⟨rfl, y_⟩;replace HB := kp (HB.o.grow' y_);replace HX := kp (HX.o.grow y_);replace HU2 := kp (HU2.o.grow y_);replace HSB := kp (HSB.o.grow y_);clear y_;by_cases h1 : r1 = 0
     ·have HC3 := kq (ck = if r2 ≠ 0 then r2 else if s1 ≠ s2 then 9 else 0) (by rw [HCK.o]; simp [h1]);subst h1;have c2 := HX.o.blk.at_ HT2.o;have HSZ := kq (b4 ≤ w_.heap.size) HSB.o;have HR3 := kq (w_.ownsRow b4 24 1 (.slice A4 n2 c4) n2 xs2) HU2.o;go_wp2_with (first | (at_builtin; refine wpl_app1 rfl rfl el_us HR3.o rfl (m := 1) rfl ?_ ?_ ?_ ?_ ?_ ?_))
      ·rfl
      ·rfl
      ·omega
      ·omega
      ·exact HSZ.o
      intro A5 c5 w4_ ho_ hg_ hA_;have hne_ := own_from HR3.o;have HB_ := kp (below_grown HB.o hg_ HB.o.size (fun x hx => by have := hne_ _ hx; have := HGB.o; omega));have HS5 := kq (Sl w4_ w4_.heap.size 1 A5 (n2 + 1) xs3) (by rw [HZ.o]; exact Sl.of_own ho_);clear ho_ hg_ hA_ hne_ HB HR3 HU2 HX c2;go_wp2_with fail;refine (HA2.o _ _ _ HS5.o).mono ?_;rintro e w5_ ⟨rfl, y_⟩;have HB := kp (HB_.o.grow' y_);clear y_ HB_ HS5;by_cases h2 : r2 = 0
      ·have HC4 := kq (ck = if s1 ≠ s2 then 9 else 0) (by rw [HC3.o]; simp [h2]);subst h2;by_cases h3 : s1 = s2
       ·have d3 : (s1 != s2) = false := by simpa using h3
        have HC5 := kq (ck = 0) (by rw [HC4.o]; simp [h3]);clear h3;go_wp2_with fail;go_ret
        exact ⟨by rw [HC5.o]; rfl, HB.o⟩
       ·have d3 : (s1 != s2) = true := by simpa using h3
        have HC5 := kq (ck = 9) (by rw [HC4.o]; simp [h3]);clear h3;go_wp2_with fail;go_ret
        exact ⟨by rw [HC5.o]; rfl, HB.o⟩
      ·have d2 : (r2 != 0) = true := by simpa using h2
       have HC4 := kq (ck = r2) (by rw [HC3.o]; simp [h2]);clear h2;go_wp2_with fail;go_ret
       exact ⟨by rw [HC4.o]; rfl, HB.o⟩
     ·have d1 : (r1 != 0) = true := by simpa using h1
      have HC3 := kq (ck = r1) (by rw [HCK.o]; simp [h1]);clear h1;go_wp2_with fail;go_ret
      exact ⟨by rw [HC3.o]; rfl, HB.o⟩
section
variable {P : Program} {ops : Array Oper} {am cl : List Nat} {sp : Nat → Sp} {w0 : World} {Q : Exit → Act → World → Prop} {us : List Nat} {L : List (Nat × (World → Prop))} {o : Oper} {i : Nat} {a : Act}
end
end Go.Proofs.Ytobmldegjajocaa

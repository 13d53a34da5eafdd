/- The contract of the pen's Num. Printed by mkpen.py. -/
import Derived.Test.YtobmldegjajocaaRe4
import Derived.Lib.SliceRun
import Derived.DeepKeys4
import Derived.MapKept
import Derived.Maps.Own
import Derived.OpenShut
set_option linter.unusedSimpArgs false
set_option linter.unusedVariables false
set_option maxRecDepth 100000
set_option maxHeartbeats 16000000
namespace Go.Proofs.Ytobmldegjajocaa
open Go.RowKit Go.Shelf
attribute [local go_sem] Oper.semAt_some
section
variable {P : Program} {ops : Array Oper} {Fut : World → World → Prop} {cl : List Nat} {Q : Exit → Act → World → Prop} {o : Oper} {i : Nat} {t : Plan} {a : Act} {w : World}
theorem pl_loadF {T : TypeId} {x : Operand} {p : Addr} {v : Value} (hi : ops[i]? = some o) (hc : plCls cl i = 1) (hw : Region.wanted o (yielded ops a.tmps) = true) (ho : o.op = .load T x) (hx : a.eval x = .pointer (some p))
  (hT : (match P.underlying T with | some (.struct _) | some (.array _ _) => false | some _ => true | none => false) = true) (hv : w.cell? p = some v) (hF : ∀ w', Fut w w' → w'.heap[p.block]? = w.heap[p.block]?)
  (hk : ∀ K : Act → World → Prop, (∀ a w, wpS P ops Fut cl Q t a w → K a w) → K (a.put o.dst v) w) : wpS P ops Fut cl Q (.get i t) a w := by
 refine pl_read hi hc hw (fun w' hf => ?_) hk;have hv' : w'.cell? p = some v := by rw [World.cell?_of_block (hF w' hf)]; exact hv
 unfold execOp;simp only [ho, hx, Instr.loadAt, Instr.sureAddr, Sem.run_bind, Sem.run_pure, Result.andThen_ok];cases hd : P.underlying T with
 | none => rw [hd] at hT; cases hT
 | some d =>
  rw [hd] at hT
  have hagg : (isAgg T).run P w' = .ok false w' := by
   unfold isAgg;rw [Sem.run_bind, run_underlying hd w'];cases d <;> simp_all
  simp [loadVar, hagg, load, Sem.run, hv']
end
theorem kp2_refl (a b : Nat) (w : World) : Kp2 a b w w := ⟨rfl, rfl⟩
theorem kp2_trans {a b : Nat} (w1 w2 w3 : World) (h : Kp2 a b w1 w2) (k : Kp2 a b w2 w3) : Kp2 a b w1 w3 := ⟨k.1.trans h.1, k.2.trans h.2⟩
theorem pen_app2 {K : Nat → Prop} {w w1 : World} {g c c' : Nat} {A A' : Option Addr} {xs : List UInt8} {y : UInt8} {v : Value} (h1 : Blk w g 62 [.slice A xs.length c]) (h2 : w.ownsRow 0 5 1 (.slice A xs.length c) xs.length (xs.map B))
  (h3 : ∀ k, K k → k < w.heap.size ∧ k ≠ g ∧ A.map Addr.block ≠ some k) (h4 : A.map Addr.block ≠ some g) (hv : v = B y)
  (ho : w1.ownsRow 0 5 1 (.slice A' (xs.length + 1) c') (xs.length + 1) (xs.map B ++ [v])) (hg : w.grownBy w1 (A.map Addr.block)) (hA : ∀ b, A'.map Addr.block = some b → A.map Addr.block = some b ∨ w.heap.size ≤ b) :
  PenAt (w1.setCell ⟨g, 0, none⟩ (.slice A' (xs.length + 1) c')) K g (xs ++ [y]) ∧ Kept K w (w1.setCell ⟨g, 0, none⟩ (.slice A' (xs.length + 1) c')) := by
 have hl : (xs ++ [y]).length = xs.length + 1 := by simp
 have := pen_app (ys := xs ++ [y]) (A' := A') (c' := c') h1 h2 h3 h4 (by rw [hl, List.map_append]; rw [hv] at ho; exact ho) hg hA;rw [hl] at this;exact this
theorem num_rev (ys : List UInt8) : (List.range ys.length).map (nthB ys) = ys.reverse := by
 apply List.ext_getElem?
 intro i;rw [List.getElem?_map];by_cases h : i < ys.length
 ·rw [List.getElem?_range h, List.getElem?_reverse h, Option.map_some];unfold nthB;rw [List.getD_eq_getElem?_getD, List.getElem?_eq_getElem (show ys.length - 1 - i < ys.length by omega)]; rfl
 ·rw [List.getElem?_eq_none (by simp; omega), List.getElem?_eq_none (by simp; omega)]; rfl
theorem numB_eq (n : Nat) : numB n = [UInt8.ofNat (lenB n)] ++ (leB n).reverse := by unfold numB; rfl
theorem bnat (n : Nat) : Value.int .u8 ((n : Int) % 256) = B (UInt8.ofNat n) := by unfold B; rw [b8_ofNat]; congr 1
theorem PenAt.kept {K : Nat → Prop} {w w1 : World} {g Bd : Nat} {xs : List UInt8} {row : Option Nat} (h : PenAt w K g xs) (hg : w.grownBy w1 row) (hr : ∀ r, row = some r → Bd ≤ r ∧ ∃ o : Obj, w.heap[r]? = some o ∧ o.isCells = false) : PenAt w1 K g xs := by
 obtain ⟨A, c, h1, h2, h3, h4⟩ := h;exact ⟨A, c, h1.grown hg (row_ne_blk h1 hr), own_kept h2 hg (fun k hk => by subst hk; exact row_ne_own h2 hr), fun j hj => ⟨Nat.lt_of_lt_of_le (h3 j hj).1 hg.size, (h3 j hj).2⟩, h4⟩
theorem keeps_own {w w1 : World} {base n c sz : Nat} {e : TypeId} {A : Option Addr} {xs : List Value} (h : w.ownsRow base e sz (.slice A n c) n xs) (hg : w.grownBy w1 (A.map Addr.block)) : KeepsOthers w w1 := by
 refine ⟨hg.size, fun k o hk hc => ?_⟩;refine (hg.block k (Array.getElem?_eq_some_iff.1 hk).1 (fun e => ?_)).trans hk;rcases h.2 with ⟨hv, _⟩ | ⟨g, cap, cur, hv, _, hh, _⟩
 ·injection hv with hA; subst hA; cases e
 ·injection hv with hA; subst hA
  obtain rfl : k = g := by simpa using e
  rw [hh] at hk; cases hk; cases hc
theorem bnat_s (n : Nat) (h : n ≤ 255) : Value.int .u8 (n : Int) = B (UInt8.ofNat n) := by rw [← bnat]; congr 1; omega
theorem num_any (g N : Nat) (K : Nat → Prop) (xs : List UInt8) (w : World) (h : PenAt w K g xs) (hl : xs.length ≤ 1000000) (hN : N ≤ 18446744073709551615) :
  Calls Try.prog 22 #[.pointer (some ⟨g, 0, none⟩), .int .u64 N] w fun e w' => e = .returned (.tuple #[]) ∧ PenAt w' K g (xs ++ numB N) ∧ Kept K w w' := by
 have HP := kp h; clear h;have HK0 := kq (∀ k, K k → k < w.heap.size) (fun k hk => by obtain ⟨A, c, _, _, h3, _⟩ := HP.o; exact (h3 k hk).1);refine callsIn_wide.1 (callsIn_of_wp_marks (n := 10) Try.func22 rfl trivial ?_ rfl);simp only [Try.ntmps22, List.size_toArray, List.length_cons, List.length_nil, Nat.reduceAdd, Nat.reduceSub, Array.replicate_succ, Array.replicate_zero, List.push_toArray, List.append_toArray, List.nil_append, List.cons_append];refine wpIn_wide.2 ?_;go_wp2_with fail;generalize hw1 : World.alloc w _ = w1;obtain ⟨hX, hb, hs⟩ := alloc_eq hw1;obtain ⟨gp, hgp⟩ := xe w.heap.size;rw [← hgp] at hX hs ⊢;have HG := kp hgp;have HX := kp hX;have HP1 := kp (HP.o.more (K' := fun k => K k ∨ k = gp) hb (fun j hj => hj.imp_right (fun e => by omega)));have HKP1 := kp (Kept.of_grow hb HK0.o);have HS1 := kp hs;have HGL := kq (g < gp) (by rw [hgp]; exact HP.o.lt);clear hX hb hs hw1 hgp HP;have HL8 := kp (lenB_64 hN);go_loopw [1, 4] (fun nv lv wr => ∃ M : Nat, ∃ ys A c, nv = .int .u64 M ∧ lv = .slice A ys.length c ∧ Hid (leB N = ys ++ leB M) ∧ M ≤ N ∧ Hid (wr.ownsRow w1.heap.size 5 1 (.slice A ys.length c) ys.length (ys.map B)) ∧ Hid (ys.length ≤ c) ∧ Hid (Grow w1 wr)) (fun nv _ _ => (intOf nv).toNat)
 case atStart => exact ⟨N, [], none, 0, rfl, rfl, rfl, Nat.le_refl _, World.ownsRow_nil _ _ _ _, Nat.zero_le _, Grow.refl _⟩
 case round =>
  obtain ⟨M, ys, A, c, rfl, rfl, hsp, hMN, hown, hyc, hgr⟩ := hrel;have hyl : ys.length + lenB M = lenB N := by have := congrArg List.length hsp.o; rw [List.length_append, leB_len, leB_len] at this; omega
  have h8 := HL8.o;by_cases hM : 0 < M
  ·have d1 : decide ((0 : Int) < (M : Int)) = true := by simpa using hM
   go_wp2_with (at_builtin; refine wpl_app1 rfl rfl el_u8 hown.o rfl (m := 1) rfl rfl ?_ ?_ ?_ ?_ ?_)
   ·simp [Value.oneCell']
   ·omega
   ·omega
   ·exact hgr.o.size
   intro A5 c5 w5 ho hg hA;have HB5 := kq (Grow w1 w5) (below_grown hgr.o hg hgr.o.size (fun j hj => own_from hown.o j hj));have hll : (ys ++ [UInt8.ofNat M]).length = ys.length + 1 := by simp
   have HO5 := kp (show w5.ownsRow w1.heap.size 5 1 (.slice A5 (ys ++ [UInt8.ofNat M]).length c5) (ys ++ [UInt8.ofNat M]).length ((ys ++ [UInt8.ofNat M]).map B) by
    rw [hll, List.map_append]; simp only [List.map_cons, List.map_nil]; rw [← bnat]; exact ho)
   have HC5 := kq ((ys ++ [UInt8.ofNat M]).length ≤ c5) (by obtain ⟨_, _, _, _, hcc⟩ := own_form HO5.o (by rw [hll]; omega); exact hcc);have HSP5 := kq (leB N = (ys ++ [UInt8.ofNat M]) ++ leB (M / 256)) (by rw [hsp.o, leB_pos (by omega), List.append_assoc]; rfl);clear ho hg hA;rw [← hll];go_wp2_with fail;go_roundw
   case rel => exact ⟨M / 256, ys ++ [UInt8.ofNat M], A5, c5, by first | rfl | (congr 1; omega), rfl, HSP5, by omega, HO5, HC5, HB5⟩
   case measure => simp [intOf]; omega
  ·obtain rfl : M = 0 := by omega
   have HYS := kq (leB N = ys) (by have := hsp.o; rw [leB_zero, List.append_nil] at this; exact this);have hyl2 : ys.length = lenB N := by rw [← leB_len, HYS.o]
   obtain ⟨n, hn⟩ := xe ys.length;have HNL := kq (n = lenB N) (by rw [hn, hyl2]);have HYL := kq (ys.length = n) hn.symm;rw [← hn] at hown hyc ⊢;have HPR := kp (HP1.o.more (K' := fun k => (K k ∨ k = gp) ∨ (w1.heap.size ≤ k ∧ k < wr.heap.size)) hgr.o (fun j hj => hj));have HXR := kp (HX.o.grow hgr.o);have HKR := kp (HKP1.o.trans (Kept.of_grow hgr.o (fun k hk => Nat.lt_of_lt_of_le (HK0.o k hk) HKP1.o.size)));have HOR := hown;have HSR := kq (w1.heap.size ≤ wr.heap.size) hgr.o.size;have hn8 : n ≤ 8 := by have := HNL.o; omega
   clear hyl2 hn hown hgr hsp hyl hMN HX HP1 HKP1;go_wp2_with fail;repeat' (first | (with_reducible refine wp_plan (id := 5) (Kp2 gp g) [1, 1, 0, 0, 1, 0, 0, 0, 4, 4, 0, 0, 3] (.get 0 (.get 1 (.get 2 (.get 3 (.get 4 (.get 5 (.get 6 (.get 7 (.act 8 (.act 9 (.get 10 (.get 11 (.act 12 .done))))))))))))) (by kernel_rfl) (by kernel_rfl) (kp2_refl gp g) kp2_trans ?_) | go_values | go_skip | go_guarded | go_step | go_upon | go_back)
   intro w_ hd_;have hdg := hd_.grow;obtain ⟨Ap, cp, hq1, hq2, hq3, hq4⟩ := HPR.o.grow hdg;have HPB := kp hq1;have HPO := kp hq2;have HGP := kq (w_.cell? ⟨gp, 0, none⟩ = some (.pointer (some ⟨g, 0, none⟩))) ((HXR.o.grow hdg).at_ rfl);have HPC := kq (w_.cell? ⟨g, 0, none⟩ = some (.slice Ap xs.length cp)) (hq1.at_ rfl);have HLT := kq (gp < w_.heap.size ∧ g < w_.heap.size) ⟨(HXR.o.grow hdg).lt, hq1.lt⟩;have HNE := kq (Ap.map Addr.block ≠ some gp ∧ Ap.map Addr.block ≠ some g) ⟨(hq3 gp (.inl (.inr rfl))).2.2, hq4⟩;have HKK := kq (∀ w2, Grow w_ w2 → ∀ k, ((K k ∨ k = gp) ∨ (w1.heap.size ≤ k ∧ k < wr.heap.size)) → k < w2.heap.size ∧ k ≠ g ∧ Ap.map Addr.block ≠ some k) (fun w2 hg k hk => ⟨Nat.lt_of_lt_of_le (hq3 k hk).1 hg.size, (hq3 k hk).2⟩);have HKR_ := kp (HKR.o.trans (Kept.of_grow hdg (fun k hk => Nat.lt_of_lt_of_le (HK0.o k hk) HKR.o.size)));have HOR_ := kp (HOR.o.grow hdg);have HZ_ := kp hdg;clear hq1 hq2 hq3 hq4 hd_ hdg HPR HKR;repeat (first | (refine plc (fun K hK => ?_); go_simp; refine hK _ _ ?_; clear hK K) | (refine pl_loadF rfl rfl (by first | exact wanted_none rfl | (go_simp; done) | rfl) rfl (by first | rfl | (go_simp; rfl)) (by kernel_rfl) HGP.o (fun v_ h => h.1) (fun K hK => ?_); go_simp; refine hK _ _ ?_; clear hK K) | (refine pl_loadF rfl rfl (by first | exact wanted_none rfl | (go_simp; done) | rfl) rfl (by first | rfl | (go_simp; rfl)) (by kernel_rfl) HPC.o (fun v_ h => h.2) (fun K hK => ?_); go_simp; refine hK _ _ ?_; clear hK K))
   refine pac (fun K hK => ?_);go_wp2_with fail;generalize hw_ : World.alloc w_ _ = v_;obtain ⟨hX_, y_, hs_⟩ := alloc_eq hw_;refine hK _ _ (fun _ => ⟨y_.block gp HLT.o.1, y_.block g HLT.o.2⟩) ?_;clear hK K;have HPB2 := kp (HPB.o.grow y_);have HPO2 := kp (HPO.o.grow y_);have HSL := kp (Blk.sl (sz := 1) (n := 1) hX_ rfl);have HSZ2 := kp hs_;have HGR2 := kp y_;clear hX_ y_ hs_ hw_;refine pac (fun K hK => ?_);refine wpl_apps rfl rfl el_u8 HPO2.o rfl HSL.o rfl (fun u hu => by simp only [List.mem_cons, List.not_mem_nil, or_false] at hu; rw [hu]; rfl) (by omega) (by omega) (Nat.zero_le _) ?_;intro A3 c3 w3_ ho_ hg_ hA_;go_wp2_with fail;have HGK := kq (Kp2 gp g w_ w3_) ⟨(hg_.block gp (Nat.lt_of_lt_of_le HLT.o.1 HGR2.o.size) (fun e => (HNE.o.1 e.symm).elim)).trans (HGR2.o.block gp HLT.o.1), (hg_.block g (Nat.lt_of_lt_of_le HLT.o.2 HGR2.o.size) (fun e => (HNE.o.2 e.symm).elim)).trans (HGR2.o.block g HLT.o.2)⟩;refine hK _ _ (fun _ => ⟨hg_.block gp (Nat.lt_of_lt_of_le HLT.o.1 HGR2.o.size) (fun e => (HNE.o.1 e.symm).elim), hg_.block g (Nat.lt_of_lt_of_le HLT.o.2 HGR2.o.size) (fun e => (HNE.o.2 e.symm).elim)⟩) ?_;clear hK K;have HPB3 := kp (HPB2.o.grown hg_ (fun e => (HNE.o.2 e.symm).elim));have HAP := kp (pen_app2 (A' := A3) (c' := c3) HPB2.o HPO2.o (fun k hk => HKK.o v_ HGR2.o k hk) HNE.o.2 (bnat_s n (by omega)) ho_ hg_ (fun b hb => hA_.elim (fun h => .inl (h.symm.trans hb)) (fun h => .inr (Nat.le_of_eq (Option.some.inj (h.symm.trans hb))))));have HKO := kp (keeps_own HPO2.o hg_);clear ho_ hg_ hA_;repeat (first | (refine plc (fun K hK => ?_); go_simp; refine hK _ _ ?_; clear hK K) )
   refine pac (fun K hK => ?_);have hcl := HPB3.o.at_ (i := 0) rfl;have hfz := HPB3.o.frozen 0;go_wp2_with fail;refine hK _ _ (fun h => by cases h) ?_;clear hK K hcl hfz;refine pl_done ?_;have HK5 := kp (HKR_.o.trans ((Kept.of_grow HGR2.o (fun k hk => (HKK.o w_ (Grow.refl _) k hk).1)).trans HAP.o.2 |>.mono (fun k hk => .inl (.inl hk))));have HP5 := kp HAP.o.1;have HE5 := kq (∀ k, ((K k ∨ k = gp) ∨ (w1.heap.size ≤ k ∧ k < wr.heap.size)) → (w3_.setCell ⟨g, 0, none⟩ (.slice A3 (xs.length + 1) c3)).heap[k]? = w_.heap[k]?) (fun k hk => (HAP.o.2.block k hk).trans (HGR2.o.block k (HKK.o w_ (Grow.refl _) k hk).1));clear HPB HPO HGP HPC HPB2 HPO2 HSL HSZ2 HPB3 HAP HGK HKR_;generalize w3_.setCell ⟨g, 0, none⟩ (.slice A3 (xs.length + 1) c3) = w5 at *
   obtain ⟨bl, hbl1, hbl2, hbl3⟩ : ∃ bl, (1 ≤ n → A = some ⟨bl, 0, none⟩) ∧ ((K bl ∨ bl = gp) ∨ (w1.heap.size ≤ bl ∧ bl < wr.heap.size)) ∧ ∀ j y, ys[j]? = some y → w_.cell? ⟨bl, j, none⟩ = some (B y) := by
    by_cases h1 : 1 ≤ n
    ·obtain ⟨b, rfl, hb1, _, _⟩ := own_form HOR.o (by omega);obtain ⟨_, hbe, _, hb2, _⟩ := own_form HOR.o (by omega);cases hbe
     refine ⟨b, fun _ => rfl, .inr ⟨hb1, hb2⟩, fun j y hj => ?_⟩;have h := World.ownsRow.cellAt HOR_.o j (by have := (List.getElem?_eq_some_iff.1 hj).1; have := HYL.o; omega);rw [h, List.getElem?_map, hj]; rfl
    ·refine ⟨gp, fun h => absurd h h1, .inl (.inr rfl), fun j y hj => ?_⟩;have := (List.getElem?_eq_some_iff.1 hj).1; have := HYL.o; omega
   have HBL1 := kp hbl1; have HBL2 := kp hbl2;have HRD := kq (∀ j y, ys[j]? = some y → w5.cell? ⟨bl, j, none⟩ = some (B y)) (fun j y hj => (World.cell?_of_block (HE5.o bl hbl2)).trans (hbl3 j y hj));have HX5 := kq (Blk w5 gp 113 [.pointer (some ⟨g, 0, none⟩)]) ((HE5.o gp (.inl (.inr rfl))).trans (HXR.o.grow HZ_.o));clear hbl1 hbl2 hbl3 HE5 HOR HOR_ HXR HZ_ HGR2 HNE HLT;go_wp2_with fail;refine (back_any _ _ _ _).mono ?_;rintro e w6 ⟨rfl, hc1, hs6, hb6⟩;obtain ⟨Bs, hBs⟩ := xe w5.heap.size;rw [← hBs] at hc1 hs6 ⊢;have HC1 := kp hc1;have HP6 := kp (HP5.o.more (K' := fun k => ((K k ∨ k = gp) ∨ (w1.heap.size ≤ k ∧ k < wr.heap.size)) ∨ k = Bs) hb6 (fun j hj => hj.imp_right (fun e => by omega)));have HX6 := kp (HX5.o.grow hb6);have HK6 := kp (HK5.o.trans (Kept.of_grow hb6 (fun k hk => Nat.lt_of_lt_of_le (HK0.o k hk) HK5.o.size)));have hblt : bl < w5.heap.size := by obtain ⟨_, _, _, _, h3, _⟩ := HP5.o; exact (h3 bl HBL2.o).1
   have HRD6 := kq (∀ j y, ys[j]? = some y → w6.cell? ⟨bl, j, none⟩ = some (B y)) (fun j y hj => (hb6.cell (p := ⟨bl, j, none⟩) (by show bl < _; exact hblt)).trans (HRD.o j y hj));have HS6 := kq (Bs < w6.heap.size ∧ bl < w6.heap.size) (by omega);have HKL6 := kq (∀ k, (((K k ∨ k = gp) ∨ (w1.heap.size ≤ k ∧ k < wr.heap.size)) ∨ k = Bs) → k < w6.heap.size) (fun k hk => by obtain ⟨_, _, _, _, h3, _⟩ := HP6.o; exact (h3 k hk).1);clear hc1 hs6 hb6 hBs hblt HP5 HX5 HK5 HRD
   dsimp only
   repeat' (first | go_values | go_skip | go_guarded | go_step | go_upon | go_back)
   obtain ⟨w0, rfl⟩ : ∃ w0 : World, w0 = w6 := ⟨_, rfl⟩
   refine wpIn_wide.1 (wpIn_rangeFunc_ownF (F := Fence.wide) (n := 10) rfl (by omega) (gf := 102) (lb := #[.pointer (some ⟨Bs, 0, none⟩)]) rfl trivial (enters_of Try.func102 (by kernel_rfl) rfl)
    (back1_stops 9 (by omega) Bs bl n c A ys w0 HBL1.o HYL.o hyc.o (by omega) HS6.o.1 HS6.o.2 HC1.o HRD6.o)
    (fun h1 h2 => ⟨h2.1.trans h1.1, h2.2.trans h1.2⟩) (fun V l o o' hl _ _ _ => ⟨World.putObj_heap_other (by have := HS6.o; omega), World.putObj_heap_other (by have := HS6.o; omega)⟩) (Below.refl _ _) (fun _ => rfl)
    (fun pre V => Hid (PenAt V (fun k => ((K k ∨ k = gp) ∨ (w1.heap.size ≤ k ∧ k < wr.heap.size)) ∨ k = Bs) g (xs ++ [UInt8.ofNat n] ++ pre.map (fun x => nthB ys x.val))) ∧ Hid (Kept (fun k => ((K k ∨ k = gp) ∨ (w1.heap.size ≤ k ∧ k < wr.heap.size)) ∨ k = Bs) w0 V))
    (fun _ _ _ => False)
    (fun s V V' row hs hg hr => ⟨hs.1.o.kept hg hr, hs.2.o.trans (Kept.of_grown hg (fun k hk => ⟨Nat.lt_of_lt_of_le (HKL6.o k hk) hs.2.o.size, fun e => by have := (hr k e).1; have := HKL6.o k hk; omega⟩))⟩)
    (fun _ _ _ _ _ hs _ _ => hs)
    ⟨(show PenAt w0 _ g (xs ++ [UInt8.ofNat n] ++ []) by rw [List.append_nil]; exact HP6.o), Kept.refl _ _⟩
    ?A ?assign ?body ?done ?stop)
   case assign =>
    intro l x V K hK
    gi_wp2
    exact hK
   case stop =>
    rintro D c pre V _ _ h _;exact h.elim
   case body =>
    rintro l pre x V ⟨hp, hk⟩ hlen;have HQ := kq ((xs ++ [UInt8.ofNat n] ++ pre.map (fun x => nthB ys x.val)).length ≤ 1000020) (by rw [List.length_append, List.length_append, List.length_map]; simp only [List.length_cons, List.length_nil]; omega);obtain ⟨xs2, hxs2⟩ := xe (xs ++ [UInt8.ofNat n] ++ pre.map (fun x => nthB ys x.val));rw [← hxs2] at hp HQ;have hp0 := hp;have HX2 := kp hxs2;have HQ2 := HQ.o;have HX0 := kq (Blk V gp 113 [.pointer (some ⟨g, 0, none⟩)]) ((hk.o.block gp (.inl (.inl (.inr rfl)))).trans HX6.o);clear hxs2;repeat' (first | (with_reducible refine wpIn_plan (id := 8) (Kp2 gp g) [1, 1, 0, 0, 1, 0, 4, 4, 0, 0, 3] (.get 0 (.get 1 (.get 2 (.get 3 (.get 4 (.get 5 (.act 6 (.act 7 (.get 8 (.get 9 (.act 10 .done))))))))))) (by kernel_rfl) (by kernel_rfl) (by kernel_rfl) (kp2_refl gp g) kp2_trans ?_) | go_values | gi_guarded | gi_step | gi_upon)
    intro w_ hd_;have hdg := hd_.grow;obtain ⟨Ap2, cp2, hq1, hq2, hq3, hq4⟩ := hp.o.grow hdg;have HPB := kp hq1;have HPO := kp hq2;have HGP := kq (w_.cell? ⟨gp, 0, none⟩ = some (.pointer (some ⟨g, 0, none⟩))) ((HX0.o.grow hdg).at_ rfl);have HPC := kq (w_.cell? ⟨g, 0, none⟩ = some (.slice Ap2 xs2.length cp2)) (hq1.at_ rfl);have HLT := kq (gp < w_.heap.size ∧ g < w_.heap.size) ⟨(HX0.o.grow hdg).lt, hq1.lt⟩;have HNE := kq (Ap2.map Addr.block ≠ some gp ∧ Ap2.map Addr.block ≠ some g) ⟨(hq3 gp (.inl (.inl (.inr rfl)))).2.2, hq4⟩;have HKK := kq (∀ w2, Grow w_ w2 → ∀ k, (((K k ∨ k = gp) ∨ (w1.heap.size ≤ k ∧ k < wr.heap.size)) ∨ k = Bs) → k < w2.heap.size ∧ k ≠ g ∧ Ap2.map Addr.block ≠ some k) (fun w2 hg k hk => ⟨Nat.lt_of_lt_of_le (hq3 k hk).1 hg.size, (hq3 k hk).2⟩);have HZV := kp hdg;clear hq1 hq2 hq3 hq4 hd_ hdg hp;repeat (first | (refine plc (fun K hK => ?_); go_simp; refine hK _ _ ?_; clear hK K) | (refine pl_loadF rfl rfl (by first | exact wanted_none rfl | (go_simp; done) | rfl) rfl (by first | rfl | (go_simp; rfl)) (by kernel_rfl) HGP.o (fun v_ h => h.1) (fun K hK => ?_); go_simp; refine hK _ _ ?_; clear hK K) | (refine pl_loadF rfl rfl (by first | exact wanted_none rfl | (go_simp; done) | rfl) rfl (by first | rfl | (go_simp; rfl)) (by kernel_rfl) HPC.o (fun v_ h => h.2) (fun K hK => ?_); go_simp; refine hK _ _ ?_; clear hK K))
    refine pac (fun K hK => ?_);go_wp2_with fail;generalize hw_ : World.alloc w_ _ = v_;obtain ⟨hX_, y_, hs_⟩ := alloc_eq hw_;refine hK _ _ (fun _ => ⟨y_.block gp HLT.o.1, y_.block g HLT.o.2⟩) ?_;clear hK K;have HPB2 := kp (HPB.o.grow y_);have HPO2 := kp (HPO.o.grow y_);have HSL := kp (Blk.sl (sz := 1) (n := 1) hX_ rfl);have HSZ2 := kp hs_;have HGR2 := kp y_;clear hX_ y_ hs_ hw_;refine pac (fun K hK => ?_);refine wpl_apps rfl rfl el_u8 HPO2.o rfl HSL.o rfl (fun u hu => by simp only [List.mem_cons, List.not_mem_nil, or_false] at hu; rw [hu]; rfl) (by omega) (by omega) (Nat.zero_le _) ?_;intro A3 c3 w3_ ho_ hg_ hA_;go_wp2_with fail;have HGK := kq (Kp2 gp g w_ w3_) ⟨(hg_.block gp (Nat.lt_of_lt_of_le HLT.o.1 HGR2.o.size) (fun e => (HNE.o.1 e.symm).elim)).trans (HGR2.o.block gp HLT.o.1), (hg_.block g (Nat.lt_of_lt_of_le HLT.o.2 HGR2.o.size) (fun e => (HNE.o.2 e.symm).elim)).trans (HGR2.o.block g HLT.o.2)⟩;refine hK _ _ (fun _ => ⟨hg_.block gp (Nat.lt_of_lt_of_le HLT.o.1 HGR2.o.size) (fun e => (HNE.o.1 e.symm).elim), hg_.block g (Nat.lt_of_lt_of_le HLT.o.2 HGR2.o.size) (fun e => (HNE.o.2 e.symm).elim)⟩) ?_;clear hK K;have HPB3 := kp (HPB2.o.grown hg_ (fun e => (HNE.o.2 e.symm).elim));have HAP := kp (pen_app2 (A' := A3) (c' := c3) HPB2.o HPO2.o (fun k hk => HKK.o v_ HGR2.o k hk) HNE.o.2 (rfl) ho_ hg_ (fun b hb => hA_.elim (fun h => .inl (h.symm.trans hb)) (fun h => .inr (Nat.le_of_eq (Option.some.inj (h.symm.trans hb))))));have HKO := kp (keeps_own HPO2.o hg_);clear ho_ hg_ hA_;repeat (first | (refine plc (fun K hK => ?_); go_simp; refine hK _ _ ?_; clear hK K) )
    refine pac (fun K hK => ?_);have hcl := HPB3.o.at_ (i := 0) rfl;have hfz := HPB3.o.frozen 0;go_wp2_with fail;refine hK _ _ (fun h => by cases h) ?_;clear hK K hcl hfz;refine pl_done ?_;show KeepsOthers V _ ∧ Kp2 Bs bl V _ ∧ Hid _ ∧ Hid _
    have hk2 := (Kept.of_grow HZV.o (fun k hk => by obtain ⟨_, _, _, _, h3, _⟩ := hp0.o; exact (h3 k hk).1)).trans ((Kept.of_grow HGR2.o (fun k hk => (HKK.o w_ (Grow.refl _) k hk).1)).trans HAP.o.2);refine ⟨((keeps_of_below HZV.o).trans (keeps_of_below HGR2.o)).trans (HKO.o.trans (KeepsOthers.setCell _ _ _)), ⟨hk2.block Bs (.inr rfl), hk2.block bl (.inl HBL2.o)⟩, ?_, hk.o.trans hk2⟩;show PenAt _ _ g (xs ++ [UInt8.ofNat n] ++ (pre ++ [x]).map (fun x => nthB ys x.val))
    rw [List.map_append, ← List.append_assoc, ← HX2.o]; exact HAP.o.1
   case done =>
    rintro D zs V hD hS ⟨hp, hk⟩ hK;go_wp2_with fail;refine ⟨by simp, .inl ⟨_, _, rfl, run_takeDeferred hK, ?_⟩⟩;have hgo := grownBy_putObj' V D (.deferred none);have hnc : ∀ r, some D = some r → w0.heap.size ≤ r ∧ ∃ o : Obj, V.heap[r]? = some o ∧ o.isCells = false := fun r e => by cases e; exact ⟨hD, _, hK, rfl⟩
    have hpen := (hp.o.kept hgo hnc).less (K' := K) (fun k hk => .inl (.inl (.inl hk)))
    have hbytes : xs ++ [UInt8.ofNat n] ++ zs.map (fun x => nthB ys x.val) = xs ++ numB N := by
     rw [List.append_assoc]; congr 1;rw [numB_eq, HYS.o, ← HNL.o, ← num_rev ys, HYL.o, ← hS, List.map_map]; rfl
    rw [hbytes] at hpen
    have hkk := (HK6.o.trans (hk.o.mono (fun k hk => .inl (.inl (.inl hk))))).trans (Kept.of_grown hgo (fun k hkk => by
     have h1 := HKL6.o k (.inl (.inl (.inl hkk)))
     exact ⟨Nat.lt_of_lt_of_le h1 hk.o.size, fun e => by cases e; omega⟩))
    exact ⟨_, results_none rfl _ _ _, rfl, hpen, hkk⟩
end Go.Proofs.Ytobmldegjajocaa
namespace Go.Proofs.Ytobmldegjajocaa
open Go.RowKit Go.Shelf
theorem own_cap1 {w : World} {base n c : Nat} {A : Option Addr} {xs : List Value} (h : w.ownsRow base 5 1 (.slice A n c) n xs) : n ≤ c := by
 rcases Nat.eq_zero_or_pos n with h0 | h0
 ·omega
 ·obtain ⟨_, _, _, _, hc⟩ := own_form h h0; exact hc
theorem run_nil_u8 (w : World) (a : Option Addr) (n c n' c' : Nat) : (binOp .eql 36 (.slice a n c) (.slice none n' c')).run Try.prog w = .ok (.bool a.isNone) w := Lib.run_eql_slice_nil w _ _ a n c n' c' Try.underlying36
theorem bclone_any (A : Option Addr) (n c : Nat) (bs : List UInt8) (w : World) (hs : Sl w w.heap.size 1 A n (bs.map B)) (hn : n ≤ 1000000) :
  Calls Try.prog 62 #[.slice A n c] w fun e w' => ∃ A' c', e = .returned (.slice A' n c') ∧ OwnAt w' w.heap.size A' n c' (bs.map B) ∧ n ≤ c' ∧ Grow w w' := by
 have HS := kp hs;have qT := run_nil_u8;cases A with
 | none =>
  obtain rfl : n = 0 := by
   rcases Nat.eq_zero_or_pos n with h0 | h0
   ·exact h0
   ·obtain ⟨b, off, u, h1, _⟩ := hs.at_ h0; cases h1
  have hb0 : bs = [] := by have := hs.len; simpa using this
  subst hb0;clear hs
  go_enter Try.func62, Try.ntmps62
  go_wp2
  go_ret
  exact ⟨none, 0, rfl, World.ownsRow_nil _ _ _ _, Nat.le_refl _, Grow.refl _⟩
 | some ad =>
  have HN0 := kp (World.ownsRow_lit (base := w.heap.size) (e := 5) (size := 1) w #[] 0 (Nat.le_refl _) (by simp [maxLen]) rfl);have HSA := kp (hs.alloc (Nat.le_refl _) (.cells #[] 5));have HONE := kp (all_bytes bs);clear hs
  go_enter Try.func62, Try.ntmps62
  go_wp2_with (at_builtin; refine wpl_apps rfl rfl el_u8 HN0.o rfl HSA.o rfl HONE.o (by omega) (by omega) (by simp) ?_);intro A4 c4 w4 ho hg hA;have HO := kq (OwnAt w4 w.heap.size A4 n c4 (bs.map B)) (by unfold OwnAt; simpa using ho);have HB := kq (Grow w w4) (((Below.refl w.heap.size w).alloc (Nat.le_refl _) (.cells #[] 5)).grown hg (by simp) (by intro k hk; cases hk; exact Nat.le_refl _));clear ho hg hA;try simp only [Nat.zero_add]
  go_wp2_with fail;go_ret
  exact ⟨A4, c4, rfl, HO.o, own_cap1 HO.o, HB.o⟩
theorem pbytes_any (g : Nat) (K : Nat → Prop) (xs : List UInt8) (w : World) (h : PenAt w K g xs) (hl : xs.length ≤ 1000000) :
  Calls Try.prog 29 #[.pointer (some ⟨g, 0, none⟩)] w fun e w' => ∃ A' c', e = .returned (.slice A' xs.length c') ∧ OwnAt w' w.heap.size A' xs.length c' (xs.map B) ∧ xs.length ≤ c' ∧ Grow w w' := by
 obtain ⟨A, c, h1, h2, h3, h4⟩ := h;have hc := h1.at_ (i := 0) rfl;have HO := kp (Sl.of_own h2);clear h1 h2 h3 h4
 go_enter Try.func29, Try.ntmps29
 go_wp2_with fail;refine (bclone_any A xs.length c xs _ HO.o hl).mono ?_;rintro e w' ⟨A', c', rfl, h1, h2, h3⟩;go_wp2_with fail;go_ret
 exact ⟨A', c', rfl, h1, h2, h3⟩
theorem pid_any (g : Nat) (K : Nat → Prop) (xs : List UInt8) {ds : List Value} {d : List UInt8} (hd : Dig ds d) (w : World) (h : PenAt w K g xs) (hl : xs.length ≤ 1000000) :
  Calls Try.prog 23 #[.pointer (some ⟨g, 0, none⟩), .agg ds.toArray] w fun e w' => e = .returned (.tuple #[]) ∧ PenAt w' K g (xs ++ d) ∧ Kept K w w' := by
 have HP := kp h; clear h;have HD := kp hd;have HK0 := kq (∀ k, K k → k < w.heap.size) (fun k hk => by obtain ⟨A, c, _, _, h3, _⟩ := HP.o; exact (h3 k hk).1);have HB := kp (Below.refl w.heap.size w);clear hd;obtain ⟨gd, hgd⟩ := xe w.heap.size;have HG := kp hgd
 go_enter Try.func23, Try.ntmps23
 go_wp2_with (with_reducible refine wbx 3 ?_);intro w1 hb1 hbw1 hsz1;rw [← hgd] at hb1 hsz1 hbw1 ⊢;have HX := kp (at_mk hb1 HD.o.len);have HP1 := kp (HP.o.more (K' := fun k => K k ∨ k = gd) (show Grow w w1 by rw [hgd] at hbw1; exact hbw1) (fun j hj => hj.imp_right (fun e => by omega)));have HK1 := kp (Kept.of_grow (show Grow w w1 by rw [hgd] at hbw1; exact hbw1) HK0.o);clear hb1 hbw1 hsz1 hgd HP HB;repeat' (first | (with_reducible refine wp_plan (id := 1) Grow [0, 0, 0, 0, 2, 0, 3, 0, 0, 3] (.get 0 (.get 1 (.get 2 (.get 3 (.get 4 (.get 5 (.act 6 (.get 7 (.get 8 (.act 9 .done)))))))))) (by kernel_rfl) (by kernel_rfl) Grow.refl Grow.trans ?_) | go_values | go_skip | go_guarded | go_step | go_upon | go_back)
 intro w_ hd_;have hdg := hd_.grow;obtain ⟨Ap, cp, hq1, hq2, hq3, hq4⟩ := HP1.o.grow hdg;have HPB := kp hq1;have HPO := kp hq2;have HPK := kp hq3;have HPN := kp hq4;have HPC := kq (w_.cell? ⟨g, 0, none⟩ = some (.slice Ap xs.length cp)) (hq1.at_ rfl);have HSL := kp ((HX.o.grow hdg).sl);have HK2 := kp (HK1.o.trans (Kept.of_grow hdg (fun k hk => Nat.lt_of_lt_of_le (HK0.o k hk) HK1.o.size)));have HONE := kp HD.o.one;clear hq1 hq2 hq3 hq4 hd_ hdg;repeat (first | (refine plc (fun K hK => ?_); go_simp; refine hK _ _ ?_; clear hK K) | (refine pls (fun K hK => ?_); go_simp; refine hK _ _ ?_; clear hK K) | (refine psa (fun K hK => ?_); go_simp; refine hK _ _ ?_; clear hK K) | (refine pl_load rfl rfl (by first | exact wanted_none rfl | (go_simp; done) | rfl) rfl (by first | rfl | (go_simp; rfl)) (by kernel_rfl) (by first | exact HPC.o) (fun K hK => ?_); go_simp; refine hK _ _ ?_; clear hK K) | (refine pl_loadnow rfl rfl (by first | exact wanted_none rfl | (go_simp; done) | rfl) rfl (by first | rfl | (go_simp; rfl)) (by kernel_rfl) (by first | exact HPC.o) (fun K hK => ?_); go_simp; refine hK _ _ ?_; clear hK K))
 refine pac (fun K hK => ?_);refine wpl_apps rfl rfl el_u8 HPO.o rfl HSL.o rfl HONE.o (by omega) (by omega) (Nat.zero_le _) ?_;intro A3 c3 w3_ ho_ hg_ hA_;have hll : (xs ++ d).length = xs.length + 32 := by rw [List.length_append, HD.o.2]
 have HPB3 := kp (HPB.o.grown hg_ (fun e => (HPN.o e.symm).elim));have HAP := kp (pen_app (ys := xs ++ d) (A' := A3) (c' := c3) HPB.o HPO.o HPK.o HPN.o (by rw [hll, List.map_append]; have h := HD.o.1; rw [h] at ho_; exact ho_) hg_ (fun b hb => hA_.elim (fun h => .inl (h.symm.trans hb)) (fun h => .inr (Nat.le_of_eq (Option.some.inj (h.symm.trans hb))))));rw [hll] at HAP;clear ho_ hg_ hA_;go_wp2_with fail;refine hK _ _ (fun h => by cases h) ?_;clear hK K;repeat ((first | refine plc (fun K hK => ?_) | refine pls (fun K hK => ?_) | refine psa (fun K hK => ?_)); go_simp; refine hK _ _ ?_; clear hK K)
 refine pac (fun K hK => ?_);have hcl := HPB3.o.at_ (i := 0) rfl;have hfz := HPB3.o.frozen 0;go_wp2_with fail;refine hK _ _ (fun h => by cases h) ?_;clear hK K hcl hfz;refine pl_done ?_;refine bodyPost_end (results_none rfl _ _ _) rfl ?_;exact ⟨rfl, HAP.o.1.less (fun k hk => .inl hk), HK2.o.trans (HAP.o.2.mono (fun k hk => .inl hk))⟩
open Go.WideMaps (KeyLaw)
structure MapOK (P : Program) (k : TypeId) (es : Array MapEntry) (clock : Nat) : Prop where
 keyed : ∀ e ∈ es.toList, ∃ l, keyOf P k e.key = some l
 young : ∀ e ∈ es.toList, e.born < clock
 born : (es.toList.map (·.born)).Nodup
 keys : (es.toList.map (·.key)).Nodup
def kvs (es : Array MapEntry) : List (Value × Value) := es.toList.map fun e => (e.key, e.val)
theorem kvs_length (es : Array MapEntry) : (kvs es).length = es.size := by simp [kvs]
def withBlk (w : World) (b : Nat) (o : Obj) : World := { w with heap := w.heap.setIfInBounds b o }
theorem withBlk_grown (w : World) (b : Nat) (o : Obj) : w.grownBy (withBlk w b o) (some b) :=
 ⟨rfl, rfl, rfl, by simp [withBlk], fun j _ hj => by
  unfold withBlk
  rw [Array.getElem?_setIfInBounds_ne (fun e => hj (by rw [e]))]⟩
theorem withBlk_heap {w : World} {b : Nat} {o o' : Obj} (h : w.heap[b]? = some o') : (withBlk w b o).heap[b]? = some o := by
 have hb := (Array.getElem?_eq_some_iff.1 h).1;simp [withBlk, hb]
section
variable {P : Program} {w : World} {t k e : TypeId} {es : Array MapEntry} {clock b : Nat} {x : Value} {lx : Lit}
theorem MapOK.find (K : KeyLaw P k) (h : MapOK P k es clock) (hx : keyOf P k x = some lx) (w : World) :
  ((Instr.findKey k x es.toList).run P w = .ok none w ∧ ∀ p ∈ kvs es, p.1 ≠ x) ∨ ∃ j en, (Instr.findKey k x es.toList).run P w = .ok (some (j, en.val)) w ∧ es[j]? = some en ∧ en.key = x := by
 rcases K.find w hx es.toList h.keyed with ⟨h1, h2⟩ | ⟨j, en, h1, h2, h3⟩
 ·left
  refine ⟨h1, fun p hp => ?_⟩;obtain ⟨en, hen, rfl⟩ := List.mem_map.1 hp;exact h2 en hen
 ·exact .inr ⟨j, en, h1, by simpa using h2, h3⟩
theorem MapOK.find_no (K : KeyLaw P k) (h : MapOK P k es clock) (hx : keyOf P k x = some lx) (hno : ∀ p ∈ kvs es, p.1 ≠ x) (w : World) : (Instr.findKey k x es.toList).run P w = .ok none w := by
 rcases h.find K hx w with ⟨h1, _⟩ | ⟨j, en, _, h2, h3⟩
 ·exact h1
 ·exfalso
  have : en ∈ es.toList := by simpa using Array.mem_of_getElem? h2
  exact hno (en.key, en.val) (List.mem_map_of_mem this) h3
theorem nodup_get {α : Type} {l : List α} (h : l.Nodup) {i j : Nat} {x : α} (hi : l[i]? = some x) (hj : l[j]? = some x) : i = j := by
 obtain ⟨h1, h2⟩ := List.getElem?_eq_some_iff.1 hi;obtain ⟨h3, h4⟩ := List.getElem?_eq_some_iff.1 hj;have hp := List.pairwise_iff_getElem.1 h;rcases Nat.lt_trichotomy i j with hij | hij | hij
 ·exact absurd (h2.trans h4.symm) (hp i j h1 h3 hij)
 ·exact hij
 ·exact absurd (h4.trans h2.symm) (hp j i h3 h1 hij)
theorem MapOK.find_yes (K : KeyLaw P k) (h : MapOK P k es clock) (hx : keyOf P k x = some lx) {j : Nat} {en : MapEntry} (hj : es[j]? = some en) (hk : en.key = x) (w : World) : (Instr.findKey k x es.toList).run P w = .ok (some (j, en.val)) w := by
 rcases h.find K hx w with ⟨_, h2⟩ | ⟨j', en', h1, h2, h3⟩
 ·exfalso
  have : en ∈ es.toList := by simpa using Array.mem_of_getElem? hj
  exact h2 (en.key, en.val) (List.mem_map_of_mem this) hk
 ·have e1 : (es.toList.map (·.key))[j]? = some x := by rw [List.getElem?_map]; simp [hj, hk]
  have e2 : (es.toList.map (·.key))[j']? = some x := by rw [List.getElem?_map]; simp [h2, h3]
  have := nodup_get h.keys e1 e2;subst this;rw [hj] at h2;cases h2
  exact h1
theorem run_mapEntry_no (K : KeyLaw P k) (ht : P.underlying t = some (.map k e)) (hb : w.heap[b]? = some (.map es clock)) (h : MapOK P k es clock) (hx : keyOf P k x = some lx) (hno : ∀ p ∈ kvs es, p.1 ≠ x)
  {z : Value} (hz : ∀ w, (zeroValue e).run P w = .ok z w) : (Instr.mapEntry t (.map (some b)) x).run P w = .ok (.tuple #[z, goInt clock]) (withBlk w b (.map (es.push { key := x, val := z, born := clock }) (clock + 1))) := by
 simp [Instr.mapEntry, run_underlying ht, MapKept.run_getObj_map hb, K.check w _ hx, h.find_no K hx hno w, hz, MapKept.run_setObj_map _ hb, withBlk, Result.andThen]
theorem run_entryStore (ht : P.underlying t = some (.map k e)) (hb : w.heap[b]? = some (.map es clock)) (h : MapOK P k es clock) {j : Nat} {en : MapEntry} (hj : es[j]? = some en) (v : Value) :
  (Instr.entryStore t (.map (some b)) (goInt en.born) v).run P w = .ok () (withBlk w b (.map (es.modify j fun e => { e with val := v }) clock)) := by
 have hf : es.findIdx? (fun e => (e.born : Int) == (en.born : Int)) = some j := by
  rw [Array.findIdx?_eq_some_iff_getElem];obtain ⟨h1, h2⟩ := Array.getElem?_eq_some_iff.1 hj;refine ⟨h1, by rw [h2]; simp, fun i hi hb => ?_⟩;have hb' : es[i].born = en.born := Int.ofNat_inj.1 (by simpa using hb);have e1 : (es.toList.map (·.born))[i]? = some en.born := by rw [List.getElem?_map]; simp [show i < es.size by omega, hb']
  have e2 : (es.toList.map (·.born))[j]? = some en.born := by rw [List.getElem?_map]; simp [hj]
  have := nodup_get h.born e1 e2;omega
 have ha : (asInt (goInt en.born)).run P w = .ok (en.born : Int) w := rfl;simp only [Instr.entryStore, Sem.run_bind, MapKept.run_getObj_map hb, Result.andThen_ok, Result.andThen, ha, hf, MapKept.run_setObj_map _ hb, withBlk]
theorem MapOK.empty (P : Program) (k : TypeId) (c : Nat) : MapOK P k #[] c := ⟨by simp, by simp, by simp, by simp⟩
theorem MapOK.push (h : MapOK P k es clock) (hx : keyOf P k x = some lx) (hno : ∀ p ∈ kvs es, p.1 ≠ x) (v : Value) : MapOK P k (es.push { key := x, val := v, born := clock }) (clock + 1) := by
 refine ⟨?_, ?_, ?_, ?_⟩
 ·intro e he;rw [Array.toList_push] at he;rcases List.mem_append.1 he with he | he
  ·exact h.keyed e he
  ·have : e = { key := x, val := v, born := clock } := by simpa using he
   subst this; exact ⟨lx, hx⟩
 ·intro e he;rw [Array.toList_push] at he;rcases List.mem_append.1 he with he | he
  ·have := h.young e he; omega
  ·have : e = { key := x, val := v, born := clock } := by simpa using he
   subst this; simp
 ·rw [Array.toList_push, List.map_append, List.nodup_append];refine ⟨h.born, by simp, ?_⟩;intro a ha c hc hac;obtain ⟨e, he, rfl⟩ := List.mem_map.1 ha;have := h.young e he;have hc2 : c = clock := by simpa using hc
  omega
 ·rw [Array.toList_push, List.map_append, List.nodup_append];refine ⟨h.keys, by simp, ?_⟩;intro a ha c hc hac;obtain ⟨e, he, rfl⟩ := List.mem_map.1 ha;have hc2 : c = x := by simpa using hc
  exact hno (e.key, e.val) (List.mem_map_of_mem he) (hac.trans hc2)
theorem kvs_push (es : Array MapEntry) (en : MapEntry) : kvs (es.push en) = kvs es ++ [(en.key, en.val)] := by simp [kvs]
theorem MapOK.modify (h : MapOK P k es clock) (j : Nat) (v : Value) : MapOK P k (es.modify j fun e => { e with val := v }) clock := by
 have hm : ∀ {α : Type} (g : MapEntry → α), (∀ e : MapEntry, g { e with val := v } = g e) → (es.modify j fun e => { e with val := v }).toList.map g = es.toList.map g := by
  intro α g hg
  apply List.ext_getElem?
  intro i;rw [List.getElem?_map, List.getElem?_map, Array.getElem?_toList, Array.getElem?_toList, Array.getElem?_modify];split
  ·cases es[i]? <;> simp [hg]
  ·rfl
 have hmem : ∀ e ∈ (es.modify j fun e => { e with val := v }).toList, ∃ e' ∈ es.toList, e'.key = e.key ∧ e'.born = e.born := by
  intro e he;have h1 : (e.key, e.born) ∈ (es.modify j fun e => { e with val := v }).toList.map (fun e => (e.key, e.born)) := List.mem_map_of_mem he;rw [hm (fun e => (e.key, e.born)) (fun _ => rfl)] at h1;obtain ⟨e', he', hh⟩ := List.mem_map.1 h1;simp only [Prod.mk.injEq] at hh;exact ⟨e', he', hh.1, hh.2⟩
 refine ⟨?_, ?_, ?_, ?_⟩
 ·intro e he;obtain ⟨e', he', h1, _⟩ := hmem e he;rw [← h1]; exact h.keyed e' he'
 ·intro e he;obtain ⟨e', he', _, h2⟩ := hmem e he;rw [← h2]; exact h.young e' he'
 ·rw [hm (·.born) (fun _ => rfl)]; exact h.born
 ·rw [hm (·.key) (fun _ => rfl)]; exact h.keys
theorem kvs_modify {j : Nat} {en : MapEntry} (hj : es[j]? = some en) (v : Value) : kvs (es.modify j fun e => { e with val := v }) = (kvs es).set j (en.key, v) := by
 apply List.ext_getElem?
 intro i;unfold kvs;have hjs := (Array.getElem?_eq_some_iff.1 hj).1;rw [List.getElem?_map, Array.getElem?_toList, Array.getElem?_modify, List.getElem?_set];split
 ·rename_i h; subst h;have h2 := (Array.getElem?_eq_some_iff.1 hj).2;simp [hjs, h2]
 ·rw [List.getElem?_map, Array.getElem?_toList]
end
end Go.Proofs.Ytobmldegjajocaa
namespace Go.Proofs.Ytobmldegjajocaa
open Go.RowKit
open Go.WideMaps (KeyLaw)
section
variable {P : Program}
theorem kl_int {t : TypeId} {k : IntKind} (ht : P.underlying t = some (.int k)) (d : Nat) (z : Int) (h : (Lit.int k z).wf = true) : ∃ l, P.keyLits (d + 1) t [.int k z] = some l := by
 unfold Program.keyLits;rw [ht];refine ⟨[.int k z], ?_⟩;show (if k = k ∧ (Lit.int k z).wf = true then some [Lit.int k z] else none) = _
 rw [if_pos ⟨rfl, h⟩]
theorem mapM_ex {α β : Type} (f : α → Option β) : ∀ (l : List α), (∀ x ∈ l, ∃ y, f x = some y) → ∃ r, l.mapM f = some r
 | [], _ => ⟨[], rfl⟩
 | x :: l, h => by
  obtain ⟨y, hy⟩ := h x (by simp);obtain ⟨r, hr⟩ := mapM_ex f l (fun z hz => h z (by simp [hz]));exact ⟨y :: r, by rw [List.mapM_cons, hy, hr]; rfl⟩
theorem kl_struct {t : TypeId} {fs : Array Field} (ht : P.underlying t = some (.struct fs)) (d : Nat) (cs : List Value) (hl : cs.length = P.cellsOf t) (hn : fs.all (·.name != "_") = true)
  (h : ∀ f ∈ fs.toList, ∃ l, P.keyLits d f.type ((cs.drop f.offset).take (P.cellsOf f.type)) = some l) : ∃ l, P.keyLits (d + 1) t cs = some l := by
 unfold Program.keyLits;rw [ht];obtain ⟨r, hr⟩ := mapM_ex _ fs.toList h;simp only;rw [if_pos ⟨hl, hn⟩, hr];exact ⟨_, rfl⟩
theorem kl_bytes {t e : TypeId} {n : Nat} (ht : P.underlying t = some (.array n e)) (he : P.underlying e = some (.int .u8)) (hce : P.cellsOf e = 1) (hct : P.cellsOf t = n) (d : Nat) (ds : List UInt8) (h : ds.length = n) : ∃ l, P.keyLits (d + 2) t (ds.map B) = some l := by
 unfold Program.keyLits;rw [ht];simp only [List.length_map, h, hct, if_true, hce, Nat.mul_one]
 obtain ⟨r, hr⟩ := mapM_ex (fun i => P.keyLits (d + 1) e (List.take 1 (List.drop i (ds.map B)))) (List.range n) (fun i hi => by
  have hi : i < n := by simpa using hi
  have e1 : List.take 1 (List.drop i (ds.map B)) = [B (ds[i]?.getD 0)] := by
   rw [List.take_one, List.head?_drop, List.getElem?_map, List.getElem?_eq_getElem (by omega)]; rfl
  rw [e1]
  exact kl_int he d (b8 (ds[i]?.getD 0)) (by have := b8_range (ds[i]?.getD 0); simp [Lit.wf, IntKind.min, IntKind.max, IntKind.signed, IntKind.bits]; omega))
 rw [hr];exact ⟨_, rfl⟩
theorem keyOf_wide {t : TypeId} (hw : (match P.underlying t with | some (.array _ _) | some (.struct _) => true | _ => false) = true) (hk : P.keyType t = true) (cs : List Value) (hf : (Value.agg cs.toArray).formed P t = true) :
  keyOf P t (.agg cs.toArray) = (P.keyLits (P.types.size + 1) t cs).map fun ls => .string (keyBytes ls) := by
 unfold keyOf
 revert hw
 cases hu : P.underlying t with
 | none => intro h; cases h
 | some d =>
  cases d
  case array => intro _; simp [hk, hf, Value.cells]
  case struct => intro _; simp [hk, hf, Value.cells]
  all_goals (intro h; cases h)
theorem formed_wide {t : TypeId} (hw : (match P.underlying t with | some (.array _ _) | some (.struct _) => true | _ => false) = true) (cs : List Value) (hl : cs.length = P.cellsOf t) : (Value.agg cs.toArray).formed P t = true := by
 unfold Value.formed
 revert hw
 cases hu : P.underlying t with
 | none => simp
 | some d => cases d <;> simp [hl]
theorem keyOf_ex {t : TypeId} (hw : (match P.underlying t with | some (.array _ _) | some (.struct _) => true | _ => false) = true) (hk : P.keyType t = true) (cs : List Value) (hl : cs.length = P.cellsOf t)
  (h : ∃ l, P.keyLits (P.types.size + 1) t cs = some l) : ∃ l, keyOf P t (.agg cs.toArray) = some l := by
 obtain ⟨l, hl2⟩ := h;rw [keyOf_wide hw hk cs (formed_wide hw cs hl), hl2];exact ⟨_, rfl⟩
theorem eql_deep {t : TypeId} (K : KeyLaw P t) {m : Nat} (hm : m ≤ 10000) (hd : P.keyTypeAt m t = true) (hw : (match P.underlying t with | some (.array _ _) | some (.struct _) => true | _ => false) = true) (hk : P.keyType t = true)
  (x y : List Value) (hx : x.length = P.cellsOf t) (hy : y.length = P.cellsOf t) (kx : ∃ l, P.keyLits (P.types.size + 1) t x = some l) (ky : ∃ l, P.keyLits (P.types.size + 1) t y = some l) :
  ∃ r : Bool, (r = true ↔ x = y) ∧ ∀ w, (Op.equalIn 10000 t (.agg x.toArray) (.agg y.toArray)).run P w = .ok r w := by
 obtain ⟨lx, hlx⟩ := keyOf_ex hw hk x hx kx;obtain ⟨ly, hly⟩ := keyOf_ex hw hk y hy ky;have hf := fun cs hl => formed_wide (P := P) (t := t) hw cs hl
 obtain ⟨l1, e1⟩ := kx;obtain ⟨l2, e2⟩ := ky
 have hall : ∀ w, ∃ r : Bool, (Op.equalIn 10000 t (.agg x.toArray) (.agg y.toArray)).run P w = .ok r w ∧ (r = true ↔ l1 = l2) := by
  intro w;have := run_equalIn_deep (P := P) (10000 - m) m t hd w _ _ (.agg x.toArray) (.agg y.toArray) l1 l2 (hf x hx) (hf y hy) (by simpa [Value.cells] using e1) (by simpa [Value.cells] using e2)
  rwa [show 10000 - m + m = 10000 by omega] at this
 have hxy : l1 = l2 ↔ x = y := by
  constructor
  ·intro h;subst h
   have k1 : keyOf P t (.agg x.toArray) = keyOf P t (.agg y.toArray) := by
    rw [keyOf_wide hw hk x (hf x hx), keyOf_wide hw hk y (hf y hy), e1, e2]
   have := K.inj hlx (k1 ▸ hlx);simpa using this
  ·intro h;subst h;rw [e1] at e2; cases e2; rfl
 by_cases h : x = y
 ·refine ⟨true, by simp [h], fun w => ?_⟩;obtain ⟨r, h1, h2⟩ := hall w;have : r = true := h2.2 (hxy.2 h);rw [h1, this]
 ·refine ⟨false, by simp [h], fun w => ?_⟩;obtain ⟨r, h1, h2⟩ := hall w
  have : r = false := by
   cases r with
   | false => rfl
   | true => exact absurd (hxy.1 (h2.1 rfl)) h
  rw [h1, this]
end
end Go.Proofs.Ytobmldegjajocaa

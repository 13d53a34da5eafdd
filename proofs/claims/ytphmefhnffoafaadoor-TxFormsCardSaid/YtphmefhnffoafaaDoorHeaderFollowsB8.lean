/- The contract of the pen's Num. Printed by mkpen.py. -/
import Derived.Test.YtphmefhnffoafaaDoorHeaderFollowsB7
import Derived.Lib.SliceRun
import Derived.Laws.IdiomCopy
/- The contract of the pen's Num. Printed by mkpen.py. -/
namespace Go.Proofs.YtphmefhnffoafaaDoor
open Go.RowKit Go.Shelf
set_option linter.unusedVariables false
attribute [local go_sem] Oper.semAt_some

section
variable {P : Program} {ops : Array Oper} {Fut : World → World → Prop} {cl : List Nat} {Q : Exit → Act → World → Prop} {o : Oper} {i : Nat} {t : Plan} {a : Act} {w : World}
theorem pl_loadF {T : TypeId} {x : Operand} {p : Addr} {v : Value} (hi : ops[i]? = some o) (hc : plCls cl i = 1) (hw : Region.wanted o (yielded ops a.tmps) = true) (ho : o.op = .load T x) (hx : a.eval x = .pointer (some p))
    (hT : (match P.underlying T with | some (.struct _) | some (.array _ _) => false | some _ => true | none => false) = true) (hv : w.cell? p = some v) (hF : ∀ w', Fut w w' → w'.heap[p.block]? = w.heap[p.block]?)
    (hk : ∀ K : Act → World → Prop, (∀ a w, wpS P ops Fut cl Q t a w → K a w) → K (a.put o.dst v) w) : wpS P ops Fut cl Q (.get i t) a w := by
  refine pl_read hi hc hw (fun w' hf => ?_) hk
  have hv' : w'.cell? p = some v := by rw [World.cell?_of_block (hF w' hf)]; exact hv
  unfold execOp
  simp only [ho, hx, Instr.loadAt, Instr.sureAddr, Sem.run_bind, Sem.run_pure, Result.andThen_ok]
  cases hd : P.underlying T with
  | none => rw [hd] at hT; cases hT
  | some d =>
    rw [hd] at hT
    have hagg : (isAgg T).run P w' = .ok false w' := by
      unfold isAgg
      rw [Sem.run_bind, run_underlying hd w']
      cases d <;> simp_all
    simp [loadVar, hagg, load, Sem.run, hv']
end
theorem kp2_refl (a b : Nat) (w : World) : Kp2 a b w w := ⟨rfl, rfl⟩
theorem kp2_trans {a b : Nat} (w1 w2 w3 : World) (h : Kp2 a b w1 w2) (k : Kp2 a b w2 w3) : Kp2 a b w1 w3 := ⟨k.1.trans h.1, k.2.trans h.2⟩
theorem pen_app2 {K : Nat → Prop} {w w1 : World} {g c c' : Nat} {A A' : Option Addr} {xs : List UInt8} {y : UInt8} {v : Value} (h1 : Blk w g 93 [.slice A xs.length c]) (h2 : w.ownsRow 0 5 1 (.slice A xs.length c) xs.length (xs.map B))
    (h3 : ∀ k, K k → k < w.heap.size ∧ k ≠ g ∧ A.map Addr.block ≠ some k) (h4 : A.map Addr.block ≠ some g) (hv : v = B y)
    (ho : w1.ownsRow 0 5 1 (.slice A' (xs.length + 1) c') (xs.length + 1) (xs.map B ++ [v])) (hg : w.grownBy w1 (A.map Addr.block)) (hA : ∀ b, A'.map Addr.block = some b → A.map Addr.block = some b ∨ w.heap.size ≤ b) :
    PenAt (w1.setCell ⟨g, 0, none⟩ (.slice A' (xs.length + 1) c')) K g (xs ++ [y]) ∧ Kept K w (w1.setCell ⟨g, 0, none⟩ (.slice A' (xs.length + 1) c')) := by
  have hl : (xs ++ [y]).length = xs.length + 1 := by simp
  have := pen_app (ys := xs ++ [y]) (A' := A') (c' := c') h1 h2 h3 h4 (by rw [hl, List.map_append]; rw [hv] at ho; exact ho) hg hA
  rw [hl] at this
  exact this
theorem num_rev (ys : List UInt8) : (List.range ys.length).map (nthB ys) = ys.reverse := by
  apply List.ext_getElem?
  intro i
  rw [List.getElem?_map]
  by_cases h : i < ys.length
  · rw [List.getElem?_range h, List.getElem?_reverse h, Option.map_some]
    unfold nthB
    rw [List.getD_eq_getElem?_getD, List.getElem?_eq_getElem (show ys.length - 1 - i < ys.length by omega)]; rfl
  · rw [List.getElem?_eq_none (by simp; omega), List.getElem?_eq_none (by simp; omega)]; rfl
theorem numB_eq (n : Nat) : numB n = [UInt8.ofNat (lenB n)] ++ (leB n).reverse := by unfold numB; rfl
theorem bnat (n : Nat) : Value.int .u8 ((n : Int) % 256) = B (UInt8.ofNat n) := by unfold B; rw [b8_ofNat]; congr 1

theorem PenAt.kept {K : Nat → Prop} {w w1 : World} {g Bd : Nat} {xs : List UInt8} {row : Option Nat} (h : PenAt w K g xs) (hg : w.grownBy w1 row) (hr : ∀ r, row = some r → Bd ≤ r ∧ ∃ o : Obj, w.heap[r]? = some o ∧ o.isCells = false) : PenAt w1 K g xs := by
  obtain ⟨A, c, h1, h2, h3, h4⟩ := h
  exact ⟨A, c, h1.grown hg (row_ne_blk h1 hr), own_kept h2 hg (fun k hk => by subst hk; exact row_ne_own h2 hr), fun j hj => ⟨Nat.lt_of_lt_of_le (h3 j hj).1 hg.size, (h3 j hj).2⟩, h4⟩
theorem keeps_own {w w1 : World} {base n c sz : Nat} {e : TypeId} {A : Option Addr} {xs : List Value} (h : w.ownsRow base e sz (.slice A n c) n xs) (hg : w.grownBy w1 (A.map Addr.block)) : KeepsOthers w w1 := by
  refine ⟨hg.size, fun k o hk hc => ?_⟩
  refine (hg.block k (Array.getElem?_eq_some_iff.1 hk).1 (fun e => ?_)).trans hk
  rcases h.2 with ⟨hv, _⟩ | ⟨g, cap, cur, hv, _, hh, _⟩
  · injection hv with hA; subst hA; cases e
  · injection hv with hA; subst hA
    obtain rfl : k = g := by simpa using e
    rw [hh] at hk; cases hk; cases hc
theorem bnat_s (n : Nat) (h : n ≤ 255) : Value.int .u8 (n : Int) = B (UInt8.ofNat n) := by rw [← bnat]; congr 1; omega
set_option maxRecDepth 100000 in
set_option maxHeartbeats 4000000 in
theorem num_any (g N : Nat) (K : Nat → Prop) (xs : List UInt8) (w : World) (h : PenAt w K g xs) (hl : xs.length ≤ 1000000) (hN : N ≤ 18446744073709551615) :
    Calls Tryd.prog 60 #[.pointer (some ⟨g, 0, none⟩), .int .u64 N] w fun e w' => e = .returned (.tuple #[]) ∧ PenAt w' K g (xs ++ numB N) ∧ Kept K w w' := by
  have HP := Lib.hid h; clear h
  have HK0 := Lib.hid (show ∀ k, K k → k < w.heap.size from fun k hk => by obtain ⟨A, c, _, _, h3, _⟩ := HP.out; exact (h3 k hk).1)
  refine callsIn_wide.1 (callsIn_of_wp_marks (n := 10) Tryd.func60 rfl trivial ?_ rfl)
  simp only [Tryd.ntmps60, List.size_toArray, List.length_cons, List.length_nil, Nat.reduceAdd, Nat.reduceSub, Array.replicate_succ, Array.replicate_zero, List.push_toArray, List.append_toArray, List.nil_append, List.cons_append]
  refine wpIn_wide.2 ?_
  go_wp2_with fail
  generalize hw1 : World.alloc w _ = w1
  obtain ⟨hX, hb, hs⟩ := alloc_eq hw1
  obtain ⟨gp, hgp⟩ : ∃ gp, gp = w.heap.size := ⟨_, rfl⟩
  rw [← hgp] at hX hs ⊢
  have HG := Lib.hid hgp
  have HX := Lib.hid hX
  have HP1 := Lib.hid (HP.out.more (K' := fun k => K k ∨ k = gp) hb (fun j hj => hj.imp_right (fun e => by omega)))
  have HKP1 := Lib.hid (Kept.of_grow hb HK0.out)
  have HS1 := Lib.hid hs
  have HGL := Lib.hid (show g < gp by rw [hgp]; exact HP.out.lt)
  clear hX hb hs hw1 hgp HP
  have HL8 := Lib.hid (lenB_64 hN)
  go_loopw [1, 4] (fun nv lv wr => ∃ M : Nat, ∃ ys A c, nv = .int .u64 M ∧ lv = .slice A ys.length c ∧ Hid (leB N = ys ++ leB M) ∧ M ≤ N ∧ Hid (wr.ownsRow w1.heap.size 5 1 (.slice A ys.length c) ys.length (ys.map B)) ∧ Hid (ys.length ≤ c) ∧ Hid (Grow w1 wr)) (fun nv _ _ => (intOf nv).toNat)
  case atStart => exact ⟨N, [], none, 0, rfl, rfl, rfl, Nat.le_refl _, World.ownsRow_nil _ _ _ _, Nat.zero_le _, Grow.refl _⟩
  case round =>
    obtain ⟨M, ys, A, c, rfl, rfl, hsp, hMN, hown, hyc, hgr⟩ := hrel
    have hyl : ys.length + lenB M = lenB N := by have := congrArg List.length hsp.out; rw [List.length_append, leB_len, leB_len] at this; omega
    have h8 := HL8.out
    by_cases hM : 0 < M
    · have d1 : decide ((0 : Int) < (M : Int)) = true := by simpa using hM
      go_wp2_with (at_builtin; refine wpl_app1 rfl rfl el_u8 hown.out rfl (m := 1) rfl rfl ?_ ?_ ?_ ?_ ?_)
      · simp [Value.oneCell']
      · omega
      · omega
      · exact hgr.out.size
      intro A5 c5 w5 ho hg hA
      have HB5 := Lib.hid (show Grow w1 w5 from below_grown hgr.out hg hgr.out.size (fun j hj => own_from hown.out j hj))
      have hll : (ys ++ [UInt8.ofNat M]).length = ys.length + 1 := by simp
      have HO5 := Lib.hid (show w5.ownsRow w1.heap.size 5 1 (.slice A5 (ys ++ [UInt8.ofNat M]).length c5) (ys ++ [UInt8.ofNat M]).length ((ys ++ [UInt8.ofNat M]).map B) by
        rw [hll, List.map_append]; simp only [List.map_cons, List.map_nil]; rw [← bnat]; exact ho)
      have HC5 := Lib.hid (show (ys ++ [UInt8.ofNat M]).length ≤ c5 by obtain ⟨_, _, _, _, hcc⟩ := own_form HO5.out (by rw [hll]; omega); exact hcc)
      have HSP5 := Lib.hid (show leB N = (ys ++ [UInt8.ofNat M]) ++ leB (M / 256) by rw [hsp.out, leB_pos (by omega), List.append_assoc]; rfl)
      clear ho hg hA
      rw [← hll]
      go_wp2_with fail
      go_roundw
      case rel => exact ⟨M / 256, ys ++ [UInt8.ofNat M], A5, c5, by first | rfl | (congr 1; omega), rfl, HSP5, by omega, HO5, HC5, HB5⟩
      case measure => simp [intOf]; omega
    · obtain rfl : M = 0 := by omega
      have HYS := Lib.hid (show leB N = ys by have := hsp.out; rw [leB_zero, List.append_nil] at this; exact this)
      have hyl2 : ys.length = lenB N := by rw [← leB_len, HYS.out]
      obtain ⟨n, hn⟩ : ∃ n, n = ys.length := ⟨_, rfl⟩
      have HNL := Lib.hid (show n = lenB N by rw [hn, hyl2])
      have HYL := Lib.hid (show ys.length = n from hn.symm)
      rw [← hn] at hown hyc ⊢
      have HPR := Lib.hid (HP1.out.more (K' := fun k => (K k ∨ k = gp) ∨ (w1.heap.size ≤ k ∧ k < wr.heap.size)) hgr.out (fun j hj => hj))
      have HXR := Lib.hid (HX.out.grow hgr.out)
      have HKR := Lib.hid (HKP1.out.trans (Kept.of_grow hgr.out (fun k hk => Nat.lt_of_lt_of_le (HK0.out k hk) HKP1.out.size)))
      have HOR := hown
      have HSR := Lib.hid (show w1.heap.size ≤ wr.heap.size from hgr.out.size)
      have hn8 : n ≤ 8 := by have := HNL.out; omega
      clear hyl2 hn hown hgr hsp hyl hMN HX HP1 HKP1
      -- p.b = append(p.b, byte(len(l)))
      go_wp2_with fail
      repeat' (first | (with_reducible refine wp_plan (id := 5) (Kp2 gp g) [1, 1, 0, 0, 1, 0, 0, 0, 4, 4, 0, 0, 3] (.get 0 (.get 1 (.get 2 (.get 3 (.get 4 (.get 5 (.get 6 (.get 7 (.act 8 (.act 9 (.get 10 (.get 11 (.act 12 .done))))))))))))) (by kernel_rfl) (by kernel_rfl) (kp2_refl gp g) kp2_trans ?_) | go_values | go_skip | go_guarded | go_step | go_upon | go_back)
      intro w_ hd_
      have hdg := hd_.grow
      obtain ⟨Ap, cp, hq1, hq2, hq3, hq4⟩ := HPR.out.grow hdg
      have HPB := Lib.hid hq1
      have HPO := Lib.hid hq2
      have HGP := Lib.hid (show w_.cell? ⟨gp, 0, none⟩ = some (.pointer (some ⟨g, 0, none⟩)) from (HXR.out.grow hdg).at_ rfl)
      have HPC := Lib.hid (show w_.cell? ⟨g, 0, none⟩ = some (.slice Ap xs.length cp) from hq1.at_ rfl)
      have HLT := Lib.hid (show gp < w_.heap.size ∧ g < w_.heap.size from ⟨(HXR.out.grow hdg).lt, hq1.lt⟩)
      have HNE := Lib.hid (show Ap.map Addr.block ≠ some gp ∧ Ap.map Addr.block ≠ some g from ⟨(hq3 gp (.inl (.inr rfl))).2.2, hq4⟩)
      have HKK := Lib.hid (show ∀ w2, Grow w_ w2 → ∀ k, ((K k ∨ k = gp) ∨ (w1.heap.size ≤ k ∧ k < wr.heap.size)) → k < w2.heap.size ∧ k ≠ g ∧ Ap.map Addr.block ≠ some k from fun w2 hg k hk => ⟨Nat.lt_of_lt_of_le (hq3 k hk).1 hg.size, (hq3 k hk).2⟩)
      have HKR_ := Lib.hid (HKR.out.trans (Kept.of_grow hdg (fun k hk => Nat.lt_of_lt_of_le (HK0.out k hk) HKR.out.size)))
      have HOR_ := Lib.hid (HOR.out.grow hdg)
      have HZ_ := Lib.hid hdg
      clear hq1 hq2 hq3 hq4 hd_ hdg HPR HKR
      repeat (first | (refine pl_calm rfl rfl (by first | exact wanted_none rfl | (go_simp; done) | rfl) (fun w_ => by first | (go_simp; rfl) | (go_simp; done) | rfl) (fun K hK => ?_); go_simp; refine hK _ _ ?_; clear hK K) | (refine pl_loadF rfl rfl (by first | exact wanted_none rfl | (go_simp; done) | rfl) rfl (by first | rfl | (go_simp; rfl)) (by kernel_rfl) HGP.out (fun w2_ h => h.1) (fun K hK => ?_); go_simp; refine hK _ _ ?_; clear hK K) | (refine pl_loadF rfl rfl (by first | exact wanted_none rfl | (go_simp; done) | rfl) rfl (by first | rfl | (go_simp; rfl)) (by kernel_rfl) HPC.out (fun w2_ h => h.2) (fun K hK => ?_); go_simp; refine hK _ _ ?_; clear hK K))
      refine pl_act rfl (by exact wanted_none rfl) (fun K hK => ?_)
      go_wp2_with fail
      generalize hw_ : World.alloc w_ _ = w2_
      obtain ⟨hX_, hb_, hs_⟩ := alloc_eq hw_
      refine hK _ _ (fun _ => ⟨hb_.block gp HLT.out.1, hb_.block g HLT.out.2⟩) ?_
      clear hK K
      have HPB2 := Lib.hid (HPB.out.grow hb_)
      have HPO2 := Lib.hid (HPO.out.grow hb_)
      have HSL := Lib.hid (Blk.sl (sz := 1) (n := 1) hX_ rfl)
      have HSZ2 := Lib.hid hs_
      have HGR2 := Lib.hid hb_
      clear hX_ hb_ hs_ hw_
      refine pl_act rfl (by exact wanted_none rfl) (fun K hK => ?_)
      refine wpl_apps rfl rfl el_u8 HPO2.out rfl HSL.out rfl (fun u hu => by simp only [List.mem_cons, List.not_mem_nil, or_false] at hu; rw [hu]; rfl) (by omega) (by omega) (Nat.zero_le _) ?_
      intro A3 c3 w3_ ho_ hg_ hA_
      go_wp2_with fail
      have HGK := Lib.hid (show Kp2 gp g w_ w3_ from ⟨(hg_.block gp (Nat.lt_of_lt_of_le HLT.out.1 HGR2.out.size) (fun e => (HNE.out.1 e.symm).elim)).trans (HGR2.out.block gp HLT.out.1), (hg_.block g (Nat.lt_of_lt_of_le HLT.out.2 HGR2.out.size) (fun e => (HNE.out.2 e.symm).elim)).trans (HGR2.out.block g HLT.out.2)⟩)
      refine hK _ _ (fun _ => ⟨hg_.block gp (Nat.lt_of_lt_of_le HLT.out.1 HGR2.out.size) (fun e => (HNE.out.1 e.symm).elim), hg_.block g (Nat.lt_of_lt_of_le HLT.out.2 HGR2.out.size) (fun e => (HNE.out.2 e.symm).elim)⟩) ?_
      clear hK K
      have HPB3 := Lib.hid (HPB2.out.grown hg_ (fun e => (HNE.out.2 e.symm).elim))
      have HAP := Lib.hid (pen_app2 (A' := A3) (c' := c3) HPB2.out HPO2.out (fun k hk => HKK.out w2_ HGR2.out k hk) HNE.out.2 (bnat_s n (by omega)) ho_ hg_ (fun b hb => hA_.elim (fun h => .inl (h.symm.trans hb)) (fun h => .inr (Nat.le_of_eq (Option.some.inj (h.symm.trans hb))))))
      have HKO := Lib.hid (keeps_own HPO2.out hg_)
      clear ho_ hg_ hA_
      repeat (first | (refine pl_calm rfl rfl (by first | exact wanted_none rfl | (go_simp; done) | rfl) (fun w_ => by first | (go_simp; rfl) | (go_simp; done) | rfl) (fun K hK => ?_); go_simp; refine hK _ _ ?_; clear hK K) )
      refine pl_act rfl (by exact wanted_none rfl) (fun K hK => ?_)
      have hcl := HPB3.out.at_ (i := 0) rfl
      have hfz := HPB3.out.frozen 0
      go_wp2_with fail
      refine hK _ _ (fun h => by cases h) ?_
      clear hK K hcl hfz
      refine pl_done ?_
      have HK5 := Lib.hid (HKR_.out.trans ((Kept.of_grow HGR2.out (fun k hk => (HKK.out w_ (Grow.refl _) k hk).1)).trans HAP.out.2 |>.mono (fun k hk => .inl (.inl hk))))
      have HP5 := Lib.hid HAP.out.1
      have HE5 := Lib.hid (show ∀ k, ((K k ∨ k = gp) ∨ (w1.heap.size ≤ k ∧ k < wr.heap.size)) → (w3_.setCell ⟨g, 0, none⟩ (.slice A3 (xs.length + 1) c3)).heap[k]? = w_.heap[k]? from fun k hk => (HAP.out.2.block k hk).trans (HGR2.out.block k (HKK.out w_ (Grow.refl _) k hk).1))
      clear HPB HPO HGP HPC HPB2 HPO2 HSL HSZ2 HPB3 HAP HGK HKR_
      generalize w3_.setCell ⟨g, 0, none⟩ (.slice A3 (xs.length + 1) c3) = w5 at *
      obtain ⟨bl, hbl1, hbl2, hbl3⟩ : ∃ bl, (1 ≤ n → A = some ⟨bl, 0, none⟩) ∧ ((K bl ∨ bl = gp) ∨ (w1.heap.size ≤ bl ∧ bl < wr.heap.size)) ∧ ∀ j y, ys[j]? = some y → w_.cell? ⟨bl, j, none⟩ = some (B y) := by
        by_cases h1 : 1 ≤ n
        · obtain ⟨b, rfl, hb1, _, _⟩ := own_form HOR.out (by omega)
          obtain ⟨_, hbe, _, hb2, _⟩ := own_form HOR.out (by omega)
          cases hbe
          refine ⟨b, fun _ => rfl, .inr ⟨hb1, hb2⟩, fun j y hj => ?_⟩
          have h := World.ownsRow.cellAt HOR_.out j (by have := (List.getElem?_eq_some_iff.1 hj).1; have := HYL.out; omega)
          rw [h, List.getElem?_map, hj]; rfl
        · refine ⟨gp, fun h => absurd h h1, .inl (.inr rfl), fun j y hj => ?_⟩
          have := (List.getElem?_eq_some_iff.1 hj).1; have := HYL.out; omega
      have HBL1 := Lib.hid hbl1; have HBL2 := Lib.hid hbl2
      have HRD := Lib.hid (show ∀ j y, ys[j]? = some y → w5.cell? ⟨bl, j, none⟩ = some (B y) from fun j y hj => (World.cell?_of_block (HE5.out bl hbl2)).trans (hbl3 j y hj))
      have HX5 := Lib.hid (show Blk w5 gp 153 [.pointer (some ⟨g, 0, none⟩)] from (HE5.out gp (.inl (.inr rfl))).trans (HXR.out.grow HZ_.out))
      clear hbl1 hbl2 hbl3 HE5 HOR HOR_ HXR HZ_ HGR2 HNE HLT
      go_wp2_with fail
      refine (back_any _ _ _ _).mono ?_
      rintro e w6 ⟨rfl, hc1, hs6, hb6⟩
      obtain ⟨Bs, hBs⟩ : ∃ Bs, Bs = w5.heap.size := ⟨_, rfl⟩
      rw [← hBs] at hc1 hs6 ⊢
      have HC1 := Lib.hid hc1
      have HP6 := Lib.hid (HP5.out.more (K' := fun k => ((K k ∨ k = gp) ∨ (w1.heap.size ≤ k ∧ k < wr.heap.size)) ∨ k = Bs) hb6 (fun j hj => hj.imp_right (fun e => by omega)))
      have HX6 := Lib.hid (HX5.out.grow hb6)
      have HK6 := Lib.hid (HK5.out.trans (Kept.of_grow hb6 (fun k hk => Nat.lt_of_lt_of_le (HK0.out k hk) HK5.out.size)))
      have hblt : bl < w5.heap.size := by obtain ⟨_, _, _, _, h3, _⟩ := HP5.out; exact (h3 bl HBL2.out).1
      have HRD6 := Lib.hid (show ∀ j y, ys[j]? = some y → w6.cell? ⟨bl, j, none⟩ = some (B y) from fun j y hj => (hb6.cell (p := ⟨bl, j, none⟩) (by show bl < _; exact hblt)).trans (HRD.out j y hj))
      have HS6 := Lib.hid (show Bs < w6.heap.size ∧ bl < w6.heap.size by omega)
      have HKL6 := Lib.hid (show ∀ k, (((K k ∨ k = gp) ∨ (w1.heap.size ≤ k ∧ k < wr.heap.size)) ∨ k = Bs) → k < w6.heap.size from fun k hk => by obtain ⟨_, _, _, _, h3, _⟩ := HP6.out; exact (h3 k hk).1)
      clear hc1 hs6 hb6 hBs hblt HP5 HX5 HK5 HRD
      dsimp only
      repeat' (first | go_values | go_skip | go_guarded | go_step | go_upon | go_back)
      obtain ⟨w0, rfl⟩ : ∃ w0 : World, w0 = w6 := ⟨_, rfl⟩
      refine wpIn_wide.1 (wpIn_rangeFunc_ownF (F := Fence.wide) (n := 10) rfl (by omega) (gf := 140) (lb := #[.pointer (some ⟨Bs, 0, none⟩)]) rfl trivial (enters_of Tryd.func140 (by kernel_rfl) rfl)
        (back1_stops 9 (by omega) Bs bl n c A ys w0 HBL1.out HYL.out hyc.out (by omega) HS6.out.1 HS6.out.2 HC1.out HRD6.out)
        (fun h1 h2 => ⟨h2.1.trans h1.1, h2.2.trans h1.2⟩) (fun V l o o' hl _ _ _ => ⟨World.putObj_heap_other (by have := HS6.out; omega), World.putObj_heap_other (by have := HS6.out; omega)⟩) (Below.refl _ _) (fun _ => rfl)
        (fun pre V => Hid (PenAt V (fun k => ((K k ∨ k = gp) ∨ (w1.heap.size ≤ k ∧ k < wr.heap.size)) ∨ k = Bs) g (xs ++ [UInt8.ofNat n] ++ pre.map (fun x => nthB ys x.val))) ∧ Hid (Kept (fun k => ((K k ∨ k = gp) ∨ (w1.heap.size ≤ k ∧ k < wr.heap.size)) ∨ k = Bs) w0 V))
        (fun _ _ _ => False)
        (fun s V V' row hs hg hr => ⟨hs.1.out.kept hg hr, hs.2.out.trans (Kept.of_grown hg (fun k hk => ⟨Nat.lt_of_lt_of_le (HKL6.out k hk) hs.2.out.size, fun e => by have := (hr k e).1; have := HKL6.out k hk; omega⟩))⟩)
        (fun _ _ _ _ _ hs _ _ => hs)
        ⟨(show PenAt w0 _ g (xs ++ [UInt8.ofNat n] ++ []) by rw [List.append_nil]; exact HP6.out), Kept.refl _ _⟩
        ?A ?assign ?body ?done ?stop)
      case assign =>
        intro l x V K hK
        gi_wp2
        exact hK
      case stop =>
        rintro D c pre V _ _ h _
        exact h.elim
      case body =>
        rintro l pre x V ⟨hp, hk⟩ hlen
        have HQ := Lib.hid (show (xs ++ [UInt8.ofNat n] ++ pre.map (fun x => nthB ys x.val)).length ≤ 1000020 by rw [List.length_append, List.length_append, List.length_map]; simp only [List.length_cons, List.length_nil]; omega)
        obtain ⟨xs2, hxs2⟩ : ∃ xs2, xs2 = xs ++ [UInt8.ofNat n] ++ pre.map (fun x => nthB ys x.val) := ⟨_, rfl⟩
        rw [← hxs2] at hp HQ
        have hp0 := hp
        have HX2 := Lib.hid hxs2
        have HQ2 := HQ.out
        have HX0 := Lib.hid (show Blk V gp 153 [.pointer (some ⟨g, 0, none⟩)] from (hk.out.block gp (.inl (.inl (.inr rfl)))).trans HX6.out)
        clear hxs2
        repeat' (first | (with_reducible refine wpIn_plan (id := 8) (Kp2 gp g) [1, 1, 0, 0, 1, 0, 4, 4, 0, 0, 3] (.get 0 (.get 1 (.get 2 (.get 3 (.get 4 (.get 5 (.act 6 (.act 7 (.get 8 (.get 9 (.act 10 .done))))))))))) (by kernel_rfl) (by kernel_rfl) (by kernel_rfl) (kp2_refl gp g) kp2_trans ?_) | go_values | gi_guarded | gi_step | gi_upon)
        intro w_ hd_
        have hdg := hd_.grow
        obtain ⟨Ap2, cp2, hq1, hq2, hq3, hq4⟩ := hp.out.grow hdg
        have HPB := Lib.hid hq1
        have HPO := Lib.hid hq2
        have HGP := Lib.hid (show w_.cell? ⟨gp, 0, none⟩ = some (.pointer (some ⟨g, 0, none⟩)) from (HX0.out.grow hdg).at_ rfl)
        have HPC := Lib.hid (show w_.cell? ⟨g, 0, none⟩ = some (.slice Ap2 xs2.length cp2) from hq1.at_ rfl)
        have HLT := Lib.hid (show gp < w_.heap.size ∧ g < w_.heap.size from ⟨(HX0.out.grow hdg).lt, hq1.lt⟩)
        have HNE := Lib.hid (show Ap2.map Addr.block ≠ some gp ∧ Ap2.map Addr.block ≠ some g from ⟨(hq3 gp (.inl (.inl (.inr rfl)))).2.2, hq4⟩)
        have HKK := Lib.hid (show ∀ w2, Grow w_ w2 → ∀ k, (((K k ∨ k = gp) ∨ (w1.heap.size ≤ k ∧ k < wr.heap.size)) ∨ k = Bs) → k < w2.heap.size ∧ k ≠ g ∧ Ap2.map Addr.block ≠ some k from fun w2 hg k hk => ⟨Nat.lt_of_lt_of_le (hq3 k hk).1 hg.size, (hq3 k hk).2⟩)
        have HZV := Lib.hid hdg
        clear hq1 hq2 hq3 hq4 hd_ hdg hp
        repeat (first | (refine pl_calm rfl rfl (by first | exact wanted_none rfl | (go_simp; done) | rfl) (fun w_ => by first | (go_simp; rfl) | (go_simp; done) | rfl) (fun K hK => ?_); go_simp; refine hK _ _ ?_; clear hK K) | (refine pl_loadF rfl rfl (by first | exact wanted_none rfl | (go_simp; done) | rfl) rfl (by first | rfl | (go_simp; rfl)) (by kernel_rfl) HGP.out (fun w2_ h => h.1) (fun K hK => ?_); go_simp; refine hK _ _ ?_; clear hK K) | (refine pl_loadF rfl rfl (by first | exact wanted_none rfl | (go_simp; done) | rfl) rfl (by first | rfl | (go_simp; rfl)) (by kernel_rfl) HPC.out (fun w2_ h => h.2) (fun K hK => ?_); go_simp; refine hK _ _ ?_; clear hK K))
        refine pl_act rfl (by exact wanted_none rfl) (fun K hK => ?_)
        go_wp2_with fail
        generalize hw_ : World.alloc w_ _ = w2_
        obtain ⟨hX_, hb_, hs_⟩ := alloc_eq hw_
        refine hK _ _ (fun _ => ⟨hb_.block gp HLT.out.1, hb_.block g HLT.out.2⟩) ?_
        clear hK K
        have HPB2 := Lib.hid (HPB.out.grow hb_)
        have HPO2 := Lib.hid (HPO.out.grow hb_)
        have HSL := Lib.hid (Blk.sl (sz := 1) (n := 1) hX_ rfl)
        have HSZ2 := Lib.hid hs_
        have HGR2 := Lib.hid hb_
        clear hX_ hb_ hs_ hw_
        refine pl_act rfl (by exact wanted_none rfl) (fun K hK => ?_)
        refine wpl_apps rfl rfl el_u8 HPO2.out rfl HSL.out rfl (fun u hu => by simp only [List.mem_cons, List.not_mem_nil, or_false] at hu; rw [hu]; rfl) (by omega) (by omega) (Nat.zero_le _) ?_
        intro A3 c3 w3_ ho_ hg_ hA_
        go_wp2_with fail
        have HGK := Lib.hid (show Kp2 gp g w_ w3_ from ⟨(hg_.block gp (Nat.lt_of_lt_of_le HLT.out.1 HGR2.out.size) (fun e => (HNE.out.1 e.symm).elim)).trans (HGR2.out.block gp HLT.out.1), (hg_.block g (Nat.lt_of_lt_of_le HLT.out.2 HGR2.out.size) (fun e => (HNE.out.2 e.symm).elim)).trans (HGR2.out.block g HLT.out.2)⟩)
        refine hK _ _ (fun _ => ⟨hg_.block gp (Nat.lt_of_lt_of_le HLT.out.1 HGR2.out.size) (fun e => (HNE.out.1 e.symm).elim), hg_.block g (Nat.lt_of_lt_of_le HLT.out.2 HGR2.out.size) (fun e => (HNE.out.2 e.symm).elim)⟩) ?_
        clear hK K
        have HPB3 := Lib.hid (HPB2.out.grown hg_ (fun e => (HNE.out.2 e.symm).elim))
        have HAP := Lib.hid (pen_app2 (A' := A3) (c' := c3) HPB2.out HPO2.out (fun k hk => HKK.out w2_ HGR2.out k hk) HNE.out.2 (rfl) ho_ hg_ (fun b hb => hA_.elim (fun h => .inl (h.symm.trans hb)) (fun h => .inr (Nat.le_of_eq (Option.some.inj (h.symm.trans hb))))))
        have HKO := Lib.hid (keeps_own HPO2.out hg_)
        clear ho_ hg_ hA_
        repeat (first | (refine pl_calm rfl rfl (by first | exact wanted_none rfl | (go_simp; done) | rfl) (fun w_ => by first | (go_simp; rfl) | (go_simp; done) | rfl) (fun K hK => ?_); go_simp; refine hK _ _ ?_; clear hK K) )
        refine pl_act rfl (by exact wanted_none rfl) (fun K hK => ?_)
        have hcl := HPB3.out.at_ (i := 0) rfl
        have hfz := HPB3.out.frozen 0
        go_wp2_with fail
        refine hK _ _ (fun h => by cases h) ?_
        clear hK K hcl hfz
        refine pl_done ?_
        show KeepsOthers V _ ∧ Kp2 Bs bl V _ ∧ Hid _ ∧ Hid _
        have hk2 := (Kept.of_grow HZV.out (fun k hk => by obtain ⟨_, _, _, _, h3, _⟩ := hp0.out; exact (h3 k hk).1)).trans ((Kept.of_grow HGR2.out (fun k hk => (HKK.out w_ (Grow.refl _) k hk).1)).trans HAP.out.2)
        refine ⟨((keeps_of_below HZV.out).trans (keeps_of_below HGR2.out)).trans (HKO.out.trans (KeepsOthers.setCell _ _ _)), ⟨hk2.block Bs (.inr rfl), hk2.block bl (.inl HBL2.out)⟩, ?_, hk.out.trans hk2⟩
        show PenAt _ _ g (xs ++ [UInt8.ofNat n] ++ (pre ++ [x]).map (fun x => nthB ys x.val))
        rw [List.map_append, ← List.append_assoc, ← HX2.out]; exact HAP.out.1
      case done =>
        rintro D zs V hD hS ⟨hp, hk⟩ hK
        go_wp2_with fail
        refine ⟨by simp, .inl ⟨_, _, rfl, run_takeDeferred hK, ?_⟩⟩
        have hgo := grownBy_putObj' V D (.deferred none)
        have hnc : ∀ r, some D = some r → w0.heap.size ≤ r ∧ ∃ o : Obj, V.heap[r]? = some o ∧ o.isCells = false := fun r e => by cases e; exact ⟨hD, _, hK, rfl⟩
        have hpen := (hp.out.kept hgo hnc).less (K' := K) (fun k hk => .inl (.inl (.inl hk)))
        have hbytes : xs ++ [UInt8.ofNat n] ++ zs.map (fun x => nthB ys x.val) = xs ++ numB N := by
          rw [List.append_assoc]; congr 1
          rw [numB_eq, HYS.out, ← HNL.out, ← num_rev ys, HYL.out, ← hS, List.map_map]; rfl
        rw [hbytes] at hpen
        have hkk := (HK6.out.trans (hk.out.mono (fun k hk => .inl (.inl (.inl hk))))).trans (Kept.of_grown hgo (fun k hkk => by
          have h1 := HKL6.out k (.inl (.inl (.inl hkk)))
          exact ⟨Nat.lt_of_lt_of_le h1 hk.out.size, fun e => by cases e; omega⟩))
        exact ⟨_, results_none rfl _ _ _, rfl, hpen, hkk⟩
end Go.Proofs.YtphmefhnffoafaaDoor

/- Contracts: a copy of bytes, the pen's Bytes and Id, the document's Num. -/
namespace Go.Proofs.YtphmefhnffoafaaDoor
open Go.RowKit Go.Shelf
set_option linter.unusedVariables false

theorem own_cap1 {w : World} {base n c : Nat} {A : Option Addr} {xs : List Value} (h : w.ownsRow base 5 1 (.slice A n c) n xs) : n ≤ c := by
  rcases Nat.eq_zero_or_pos n with h0 | h0
  · omega
  · obtain ⟨_, _, _, _, hc⟩ := own_form h h0; exact hc
theorem run_nil_u8 (w : World) (a : Option Addr) (n c n' c' : Nat) : (binOp .eql 26 (.slice a n c) (.slice none n' c')).run Tryd.prog w = .ok (.bool a.isNone) w := Lib.run_eql_slice_nil w _ _ a n c n' c' Tryd.underlying26
set_option maxHeartbeats 1000000 in
theorem bclone_any (A : Option Addr) (n c : Nat) (bs : List UInt8) (w : World) (hs : Sl w w.heap.size 1 A n (bs.map B)) (hn : n ≤ 1000000) :
    Calls Tryd.prog 61 #[.slice A n c] w fun e w' => ∃ A' c', e = .returned (.slice A' n c') ∧ OwnAt w' w.heap.size A' n c' (bs.map B) ∧ n ≤ c' ∧ Grow w w' := by
  have HS := Lib.hid hs
  have qT := run_nil_u8
  cases A with
  | none =>
    obtain rfl : n = 0 := by
      rcases Nat.eq_zero_or_pos n with h0 | h0
      · exact h0
      · obtain ⟨b, off, u, h1, _⟩ := hs.at_ h0; cases h1
    have hb0 : bs = [] := by have := hs.len; simpa using this
    subst hb0
    clear hs
    go_enter Tryd.func61, Tryd.ntmps61
    go_wp2
    go_ret
    exact ⟨none, 0, rfl, World.ownsRow_nil _ _ _ _, Nat.le_refl _, Grow.refl _⟩
  | some ad =>
    have HN0 := Lib.hid (World.ownsRow_lit (base := w.heap.size) (e := 5) (size := 1) w #[] 0 (Nat.le_refl _) (by simp [maxLen]) rfl)
    have HSA := Lib.hid (hs.alloc (Nat.le_refl _) (.cells #[] 5))
    have HONE := Lib.hid (all_bytes bs)
    clear hs
    go_enter Tryd.func61, Tryd.ntmps61
    go_wp2_with (at_builtin; refine wpl_apps rfl rfl el_u8 HN0.out rfl HSA.out rfl HONE.out (by omega) (by omega) (by simp) ?_)
    intro A4 c4 w4 ho hg hA
    have HO := Lib.hid (show OwnAt w4 w.heap.size A4 n c4 (bs.map B) by unfold OwnAt; simpa using ho)
    have HB := Lib.hid (show Grow w w4 from ((Below.refl w.heap.size w).alloc (Nat.le_refl _) (.cells #[] 5)).grown hg (by simp) (by intro k hk; cases hk; exact Nat.le_refl _))
    clear ho hg hA
    try simp only [Nat.zero_add]
    go_wp2_with fail
    go_ret
    exact ⟨A4, c4, rfl, HO.out, own_cap1 HO.out, HB.out⟩
theorem pbytes_any (g : Nat) (K : Nat → Prop) (xs : List UInt8) (w : World) (h : PenAt w K g xs) (hl : xs.length ≤ 1000000) :
    Calls Tryd.prog 62 #[.pointer (some ⟨g, 0, none⟩)] w fun e w' => ∃ A' c', e = .returned (.slice A' xs.length c') ∧ OwnAt w' w.heap.size A' xs.length c' (xs.map B) ∧ xs.length ≤ c' ∧ Grow w w' := by
  obtain ⟨A, c, h1, h2, h3, h4⟩ := h
  have hc := h1.at_ (i := 0) rfl
  have HO := Lib.hid (Sl.of_own h2)
  clear h1 h2 h3 h4
  go_enter Tryd.func62, Tryd.ntmps62
  go_wp2_with fail
  refine (bclone_any A xs.length c xs _ HO.out hl).mono ?_
  rintro e w' ⟨A', c', rfl, h1, h2, h3⟩
  go_wp2_with fail
  go_ret
  exact ⟨A', c', rfl, h1, h2, h3⟩

set_option maxRecDepth 100000 in
set_option maxHeartbeats 1000000 in
theorem pid_any (g : Nat) (K : Nat → Prop) (xs : List UInt8) {ds : List Value} {d : List UInt8} (hd : Dig ds d) (w : World) (h : PenAt w K g xs) (hl : xs.length ≤ 1000000) :
    Calls Tryd.prog 77 #[.pointer (some ⟨g, 0, none⟩), .agg ds.toArray] w fun e w' => e = .returned (.tuple #[]) ∧ PenAt w' K g (xs ++ d) ∧ Kept K w w' := by
  have HP := Lib.hid h; clear h
  have HD := Lib.hid hd
  have HK0 := Lib.hid (show ∀ k, K k → k < w.heap.size from fun k hk => by obtain ⟨A, c, _, _, h3, _⟩ := HP.out; exact (h3 k hk).1)
  have HB := Lib.hid (Below.refl w.heap.size w)
  clear hd
  obtain ⟨gd, hgd⟩ : ∃ gd, gd = w.heap.size := ⟨_, rfl⟩
  have HG := Lib.hid hgd
  go_enter Tryd.func77, Tryd.ntmps77
  go_wp2_with (first | (with_reducible refine wpl_box (o := ⟨some 3, _, _, _, _, _⟩) rfl rfl rfl ?_))
  intro w1 hb1 hbw1 hsz1
  rw [← hgd] at hb1 hsz1 hbw1 ⊢
  have HX := Lib.hid (at_mk hb1 HD.out.len)
  have HP1 := Lib.hid (HP.out.more (K' := fun k => K k ∨ k = gd) (show Grow w w1 by rw [hgd] at hbw1; exact hbw1) (fun j hj => hj.imp_right (fun e => by omega)))
  have HK1 := Lib.hid (Kept.of_grow (show Grow w w1 by rw [hgd] at hbw1; exact hbw1) HK0.out)
  clear hb1 hbw1 hsz1 hgd HP HB
  repeat' (first | (with_reducible refine wp_plan (id := 1) Grow [0, 0, 0, 0, 2, 0, 3, 0, 0, 3] (.get 0 (.get 1 (.get 2 (.get 3 (.get 4 (.get 5 (.act 6 (.get 7 (.get 8 (.act 9 .done)))))))))) (by kernel_rfl) (by kernel_rfl) Grow.refl Grow.trans ?_) | go_values | go_skip | go_guarded | go_step | go_upon | go_back)
  intro w_ hd_
  have hdg := hd_.grow
  obtain ⟨Ap, cp, hq1, hq2, hq3, hq4⟩ := HP1.out.grow hdg
  have HPB := Lib.hid hq1
  have HPO := Lib.hid hq2
  have HPK := Lib.hid hq3
  have HPN := Lib.hid hq4
  have HPC := Lib.hid (show w_.cell? ⟨g, 0, none⟩ = some (.slice Ap xs.length cp) from hq1.at_ rfl)
  have HSL := Lib.hid ((HX.out.grow hdg).sl)
  have HK2 := Lib.hid (HK1.out.trans (Kept.of_grow hdg (fun k hk => Nat.lt_of_lt_of_le (HK0.out k hk) HK1.out.size)))
  have HONE := Lib.hid HD.out.one
  clear hq1 hq2 hq3 hq4 hd_ hdg
  repeat (first | (refine pl_calm rfl rfl (by first | exact wanted_none rfl | (go_simp; done) | rfl) (fun w_ => by first | (go_simp; rfl) | (go_simp; done) | rfl) (fun K hK => ?_); go_simp; refine hK _ _ ?_; clear hK K) | (refine pl_skip rfl (by first | (go_simp; done) | rfl) (fun K hK => ?_); go_simp; refine hK _ _ ?_; clear hK K) | (refine pl_skipa rfl (by first | (go_simp; done) | rfl) (fun K hK => ?_); go_simp; refine hK _ _ ?_; clear hK K) | (refine pl_load rfl rfl (by first | exact wanted_none rfl | (go_simp; done) | rfl) rfl (by first | rfl | (go_simp; rfl)) (by kernel_rfl) (by first | exact HPC.out) (fun K hK => ?_); go_simp; refine hK _ _ ?_; clear hK K) | (refine pl_loadnow rfl rfl (by first | exact wanted_none rfl | (go_simp; done) | rfl) rfl (by first | rfl | (go_simp; rfl)) (by kernel_rfl) (by first | exact HPC.out) (fun K hK => ?_); go_simp; refine hK _ _ ?_; clear hK K))
  refine pl_act rfl (by exact wanted_none rfl) (fun K hK => ?_)
  refine wpl_apps rfl rfl el_u8 HPO.out rfl HSL.out rfl HONE.out (by omega) (by omega) (Nat.zero_le _) ?_
  intro A3 c3 w3_ ho_ hg_ hA_
  have hll : (xs ++ d).length = xs.length + 32 := by rw [List.length_append, HD.out.2]
  have HPB3 := Lib.hid (HPB.out.grown hg_ (fun e => (HPN.out e.symm).elim))
  have HAP := Lib.hid (pen_app (ys := xs ++ d) (A' := A3) (c' := c3) HPB.out HPO.out HPK.out HPN.out (by rw [hll, List.map_append]; have h := HD.out.1; rw [h] at ho_; exact ho_) hg_ (fun b hb => hA_.elim (fun h => .inl (h.symm.trans hb)) (fun h => .inr (Nat.le_of_eq (Option.some.inj (h.symm.trans hb))))))
  rw [hll] at HAP
  clear ho_ hg_ hA_
  go_wp2_with fail
  refine hK _ _ (fun h => by cases h) ?_
  clear hK K
  repeat (first | (refine pl_calm rfl rfl (by first | exact wanted_none rfl | (go_simp; done) | rfl) (fun w_ => by first | (go_simp; rfl) | (go_simp; done) | rfl) (fun K hK => ?_); go_simp; refine hK _ _ ?_; clear hK K) | (refine pl_skip rfl (by first | (go_simp; done) | rfl) (fun K hK => ?_); go_simp; refine hK _ _ ?_; clear hK K) | (refine pl_skipa rfl (by first | (go_simp; done) | rfl) (fun K hK => ?_); go_simp; refine hK _ _ ?_; clear hK K))
  refine pl_act rfl (by exact wanted_none rfl) (fun K hK => ?_)
  have hcl := HPB3.out.at_ (i := 0) rfl
  have hfz := HPB3.out.frozen 0
  go_wp2_with fail
  refine hK _ _ (fun h => by cases h) ?_
  clear hK K hcl hfz
  refine pl_done ?_
  refine bodyPost_end (results_none rfl _ _ _) rfl ?_
  exact ⟨rfl, HAP.out.1.less (fun k hk => .inl hk), HK2.out.trans (HAP.out.2.mono (fun k hk => .inl hk))⟩

theorem shr8 (N q : Nat) : (N : Int) / 2 ^ (8 * q) = ((N / 256 ^ q : Nat) : Int) := by
  have h : ((2 ^ (8 * q) : Nat) : Int) = 2 ^ (8 * q) := by simp
  rw [← h, ← Int.natCast_ediv, Nat.pow_mul]
set_option maxRecDepth 100000 in
set_option maxHeartbeats 1000000 in
theorem rnum_any (N : Nat) (w : World) (hN : N ≤ 18446744073709551615) :
    Calls Tryd.prog 65 #[.int .u64 N] w fun e w' => ∃ A c, e = .returned (.slice A (numB N).length c) ∧ OwnAt w' w.heap.size A (numB N).length c ((numB N).map B) ∧ (numB N).length ≤ c ∧ Grow w w' := by
  have HL8 := Lib.hid (lenB_64 hN)
  have h8 := lenB_64 hN
  go_enter Tryd.func65, Tryd.ntmps65
  go_wp2_with fail
  go_loopw [3, 4] (fun kv vv wq => ∃ j M : Nat, lenB M + j = lenB N ∧ M ≤ N ∧ kv = .int .i64 j ∧ vv = .int .u64 M ∧ wq = w) (fun _ vv _ => (intOf vv).toNat)
  case atStart => exact ⟨0, N, by omega, Nat.le_refl _, rfl, rfl, rfl⟩
  case round =>
    obtain ⟨j, M, hj, hMN, rfl, rfl, rfl⟩ := hrel
    by_cases hM : 0 < M
    · have d1 : decide ((0 : Int) < (M : Int)) = true := by simpa using hM
      have h1 := lenB_pos (n := M) (by omega)
      go_wp2_with fail
      go_roundw
      case rel => exact ⟨j + 1, M / 256, by omega, by omega, by first | rfl | (congr 1; omega), by first | rfl | (congr 1; omega), by first | trivial | rfl⟩
      case measure => simp [intOf]; omega
    · obtain rfl : M = 0 := by omega
      obtain rfl : j = lenB N := by rw [lenB_zero] at hj; omega
      simp only [show ((0 : Nat) : Int) = 0 from rfl]
      obtain ⟨w0, hw0⟩ : ∃ w0 : World, w0 = wr := ⟨_, rfl⟩
      subst hw0
      obtain ⟨n, hn⟩ : ∃ n, n = lenB N := ⟨_, rfl⟩
      rw [← hn] at h8 ⊢
      have HN := Lib.hid hn
      have hnl : (numB N).length = n + 1 := by rw [numB_len, ← hn]
      have HNL := Lib.hid hnl
      clear hn hj hMN HL8 hM hnl
      go_wp2_with fail
      generalize hw1 : World.alloc w0 _ = w1
      obtain ⟨hX, hb, hs⟩ := alloc_eq hw1
      obtain ⟨g0, hg0⟩ : ∃ g0, g0 = w0.heap.size := ⟨_, rfl⟩
      rw [← hg0] at hX hs ⊢
      have HG := Lib.hid hg0
      have HO1 := Lib.hid (own_blk (base := w0.heap.size) (w := w1) (g := g0) (n := 1) hX rfl (by omega) (by simp [maxLen]))
      have HB1 := Lib.hid hb
      clear hX hb hs hw1 hg0
      go_loopw [5, 6] (fun ov iv wq => ∃ t : Nat, ∃ A c, t ≤ n ∧ ov = .slice A (t + 1) c ∧ iv = .int .i64 ((n : Int) - 1 - (t : Int)) ∧ Hid (wq.ownsRow w0.heap.size 5 1 (.slice A (t + 1) c) (t + 1) (((numB N).take (t + 1)).map B)) ∧ Hid (Grow w0 wq)) (fun _ iv _ => (intOf iv + 1).toNat)
      case atStart =>
        refine ⟨0, some ⟨g0, 0, none⟩, 1, Nat.zero_le _, rfl, by simp, ?_, HB1⟩
        have h := HO1.out
        show w1.ownsRow _ _ _ _ _ _
        rw [numB_zero, ← HN.out]
        rw [bnat_s n (by omega)] at h
        exact h
      case round =>
        obtain ⟨t, A, c, ht, rfl, rfl, hown, hgr⟩ := hrel
        by_cases hlt : t < n
        · obtain ⟨q, hq1, hq2⟩ : ∃ q : Nat, (n : Int) - 1 - (t : Int) = (q : Int) ∧ q = n - 1 - t := ⟨n - 1 - t, by omega, rfl⟩
          have hq7 : q ≤ 7 := by omega
          have d1 : decide ((0 : Int) ≤ (q : Int)) = true := by simp
          have HQ1 := Lib.hid hq1
          have HQ2 := Lib.hid hq2
          rw [hq1]
          clear hq1 hq2
          go_wp2_with (at_builtin; refine wpl_app1 rfl rfl el_u8 hown.out rfl (m := 1) rfl rfl ?_ ?_ ?_ ?_ ?_)
          · rfl
          · omega
          · omega
          · exact hgr.out.size
          intro A4 c4 w4 ho hg hA
          have HO4 := Lib.hid (show w4.ownsRow w0.heap.size 5 1 (.slice A4 (t + 1 + 1) c4) (t + 1 + 1) (((numB N).take (t + 1 + 1)).map B) by
            rw [numB_step (by have := HN.out; omega), List.map_append, ← HN.out, ← HQ2.out]
            simp only [List.map_cons, List.map_nil]
            rw [← bnat, ← shr8, List.map_take]; exact ho)
          have HB4 := Lib.hid (show Grow w0 w4 from below_grown hgr.out hg hgr.out.size (fun j hj => own_from hown.out j hj))
          clear ho hg hA
          go_wp2_with fail
          go_roundw
          case rel =>
            have h1 := HQ1.out
            refine ⟨t + 1, A4, c4, by omega, rfl, ?_, HO4, HB4⟩
            congr 1; omega
          case measure => simp [intOf]
        · obtain rfl : t = n := by omega
          have d1 : decide ((0 : Int) ≤ (t : Int) - 1 - (t : Int)) = false := by simp only [decide_eq_false_iff_not]; omega
          go_wp2_with fail
          go_ret
          have hall : (numB N).take (t + 1) = numB N := by rw [HN.out]; exact numB_all N
          have ho := hown.out
          rw [hall] at ho
          rw [HNL.out]
          exact ⟨A, c, rfl, ho, own_cap1 ho, hgr.out⟩
end Go.Proofs.YtphmefhnffoafaaDoor

/- Contracts of layer 6: a digest's bytes, a key filled, a pad turned. -/
namespace Go.Proofs.YtphmefhnffoafaaDoor
open Go.RowKit Go.Shelf
set_option linter.unusedVariables false

theorem Dig.at_ {xs : List Value} {d : List UInt8} (h : Dig xs d) {k : Nat} (hk : k < 32) : ∃ x : UInt8, xs[k]? = some (.int .u8 (b8 x)) ∧ d[k]? = some x := by
  have hl := h.2
  refine ⟨d[k]'(by omega), ?_, List.getElem?_eq_getElem (by omega)⟩
  rw [h.1, List.getElem?_map, List.getElem?_eq_getElem (by omega)]; rfl

set_option maxRecDepth 100000 in
set_option maxHeartbeats 1000000 in
theorem tbytes_any {xs : List Value} {d : List UInt8} (hx : Dig xs d) (w : World) :
    Calls Tryd.prog 83 #[.agg xs.toArray] w fun e w' => ∃ A' c', e = .returned (.slice A' 32 c') ∧ Sl w' w'.heap.size 1 A' 32 (d.map B) ∧ 32 ≤ c' ∧ Below w.heap.size w w' := by
  have HD := Lib.hid hx
  have HB := Lib.hid (Below.refl w.heap.size w)
  clear hx
  go_enter Tryd.func83, Tryd.ntmps83
  go_wp2_with (first | (with_reducible refine wpl_box (o := ⟨some 1, _, _, _, _, _⟩) rfl rfl rfl ?_))
  intro w2_ hb2_ hb_ hsz2_
  have HX_ := Lib.hid (at_mk hb2_ HD.out.len)
  clear hb2_ hsz2_
  have HB_ := Lib.hid (HB.out.grow' hb_)
  clear HB
  have HB := HB_
  clear HB_
  have HX := HX_
  clear hb_ HX_
  try clear w_
  rename World => w_
  go_wp2_with fail
  go_loopw [3, 4] (fun v i wr => ∃ k : Nat, ∃ A' c', k ≤ 32 ∧ i = .int .i64 k ∧ v = .slice A' k c' ∧ Hid (wr.ownsRow (w.heap.size + 1) 5 1 (.slice A' k c') k (xs.take k)) ∧ Hid (Below w.heap.size w wr) ∧ Hid (At wr w.heap.size 23 32 xs)) (fun _ i _ => 32 - (intOf i).toNat)
  case atStart => exact ⟨0, none, 0, by omega, rfl, rfl, Lib.hid (by simpa using World.ownsRow_nil _ _ _ _), HB, HX⟩
  case round =>
    obtain ⟨k, A3, c3, hk, rfl, rfl, hown, hbw, hat⟩ := hrel
    clear HB HX
    by_cases hlt : k < 32
    · obtain ⟨x, hx, _⟩ := HD.out.at_ hlt
      have hc := hat.out.blk.at_ hx
      have HXK := Lib.hid hx
      clear hx
      go_wp2_with (at_builtin; refine wpl_app1 rfl rfl el_u8 hown.out rfl (m := 1) rfl rfl ?_ ?_ ?_ ?_ ?_)
      · rfl
      · omega
      · omega
      · have := hat.out.lt; omega
      · intro A4 c4 w4 ho hg hA
        have HO := Lib.hid (show w4.ownsRow (w.heap.size + 1) 5 1 (.slice A4 (k + 1) c4) (k + 1) (xs.take (k + 1)) by rw [List.take_add_one, HXK.out]; exact ho)
        have HB := Lib.hid (show Below w.heap.size w w4 from hbw.out.grown hg hbw.out.size (fun g hg => by have := own_from hown.out g hg; omega))
        have HX := Lib.hid (at_mk (hat.out.blk.grown hg (by intro hh; have := own_from hown.out _ hh.symm; omega)) hat.out.len)
        clear ho hg hA hc
        go_wp2_with fail
        go_roundw
        case rel => exact ⟨k + 1, A4, c4, by omega, by go_num, rfl, HO, HB, HX⟩
        case measure => simp [intOf]; omega
    · obtain rfl : k = 32 := by omega
      have e : xs.take 32 = d.map B := by rw [List.take_of_length_le (by rw [HD.out.len]; exact Nat.le_refl _), HD.out.1]
      have HO := Lib.hid (e ▸ hown.out)
      clear e
      have HC := Lib.hid (own_form hown.out (by omega))
      go_wp2_with fail
      go_ret
      exact ⟨A3, c3, rfl, Sl.of_own HO.out, (by obtain ⟨g, _, _, _, h⟩ := HC.out; exact h), hbw.out⟩

theorem row_pad : RowT Tryd.prog 177 64 := ⟨_, Tryd.underlying177, by kernel_rfl, by kernel_rfl⟩
theorem zero_pad : (Tryd.prog.info? 177).map (·.zero) = some (some (.agg (List.replicate 64 (B 0)).toArray)) := by kernel_rfl
theorem len_pad {v : Value} : (List.replicate 64 v).length = 64 := by simp
/-- A pad's cells. -/
def Pad (xs : List Value) (p : List UInt8) : Prop := xs = p.map B ∧ p.length = 64
theorem Pad.len {xs : List Value} {d : List UInt8} (h : Pad xs d) : xs.length = 64 := by rw [h.1, List.length_map, h.2]
theorem Pad.one {xs : List Value} {d : List UInt8} (h : Pad xs d) : ∀ u ∈ xs, u.oneCell' = true := by rw [h.1]; exact all_bytes d

def turnUpto (p : List UInt8) (m : UInt8) (k : Nat) : List UInt8 := (p.take k).map (· ^^^ m) ++ p.drop k
theorem turnUpto_len (p : List UInt8) (m : UInt8) (k : Nat) : (turnUpto p m k).length = p.length := by
  unfold turnUpto; rw [List.length_append, List.length_map, List.length_take, List.length_drop]; omega
theorem turnUpto_at (p : List UInt8) (m : UInt8) (k : Nat) (x : UInt8) (h : p[k]? = some x) : (turnUpto p m k)[k]? = some x := by
  have hk := (List.getElem?_eq_some_iff.1 h).1
  unfold turnUpto
  rw [List.getElem?_append_right (by rw [List.length_map, List.length_take]; omega), List.length_map, List.length_take, List.getElem?_drop]
  rw [show k + (k - min k p.length) = k by omega]; exact h
theorem turnUpto_set (p : List UInt8) (m : UInt8) (k : Nat) (x : UInt8) (h : p[k]? = some x) : (turnUpto p m k).set k (x ^^^ m) = turnUpto p m (k + 1) := by
  have hk := (List.getElem?_eq_some_iff.1 h).1
  unfold turnUpto
  rw [List.set_append_right _ _ (by rw [List.length_map, List.length_take]; omega), List.length_map, List.length_take, show k - min k p.length = 0 by omega, List.take_add_one, h]
  have hd : p.drop k = x :: p.drop (k + 1) := by rw [List.drop_eq_getElem_cons hk, (List.getElem?_eq_some_iff.1 h).2]
  rw [hd]
  simp
theorem turnUpto_all (p : List UInt8) (m : UInt8) (k : Nat) (h : p.length ≤ k) : turnUpto p m k = p.map (· ^^^ m) := by
  unfold turnUpto; rw [List.take_of_length_le h, List.drop_of_length_le h, List.append_nil]
attribute [irreducible] turnUpto
attribute [local go_sem high] xor_b
set_option maxRecDepth 100000 in
set_option maxHeartbeats 1000000 in
theorem turned_any {xs : List Value} {p : List UInt8} (hx : Pad xs p) (m : UInt8) (w : World) :
    Calls Tryd.prog 130 #[.agg xs.toArray, .int .u8 (b8 m)] w fun e w' => ∃ g, e = .returned (.slice (some ⟨g, 0, none⟩) 64 64) ∧ Sl w' w'.heap.size 1 (some ⟨g, 0, none⟩) 64 ((p.map (· ^^^ m)).map B) ∧ Below w.heap.size w w' := by
  have HD := Lib.hid hx
  have HB := Lib.hid (Below.refl w.heap.size w)
  clear hx
  go_enter Tryd.func130, Tryd.ntmps130
  go_wp2_with (first | (with_reducible refine wpl_box (o := ⟨some 2, _, _, _, _, _⟩) rfl rfl rfl ?_))
  intro w2_ hb2_ hb_ hsz2_
  have HX_ := Lib.hid (at_mk hb2_ HD.out.len)
  clear hb2_ hsz2_
  have HB_ := Lib.hid (HB.out.grow' hb_)
  clear HB
  have HB := HB_
  clear HB_
  have HX := HX_
  clear hb_ HX_
  try clear w_
  rename World => w_
  go_wp2_with fail
  go_loopw [6] (fun i wr => ∃ k : Nat, k ≤ 64 ∧ i = .int .i64 k ∧ Hid (Below w.heap.size w wr) ∧ Hid (At wr w.heap.size 177 64 ((turnUpto p m k).map B))) (fun i _ => 64 - (intOf i).toNat)
  case atStart => exact ⟨0, by omega, rfl, HB, Lib.hid (by have := HX.out; rw [HD.out.1] at this; unfold turnUpto; simpa using this)⟩
  case round =>
    obtain ⟨k, hk, rfl, hbw, hat⟩ := hrel
    clear HB HX
    by_cases hlt : k < 64
    · obtain ⟨x, hx⟩ : ∃ x, p[k]? = some x := ⟨_, List.getElem?_eq_getElem (by rw [HD.out.2]; exact hlt)⟩
      have hc := hat.out.blk.at_ (show ((turnUpto p m k).map B)[k]? = some (.int .u8 (b8 x)) by rw [List.getElem?_map, turnUpto_at p m k x hx]; rfl)
      have hfz := hat.out.blk.frozen k
      have gk : (k : Int) < 64 := by omega
      have HSX := Lib.hid (turnUpto_set p m k x hx)
      clear hx
      go_wp2_with fail
      go_roundw
      case rel =>
        refine ⟨k + 1, by omega, by go_num, Lib.hid (hbw.out.setCell (p := ⟨w.heap.size, k, none⟩) (Nat.le_refl _) _), Lib.hid (at_mk ?_ ?_)⟩
        · have := hat.out.blk.set_ k (B (x ^^^ m))
          rw [← List.map_set, HSX.out] at this
          exact this
        · rw [List.length_map, turnUpto_len]; exact HD.out.2
      case measure => simp [intOf]; omega
    · obtain rfl : k = 64 := by omega
      have HO := Lib.hid (show At wr w.heap.size 177 64 ((p.map (· ^^^ m)).map B) by have := hat.out; rw [turnUpto_all _ _ _ (by rw [HD.out.2]; exact Nat.le_refl _)] at this; exact this)
      go_wp2_with fail
      go_ret
      exact ⟨_, rfl, HO.out.sl, hbw.out⟩

/-- 'copy(dst[:], src)' of no more than fits, onto the head of a block. -/
theorem run_copy_sl {P : Program} {w : World} {dT sT ty elem t : TypeId} (hu : P.underlying dT = some (.slice elem)) (hsz : (P.info? elem).map (·.size) = some 1)
    {go dl dc n c Bd : Nat} {A : Option Addr} {xs cs : List Value} (hb : Blk w go t xs) (hsl : Sl w Bd 1 A n cs) (hn : n ≤ dl) (hd : dl ≤ xs.length) (h1 : ∀ v ∈ cs, v.oneCell' = true) :
    ∃ w', (Builtin.copy_ #[dT, sT] ty #[.slice (some ⟨go, 0, none⟩) dl dc, .slice A n c]).run P w = .ok (goInt n) w' ∧ Blk w' go t (cs ++ xs.drop n) ∧ w.grownBy w' (some go) := by
  have hl : cs.length = n := hsl.len
  rcases Nat.eq_zero_or_pos n with h0 | h0
  · subst h0
    have : cs = [] := List.eq_nil_of_length_eq_zero hl
    subst this
    exact ⟨w, run_copy_none (P := P) w dT sT ty elem _ A dl dc 0 c hu hsz (by simp), by simpa using hb, World.grownBy.refl w _⟩
  · obtain ⟨b, off, rfl, _, hc⟩ := hsl.2 h0
    have hr := run_copy_row (P := P) w dT sT ty elem go 0 dl dc ⟨b, off, none⟩ n c xs.toArray t cs hu hsz hb (by rw [hl]; exact (Nat.min_eq_left hn).symm) (fun j v hv => by rw [Addr.add_lit]; exact hc j v hv) (by simp; omega) h1
    rw [hl] at hr
    refine ⟨_, hr, ?_, ?_⟩
    · have := blk_setRow (xs := xs.toArray.toList.take 0 ++ cs ++ xs.toArray.toList.drop (0 + n)) hb
      simpa using this
    · exact ⟨rfl, rfl, rfl, by simp, fun k _ hk => setRow_other w go k _ (fun e => hk (by simp [e]))⟩

def padB (key : List UInt8) : List UInt8 := (if 64 < key.length then sha key else key) ++ List.replicate (64 - (if 64 < key.length then sha key else key).length) 0
theorem padB_length (key : List UInt8) : (padB key).length = 64 := by
  unfold padB
  have := sha_length key
  split <;> simp <;> omega
theorem pad_of (k : List UInt8) (h : k.length ≤ 64) : k.map B ++ (List.replicate 64 (B 0)).drop k.length = (k ++ List.replicate (64 - k.length) 0).map B := by
  rw [List.map_append, List.drop_replicate, List.map_replicate]
theorem Pad.padB (key : List UInt8) : Pad ((padB key).map B) (padB key) := ⟨rfl, padB_length key⟩

set_option maxRecDepth 100000 in
set_option maxHeartbeats 1000000 in
theorem fill_any (A : Option Addr) (n c : Nat) (key : List UInt8) {xs : List Value} (hx : Pad xs (padB key)) (w : World) (hs : Sl w w.heap.size 1 A n (key.map B)) (hc : n ≤ c) (hn : n ≤ 1099511627776) (ht : Tabs w) :
    Calls Tryd.prog 129 #[.slice A n c] w fun e w' => e = .returned (.agg xs.toArray) ∧ Below w.heap.size w w' := by
  have HS := Lib.hid hs; have HT := Lib.hid ht; have HD := Lib.hid hx
  have HB := Lib.hid (Below.refl w.heap.size w)
  have HL := Lib.hid (show key.length = n by have := hs.len; simpa using this)
  have hr := row_pad
  have HR := Lib.hid hr
  clear hs ht hx hr
  have HG := Lib.hid (Nat.le_refl w.heap.size)
  by_cases h64 : 64 < n
  · obtain ⟨ys, hys⟩ : ∃ ys, ys = (sha key).map B := ⟨_, rfl⟩
    have HY := Lib.hid (show Dig ys (sha key) by rw [hys]; exact Dig.sha key)
    have HP := Lib.hid (show padB key = sha key ++ List.replicate (64 - (sha key).length) 0 by unfold padB; rw [if_pos (by rw [HL.out]; exact h64)])
    clear hys
    go_enter Tryd.func129, Tryd.ntmps129
    go_wp2_with (first | (with_reducible refine wpl_alloc (o := ⟨some 2, _, _, _, _, _⟩) rfl rfl zero_pad ?_))
    intro w2_ hb2_ hb_ hsz2_
    have HX_ := Lib.hid (at_mk hb2_ len_pad)
    clear hb2_ hsz2_
    have HB_ := Lib.hid (HB.out.grow' hb_)
    clear HB
    have HB := HB_
    clear HB_
    have HS_ := Lib.hid (HS.out.grow hb_)
    clear HS
    have HS := HS_
    clear HS_
    have HT_ := Lib.hid (HT.out.grow hb_)
    clear HT
    have HT := HT_
    clear HT_
    have HX := HX_
    clear hb_ HX_
    try clear w_
    rename World => w_
    go_wp2_with fail
    have ha := alloc_new w_ #[.slice A n c] 26
    have HP1 := Lib.hid (show Parts _ _ (some ⟨w_.heap.size, 0, none⟩) 1 [(.slice A n c, key)] from parts_blk ha.1 rfl (by intro p hp; simp only [List.mem_cons, List.not_mem_nil, or_false] at hp; subst hp; exact part_mk (HS.out.grow ha.2.1) hc))
    have HT1 := Lib.hid (HT.out.grow ha.2.1)
    have HX1 := Lib.hid (HX.out.grow ha.2.1)
    have HB1 := Lib.hid (HB.out.grow' ha.2.1)
    clear ha HS HT HX HB
    refine (dsum_any _ _ _ _ HY.out (by simp [cat]) _ HP1.out (by omega) (by rw [HL.out]; omega) HT1.out).mono ?_
    rintro e w2 ⟨rfl, hb_⟩
    have HX := Lib.hid (HX1.out.grow hb_)
    have HB := Lib.hid (HB1.out.grow' hb_)
    clear hb_ HX1 HB1 HT1 HP1
    obtain ⟨w_, rfl⟩ : ∃ w_ : World, w_ = w2 := ⟨_, rfl⟩
    go_wp2_with (first | (with_reducible refine wpl_alloc (o := ⟨some 3, _, _, _, _, _⟩) rfl rfl zero_id ?_))
    intro w1_ hb1_ hbw1_ hsz1_
    have HB1_ := Lib.hid (at_mk hb1_ len_id)
    have HBW1_ := Lib.hid hbw1_
    have HZ1_ := Lib.hid hsz1_
    clear hb1_ hbw1_ hsz1_
    go_wp2_with (first | (with_reducible refine wpl_storeb (o := ⟨none, .store _ _ _, _, _, _, _⟩) rfl rfl row_id HB1_.out.blk rfl rfl HB1_.out.len HY.out.len HY.out.one ?_))
    intro w2_ hb2_ hg2_ hsz2_
    have hb_ := var_grow HBW1_.out HZ1_.out hg2_
    have HX_ := Lib.hid (at_mk hb2_ HY.out.len)
    clear hb2_ hg2_ hsz2_ HB1_ HBW1_ HZ1_
    have HB_ := Lib.hid (HB.out.grow' hb_)
    clear HB
    have HB := HB_
    clear HB_
    have HX_ := Lib.hid (HX.out.grow hb_)
    clear HX
    have HX := HX_
    clear HX_
    generalize hg_ : w_.heap.size = g at HX_ ⊢
    clear hg_
    have HV := HX_
    clear hb_ HX_
    clear w1_
    try clear w_
    rename World => w_
    have HSV := Lib.hid HV.out.sl
    go_wp2_with fail
    obtain ⟨w5, hr5, hb5, hg5⟩ := run_copy_sl (P := Tryd.prog) (dT := 26) (sT := 26) (ty := 3) (dc := 64) (c := 32) el_u8.ht (by kernel_rfl) HX.out.blk HSV.out (show _ ≤ 64 by omega) (Nat.le_of_eq HX.out.len.symm) HY.out.one
    · rw [hr5]
      clear hr5
      have HX5 := Lib.hid (show At w5 w.heap.size 177 64 xs by
        refine at_mk ?_ HD.out.len
        have e := pad_of (sha key) (by rw [sha_length]; omega)
        rw [sha_length, ← HY.out.1] at e
        rw [HD.out.1, HP.out, sha_length, ← e]; exact hb5)
      have HB5 := Lib.hid (put_below HB.out HG.out hg5)
      clear hb5 hg5 HB HX HSV HV
      have HB := HB5; have HX := HX5; clear HB5 HX5
      clear w_
      obtain ⟨w_, rfl⟩ : ∃ w_ : World, w_ = w5 := ⟨_, rfl⟩
      go_wp2_with (first | (with_reducible refine wpl_loadb (o := ⟨some 14, _, _, _, _, _⟩) rfl rfl row_pad HX.out.blk rfl HX.out.len ?_) | (with_reducible refine wpl_storeb (o := ⟨none, .store _ _ _, _, _, _, _⟩) rfl rfl row_pad HX.out.blk rfl rfl HX.out.len HD.out.len HD.out.one ?_))
      intro w2_ hb2_ hg2_ hsz2_
      have HB_ := Lib.hid (put_below HB.out HG.out hg2_)
      have HX_ := Lib.hid (at_mk hb2_ HD.out.len)
      clear hb2_ hg2_ hsz2_ HB HX
      have HB := HB_
      have HX := HX_
      clear HB_ HX_
      try clear w_
      rename World => w_
      go_wp2_with fail
      exact ret_cell rfl HR.out HX.out.blk rfl HX.out.len rfl ⟨rfl, HB.out⟩
  · have HP := Lib.hid (show padB key = key ++ List.replicate (64 - key.length) 0 by unfold padB; rw [if_neg (by rw [HL.out]; exact h64)])
    have HA := Lib.hid (all_bytes key)
    go_enter Tryd.func129, Tryd.ntmps129
    go_wp2_with (first | (with_reducible refine wpl_alloc (o := ⟨some 2, _, _, _, _, _⟩) rfl rfl zero_pad ?_))
    intro w2_ hb2_ hb_ hsz2_
    have HX_ := Lib.hid (at_mk hb2_ len_pad)
    clear hb2_ hsz2_
    have HB_ := Lib.hid (HB.out.grow' hb_)
    clear HB
    have HB := HB_
    clear HB_
    have HS_ := Lib.hid (HS.out.grow hb_)
    clear HS
    have HS := HS_
    clear HS_
    have HT_ := Lib.hid (HT.out.grow hb_)
    clear HT
    have HT := HT_
    clear HT_
    have HX := HX_
    clear hb_ HX_
    try clear w_
    rename World => w_
    go_wp2_with fail
    obtain ⟨w5, hr5, hb5, hg5⟩ := run_copy_sl (P := Tryd.prog) (dT := 26) (sT := 26) (ty := 3) (dc := 64) (c := c) el_u8.ht (by kernel_rfl) HX.out.blk HS.out (show _ ≤ 64 by omega) (Nat.le_of_eq HX.out.len.symm) HA.out
    · rw [hr5]
      clear hr5
      have HX5 := Lib.hid (show At w5 w.heap.size 177 64 xs by
        refine at_mk ?_ HD.out.len
        have e := pad_of key (by rw [HL.out]; omega)
        rw [HL.out] at e
        rw [HD.out.1, HP.out, HL.out, ← e]; exact hb5)
      have HB5 := Lib.hid (put_below HB.out HG.out hg5)
      clear hb5 hg5 HB HX HS HT
      have HB := HB5; have HX := HX5; clear HB5 HX5
      clear w_
      obtain ⟨w_, rfl⟩ : ∃ w_ : World, w_ = w5 := ⟨_, rfl⟩
      go_wp2_with (first | (with_reducible refine wpl_loadb (o := ⟨some 14, _, _, _, _, _⟩) rfl rfl row_pad HX.out.blk rfl HX.out.len ?_) | (with_reducible refine wpl_storeb (o := ⟨none, .store _ _ _, _, _, _, _⟩) rfl rfl row_pad HX.out.blk rfl rfl HX.out.len HD.out.len HD.out.one ?_))
      intro w2_ hb2_ hg2_ hsz2_
      have HB_ := Lib.hid (put_below HB.out HG.out hg2_)
      have HX_ := Lib.hid (at_mk hb2_ HD.out.len)
      clear hb2_ hg2_ hsz2_ HB HX
      have HB := HB_
      have HX := HX_
      clear HB_ HX_
      try clear w_
      rename World => w_
      go_wp2_with fail
      exact ret_cell rfl HR.out HX.out.blk rfl HX.out.len rfl ⟨rfl, HB.out⟩
end Go.Proofs.YtphmefhnffoafaaDoor

/- The contract of the pen's Num. Printed by mkpen.py. -/
import Derived.Test.YtphmefhnffoafaaTxReadsB7
import Derived.Lib.SliceRun
import Derived.Test.YtphmefhnffoafaaTxReadsB5
import Derived.Laws.Cover3
set_option linter.unusedSimpArgs false
/- The contract of the pen's Num. Printed by mkpen.py. -/
namespace Go.Proofs.Ytphmefhnffoafaa
open Go.RowKit Go.Shelf
set_option linter.unusedVariables false
attribute [local go_sem] Oper.semAt_some

section
variable {P : Program} {ops : Array Oper} {Fut : World → World → Prop} {cl : List Nat} {Q : Exit → Act → World → Prop} {o : Oper} {i : Nat} {t : Plan} {a : Act} {w : World}
theorem pl_loadF {T : TypeId} {x : Operand} {p : Addr} {v : Value} (hi : ops[i]? = some o) (hc : plCls cl i = 1) (hw : Region.wanted o (yielded ops a.tmps) = true) (ho : o.op = .load T x) (hx : a.eval x = .pointer (some p))
    (hT : (match P.underlying T with | some (.struct _) | some (.array _ _) => false | some _ => true | none => false) = true) (hv : w.cell? p = some v) (hF : ∀ w', Fut w w' → w'.heap[p.block]? = w.heap[p.block]?)
    (hk : ∀ K : Act → World → Prop, (∀ a w, wpS P ops Fut cl Q t a w → K a w) → K (a.put o.dst v) w) : wpS P ops Fut cl Q (.get i t) a w := by
  refine pl_read hi hc hw (fun w' hf => ?_) hk
  have hv' : w'.cell? p = some v := by rw [World.cell?_of_block (hF w' hf)]; exact hv
  unfold execOp
  simp only [ho, hx, Instr.loadAt, Instr.sureAddr, Sem.run_bind, Sem.run_pure, Result.andThen_ok]
  cases hd : P.underlying T with
  | none => rw [hd] at hT; cases hT
  | some d =>
    rw [hd] at hT
    have hagg : (isAgg T).run P w' = .ok false w' := by
      unfold isAgg
      rw [Sem.run_bind, run_underlying hd w']
      cases d <;> simp_all
    simp [loadVar, hagg, load, Sem.run, hv']
end
theorem kp2_refl (a b : Nat) (w : World) : Kp2 a b w w := ⟨rfl, rfl⟩
theorem kp2_trans {a b : Nat} (w1 w2 w3 : World) (h : Kp2 a b w1 w2) (k : Kp2 a b w2 w3) : Kp2 a b w1 w3 := ⟨k.1.trans h.1, k.2.trans h.2⟩
theorem pen_app2 {K : Nat → Prop} {w w1 : World} {g c c' : Nat} {A A' : Option Addr} {xs : List UInt8} {y : UInt8} {v : Value} (h1 : Blk w g 87 [.slice A xs.length c]) (h2 : w.ownsRow 0 5 1 (.slice A xs.length c) xs.length (xs.map B))
    (h3 : ∀ k, K k → k < w.heap.size ∧ k ≠ g ∧ A.map Addr.block ≠ some k) (h4 : A.map Addr.block ≠ some g) (hv : v = B y)
    (ho : w1.ownsRow 0 5 1 (.slice A' (xs.length + 1) c') (xs.length + 1) (xs.map B ++ [v])) (hg : w.grownBy w1 (A.map Addr.block)) (hA : ∀ b, A'.map Addr.block = some b → A.map Addr.block = some b ∨ w.heap.size ≤ b) :
    PenAt (w1.setCell ⟨g, 0, none⟩ (.slice A' (xs.length + 1) c')) K g (xs ++ [y]) ∧ Kept K w (w1.setCell ⟨g, 0, none⟩ (.slice A' (xs.length + 1) c')) := by
  have hl : (xs ++ [y]).length = xs.length + 1 := by simp
  have := pen_app (ys := xs ++ [y]) (A' := A') (c' := c') h1 h2 h3 h4 (by rw [hl, List.map_append]; rw [hv] at ho; exact ho) hg hA
  rw [hl] at this
  exact this
theorem num_rev (ys : List UInt8) : (List.range ys.length).map (nthB ys) = ys.reverse := by
  apply List.ext_getElem?
  intro i
  rw [List.getElem?_map]
  by_cases h : i < ys.length
  · rw [List.getElem?_range h, List.getElem?_reverse h, Option.map_some]
    unfold nthB
    rw [List.getD_eq_getElem?_getD, List.getElem?_eq_getElem (show ys.length - 1 - i < ys.length by omega)]; rfl
  · rw [List.getElem?_eq_none (by simp; omega), List.getElem?_eq_none (by simp; omega)]; rfl
theorem numB_eq (n : Nat) : numB n = [UInt8.ofNat (lenB n)] ++ (leB n).reverse := by unfold numB; rfl
theorem bnat (n : Nat) : Value.int .u8 ((n : Int) % 256) = B (UInt8.ofNat n) := by unfold B; rw [b8_ofNat]; congr 1

theorem PenAt.kept {K : Nat → Prop} {w w1 : World} {g Bd : Nat} {xs : List UInt8} {row : Option Nat} (h : PenAt w K g xs) (hg : w.grownBy w1 row) (hr : ∀ r, row = some r → Bd ≤ r ∧ ∃ o : Obj, w.heap[r]? = some o ∧ o.isCells = false) : PenAt w1 K g xs := by
  obtain ⟨A, c, h1, h2, h3, h4⟩ := h
  exact ⟨A, c, h1.grown hg (row_ne_blk h1 hr), own_kept h2 hg (fun k hk => by subst hk; exact row_ne_own h2 hr), fun j hj => ⟨Nat.lt_of_lt_of_le (h3 j hj).1 hg.size, (h3 j hj).2⟩, h4⟩
theorem keeps_own {w w1 : World} {base n c sz : Nat} {e : TypeId} {A : Option Addr} {xs : List Value} (h : w.ownsRow base e sz (.slice A n c) n xs) (hg : w.grownBy w1 (A.map Addr.block)) : KeepsOthers w w1 := by
  refine ⟨hg.size, fun k o hk hc => ?_⟩
  refine (hg.block k (Array.getElem?_eq_some_iff.1 hk).1 (fun e => ?_)).trans hk
  rcases h.2 with ⟨hv, _⟩ | ⟨g, cap, cur, hv, _, hh, _⟩
  · injection hv with hA; subst hA; cases e
  · injection hv with hA; subst hA
    obtain rfl : k = g := by simpa using e
    rw [hh] at hk; cases hk; cases hc
theorem bnat_s (n : Nat) (h : n ≤ 255) : Value.int .u8 (n : Int) = B (UInt8.ofNat n) := by rw [← bnat]; congr 1; omega
set_option maxRecDepth 100000 in
set_option maxHeartbeats 4000000 in
theorem num_any (g N : Nat) (K : Nat → Prop) (xs : List UInt8) (w : World) (h : PenAt w K g xs) (hl : xs.length ≤ 1000000) (hN : N ≤ 18446744073709551615) :
    Calls Try.prog 37 #[.pointer (some ⟨g, 0, none⟩), .int .u64 N] w fun e w' => e = .returned (.tuple #[]) ∧ PenAt w' K g (xs ++ numB N) ∧ Kept K w w' := by
  have HP := Lib.hid h; clear h
  have HK0 := Lib.hid (show ∀ k, K k → k < w.heap.size from fun k hk => by obtain ⟨A, c, _, _, h3, _⟩ := HP.out; exact (h3 k hk).1)
  refine callsIn_wide.1 (callsIn_of_wp_marks (n := 10) Try.func37 rfl trivial ?_ rfl)
  simp only [Try.ntmps37, List.size_toArray, List.length_cons, List.length_nil, Nat.reduceAdd, Nat.reduceSub, Array.replicate_succ, Array.replicate_zero, List.push_toArray, List.append_toArray, List.nil_append, List.cons_append]
  refine wpIn_wide.2 ?_
  go_wp2_with fail
  generalize hw1 : World.alloc w _ = w1
  obtain ⟨hX, hb, hs⟩ := alloc_eq hw1
  obtain ⟨gp, hgp⟩ : ∃ gp, gp = w.heap.size := ⟨_, rfl⟩
  rw [← hgp] at hX hs ⊢
  have HG := Lib.hid hgp
  have HX := Lib.hid hX
  have HP1 := Lib.hid (HP.out.more (K' := fun k => K k ∨ k = gp) hb (fun j hj => hj.imp_right (fun e => by omega)))
  have HKP1 := Lib.hid (Kept.of_grow hb HK0.out)
  have HS1 := Lib.hid hs
  have HGL := Lib.hid (show g < gp by rw [hgp]; exact HP.out.lt)
  clear hX hb hs hw1 hgp HP
  have HL8 := Lib.hid (lenB_64 hN)
  go_loopw [1, 4] (fun nv lv wr => ∃ M : Nat, ∃ ys A c, nv = .int .u64 M ∧ lv = .slice A ys.length c ∧ Hid (leB N = ys ++ leB M) ∧ M ≤ N ∧ Hid (wr.ownsRow w1.heap.size 5 1 (.slice A ys.length c) ys.length (ys.map B)) ∧ Hid (ys.length ≤ c) ∧ Hid (Grow w1 wr)) (fun nv _ _ => (intOf nv).toNat)
  case atStart => exact ⟨N, [], none, 0, rfl, rfl, rfl, Nat.le_refl _, World.ownsRow_nil _ _ _ _, Nat.zero_le _, Grow.refl _⟩
  case round =>
    obtain ⟨M, ys, A, c, rfl, rfl, hsp, hMN, hown, hyc, hgr⟩ := hrel
    have hyl : ys.length + lenB M = lenB N := by have := congrArg List.length hsp.out; rw [List.length_append, leB_len, leB_len] at this; omega
    have h8 := HL8.out
    by_cases hM : 0 < M
    · have d1 : decide ((0 : Int) < (M : Int)) = true := by simpa using hM
      go_wp2_with (at_builtin; refine wpl_app1 rfl rfl el_u8 hown.out rfl (m := 1) rfl rfl ?_ ?_ ?_ ?_ ?_)
      · simp [Value.oneCell']
      · omega
      · omega
      · exact hgr.out.size
      intro A5 c5 w5 ho hg hA
      have HB5 := Lib.hid (show Grow w1 w5 from below_grown hgr.out hg hgr.out.size (fun j hj => own_from hown.out j hj))
      have hll : (ys ++ [UInt8.ofNat M]).length = ys.length + 1 := by simp
      have HO5 := Lib.hid (show w5.ownsRow w1.heap.size 5 1 (.slice A5 (ys ++ [UInt8.ofNat M]).length c5) (ys ++ [UInt8.ofNat M]).length ((ys ++ [UInt8.ofNat M]).map B) by
        rw [hll, List.map_append]; simp only [List.map_cons, List.map_nil]; rw [← bnat]; exact ho)
      have HC5 := Lib.hid (show (ys ++ [UInt8.ofNat M]).length ≤ c5 by obtain ⟨_, _, _, _, hcc⟩ := own_form HO5.out (by rw [hll]; omega); exact hcc)
      have HSP5 := Lib.hid (show leB N = (ys ++ [UInt8.ofNat M]) ++ leB (M / 256) by rw [hsp.out, leB_pos (by omega), List.append_assoc]; rfl)
      clear ho hg hA
      rw [← hll]
      go_wp2_with fail
      go_roundw
      case rel => exact ⟨M / 256, ys ++ [UInt8.ofNat M], A5, c5, by first | rfl | (congr 1; omega), rfl, HSP5, by omega, HO5, HC5, HB5⟩
      case measure => simp [intOf]; omega
    · obtain rfl : M = 0 := by omega
      have HYS := Lib.hid (show leB N = ys by have := hsp.out; rw [leB_zero, List.append_nil] at this; exact this)
      have hyl2 : ys.length = lenB N := by rw [← leB_len, HYS.out]
      obtain ⟨n, hn⟩ : ∃ n, n = ys.length := ⟨_, rfl⟩
      have HNL := Lib.hid (show n = lenB N by rw [hn, hyl2])
      have HYL := Lib.hid (show ys.length = n from hn.symm)
      rw [← hn] at hown hyc ⊢
      have HPR := Lib.hid (HP1.out.more (K' := fun k => (K k ∨ k = gp) ∨ (w1.heap.size ≤ k ∧ k < wr.heap.size)) hgr.out (fun j hj => hj))
      have HXR := Lib.hid (HX.out.grow hgr.out)
      have HKR := Lib.hid (HKP1.out.trans (Kept.of_grow hgr.out (fun k hk => Nat.lt_of_lt_of_le (HK0.out k hk) HKP1.out.size)))
      have HOR := hown
      have HSR := Lib.hid (show w1.heap.size ≤ wr.heap.size from hgr.out.size)
      have hn8 : n ≤ 8 := by have := HNL.out; omega
      clear hyl2 hn hown hgr hsp hyl hMN HX HP1 HKP1
      -- p.b = append(p.b, byte(len(l)))
      go_wp2_with fail
      repeat' (first | (with_reducible refine wp_plan (id := 5) (Kp2 gp g) [1, 1, 0, 0, 1, 0, 0, 0, 4, 4, 0, 0, 3] (.get 0 (.get 1 (.get 2 (.get 3 (.get 4 (.get 5 (.get 6 (.get 7 (.act 8 (.act 9 (.get 10 (.get 11 (.act 12 .done))))))))))))) (by kernel_rfl) (by kernel_rfl) (kp2_refl gp g) kp2_trans ?_) | go_values | go_skip | go_guarded | go_step | go_upon | go_back)
      intro w_ hd_
      have hdg := hd_.grow
      obtain ⟨Ap, cp, hq1, hq2, hq3, hq4⟩ := HPR.out.grow hdg
      have HPB := Lib.hid hq1
      have HPO := Lib.hid hq2
      have HGP := Lib.hid (show w_.cell? ⟨gp, 0, none⟩ = some (.pointer (some ⟨g, 0, none⟩)) from (HXR.out.grow hdg).at_ rfl)
      have HPC := Lib.hid (show w_.cell? ⟨g, 0, none⟩ = some (.slice Ap xs.length cp) from hq1.at_ rfl)
      have HLT := Lib.hid (show gp < w_.heap.size ∧ g < w_.heap.size from ⟨(HXR.out.grow hdg).lt, hq1.lt⟩)
      have HNE := Lib.hid (show Ap.map Addr.block ≠ some gp ∧ Ap.map Addr.block ≠ some g from ⟨(hq3 gp (.inl (.inr rfl))).2.2, hq4⟩)
      have HKK := Lib.hid (show ∀ w2, Grow w_ w2 → ∀ k, ((K k ∨ k = gp) ∨ (w1.heap.size ≤ k ∧ k < wr.heap.size)) → k < w2.heap.size ∧ k ≠ g ∧ Ap.map Addr.block ≠ some k from fun w2 hg k hk => ⟨Nat.lt_of_lt_of_le (hq3 k hk).1 hg.size, (hq3 k hk).2⟩)
      have HKR_ := Lib.hid (HKR.out.trans (Kept.of_grow hdg (fun k hk => Nat.lt_of_lt_of_le (HK0.out k hk) HKR.out.size)))
      have HOR_ := Lib.hid (HOR.out.grow hdg)
      have HZ_ := Lib.hid hdg
      clear hq1 hq2 hq3 hq4 hd_ hdg HPR HKR
      repeat (first | (refine pl_calm rfl rfl (by first | exact wanted_none rfl | (go_simp; done) | rfl) (fun w_ => by first | (go_simp; rfl) | (go_simp; done) | rfl) (fun K hK => ?_); go_simp; refine hK _ _ ?_; clear hK K) | (refine pl_loadF rfl rfl (by first | exact wanted_none rfl | (go_simp; done) | rfl) rfl (by first | rfl | (go_simp; rfl)) (by kernel_rfl) HGP.out (fun w2_ h => h.1) (fun K hK => ?_); go_simp; refine hK _ _ ?_; clear hK K) | (refine pl_loadF rfl rfl (by first | exact wanted_none rfl | (go_simp; done) | rfl) rfl (by first | rfl | (go_simp; rfl)) (by kernel_rfl) HPC.out (fun w2_ h => h.2) (fun K hK => ?_); go_simp; refine hK _ _ ?_; clear hK K))
      refine pl_act rfl (by exact wanted_none rfl) (fun K hK => ?_)
      go_wp2_with fail
      generalize hw_ : World.alloc w_ _ = w2_
      obtain ⟨hX_, hb_, hs_⟩ := alloc_eq hw_
      refine hK _ _ (fun _ => ⟨hb_.block gp HLT.out.1, hb_.block g HLT.out.2⟩) ?_
      clear hK K
      have HPB2 := Lib.hid (HPB.out.grow hb_)
      have HPO2 := Lib.hid (HPO.out.grow hb_)
      have HSL := Lib.hid (Blk.sl (sz := 1) (n := 1) hX_ rfl)
      have HSZ2 := Lib.hid hs_
      have HGR2 := Lib.hid hb_
      clear hX_ hb_ hs_ hw_
      refine pl_act rfl (by exact wanted_none rfl) (fun K hK => ?_)
      refine wpl_apps rfl rfl el_u8 HPO2.out rfl HSL.out rfl (fun u hu => by simp only [List.mem_cons, List.not_mem_nil, or_false] at hu; rw [hu]; rfl) (by omega) (by omega) (Nat.zero_le _) ?_
      intro A3 c3 w3_ ho_ hg_ hA_
      go_wp2_with fail
      have HGK := Lib.hid (show Kp2 gp g w_ w3_ from ⟨(hg_.block gp (Nat.lt_of_lt_of_le HLT.out.1 HGR2.out.size) (fun e => (HNE.out.1 e.symm).elim)).trans (HGR2.out.block gp HLT.out.1), (hg_.block g (Nat.lt_of_lt_of_le HLT.out.2 HGR2.out.size) (fun e => (HNE.out.2 e.symm).elim)).trans (HGR2.out.block g HLT.out.2)⟩)
      refine hK _ _ (fun _ => ⟨hg_.block gp (Nat.lt_of_lt_of_le HLT.out.1 HGR2.out.size) (fun e => (HNE.out.1 e.symm).elim), hg_.block g (Nat.lt_of_lt_of_le HLT.out.2 HGR2.out.size) (fun e => (HNE.out.2 e.symm).elim)⟩) ?_
      clear hK K
      have HPB3 := Lib.hid (HPB2.out.grown hg_ (fun e => (HNE.out.2 e.symm).elim))
      have HAP := Lib.hid (pen_app2 (A' := A3) (c' := c3) HPB2.out HPO2.out (fun k hk => HKK.out w2_ HGR2.out k hk) HNE.out.2 (bnat_s n (by omega)) ho_ hg_ (fun b hb => hA_.elim (fun h => .inl (h.symm.trans hb)) (fun h => .inr (Nat.le_of_eq (Option.some.inj (h.symm.trans hb))))))
      have HKO := Lib.hid (keeps_own HPO2.out hg_)
      clear ho_ hg_ hA_
      repeat (first | (refine pl_calm rfl rfl (by first | exact wanted_none rfl | (go_simp; done) | rfl) (fun w_ => by first | (go_simp; rfl) | (go_simp; done) | rfl) (fun K hK => ?_); go_simp; refine hK _ _ ?_; clear hK K) )
      refine pl_act rfl (by exact wanted_none rfl) (fun K hK => ?_)
      have hcl := HPB3.out.at_ (i := 0) rfl
      have hfz := HPB3.out.frozen 0
      go_wp2_with fail
      refine hK _ _ (fun h => by cases h) ?_
      clear hK K hcl hfz
      refine pl_done ?_
      have HK5 := Lib.hid (HKR_.out.trans ((Kept.of_grow HGR2.out (fun k hk => (HKK.out w_ (Grow.refl _) k hk).1)).trans HAP.out.2 |>.mono (fun k hk => .inl (.inl hk))))
      have HP5 := Lib.hid HAP.out.1
      have HE5 := Lib.hid (show ∀ k, ((K k ∨ k = gp) ∨ (w1.heap.size ≤ k ∧ k < wr.heap.size)) → (w3_.setCell ⟨g, 0, none⟩ (.slice A3 (xs.length + 1) c3)).heap[k]? = w_.heap[k]? from fun k hk => (HAP.out.2.block k hk).trans (HGR2.out.block k (HKK.out w_ (Grow.refl _) k hk).1))
      clear HPB HPO HGP HPC HPB2 HPO2 HSL HSZ2 HPB3 HAP HGK HKR_
      generalize w3_.setCell ⟨g, 0, none⟩ (.slice A3 (xs.length + 1) c3) = w5 at *
      obtain ⟨bl, hbl1, hbl2, hbl3⟩ : ∃ bl, (1 ≤ n → A = some ⟨bl, 0, none⟩) ∧ ((K bl ∨ bl = gp) ∨ (w1.heap.size ≤ bl ∧ bl < wr.heap.size)) ∧ ∀ j y, ys[j]? = some y → w_.cell? ⟨bl, j, none⟩ = some (B y) := by
        by_cases h1 : 1 ≤ n
        · obtain ⟨b, rfl, hb1, _, _⟩ := own_form HOR.out (by omega)
          obtain ⟨_, hbe, _, hb2, _⟩ := own_form HOR.out (by omega)
          cases hbe
          refine ⟨b, fun _ => rfl, .inr ⟨hb1, hb2⟩, fun j y hj => ?_⟩
          have h := World.ownsRow.cellAt HOR_.out j (by have := (List.getElem?_eq_some_iff.1 hj).1; have := HYL.out; omega)
          rw [h, List.getElem?_map, hj]; rfl
        · refine ⟨gp, fun h => absurd h h1, .inl (.inr rfl), fun j y hj => ?_⟩
          have := (List.getElem?_eq_some_iff.1 hj).1; have := HYL.out; omega
      have HBL1 := Lib.hid hbl1; have HBL2 := Lib.hid hbl2
      have HRD := Lib.hid (show ∀ j y, ys[j]? = some y → w5.cell? ⟨bl, j, none⟩ = some (B y) from fun j y hj => (World.cell?_of_block (HE5.out bl hbl2)).trans (hbl3 j y hj))
      have HX5 := Lib.hid (show Blk w5 gp 97 [.pointer (some ⟨g, 0, none⟩)] from (HE5.out gp (.inl (.inr rfl))).trans (HXR.out.grow HZ_.out))
      clear hbl1 hbl2 hbl3 HE5 HOR HOR_ HXR HZ_ HGR2 HNE HLT
      go_wp2_with fail
      refine (back_any _ _ _ _).mono ?_
      rintro e w6 ⟨rfl, hc1, hs6, hb6⟩
      obtain ⟨Bs, hBs⟩ : ∃ Bs, Bs = w5.heap.size := ⟨_, rfl⟩
      rw [← hBs] at hc1 hs6 ⊢
      have HC1 := Lib.hid hc1
      have HP6 := Lib.hid (HP5.out.more (K' := fun k => ((K k ∨ k = gp) ∨ (w1.heap.size ≤ k ∧ k < wr.heap.size)) ∨ k = Bs) hb6 (fun j hj => hj.imp_right (fun e => by omega)))
      have HX6 := Lib.hid (HX5.out.grow hb6)
      have HK6 := Lib.hid (HK5.out.trans (Kept.of_grow hb6 (fun k hk => Nat.lt_of_lt_of_le (HK0.out k hk) HK5.out.size)))
      have hblt : bl < w5.heap.size := by obtain ⟨_, _, _, _, h3, _⟩ := HP5.out; exact (h3 bl HBL2.out).1
      have HRD6 := Lib.hid (show ∀ j y, ys[j]? = some y → w6.cell? ⟨bl, j, none⟩ = some (B y) from fun j y hj => (hb6.cell (p := ⟨bl, j, none⟩) (by show bl < _; exact hblt)).trans (HRD.out j y hj))
      have HS6 := Lib.hid (show Bs < w6.heap.size ∧ bl < w6.heap.size by omega)
      have HKL6 := Lib.hid (show ∀ k, (((K k ∨ k = gp) ∨ (w1.heap.size ≤ k ∧ k < wr.heap.size)) ∨ k = Bs) → k < w6.heap.size from fun k hk => by obtain ⟨_, _, _, _, h3, _⟩ := HP6.out; exact (h3 k hk).1)
      clear hc1 hs6 hb6 hBs hblt HP5 HX5 HK5 HRD
      dsimp only
      repeat' (first | go_values | go_skip | go_guarded | go_step | go_upon | go_back)
      obtain ⟨w0, rfl⟩ : ∃ w0 : World, w0 = w6 := ⟨_, rfl⟩
      refine wpIn_wide.1 (wpIn_rangeFunc_ownF (F := Fence.wide) (n := 10) rfl (by omega) (gf := 47) (lb := #[.pointer (some ⟨Bs, 0, none⟩)]) rfl trivial (enters_of Try.func47 (by kernel_rfl) rfl)
        (back1_stops 9 (by omega) Bs bl n c A ys w0 HBL1.out HYL.out hyc.out (by omega) HS6.out.1 HS6.out.2 HC1.out HRD6.out)
        (fun h1 h2 => ⟨h2.1.trans h1.1, h2.2.trans h1.2⟩) (fun V l o o' hl _ _ _ => ⟨World.putObj_heap_other (by have := HS6.out; omega), World.putObj_heap_other (by have := HS6.out; omega)⟩) (Below.refl _ _) (fun _ => rfl)
        (fun pre V => Hid (PenAt V (fun k => ((K k ∨ k = gp) ∨ (w1.heap.size ≤ k ∧ k < wr.heap.size)) ∨ k = Bs) g (xs ++ [UInt8.ofNat n] ++ pre.map (fun x => nthB ys x.val))) ∧ Hid (Kept (fun k => ((K k ∨ k = gp) ∨ (w1.heap.size ≤ k ∧ k < wr.heap.size)) ∨ k = Bs) w0 V))
        (fun _ _ _ => False)
        (fun s V V' row hs hg hr => ⟨hs.1.out.kept hg hr, hs.2.out.trans (Kept.of_grown hg (fun k hk => ⟨Nat.lt_of_lt_of_le (HKL6.out k hk) hs.2.out.size, fun e => by have := (hr k e).1; have := HKL6.out k hk; omega⟩))⟩)
        (fun _ _ _ _ _ hs _ _ => hs)
        ⟨(show PenAt w0 _ g (xs ++ [UInt8.ofNat n] ++ []) by rw [List.append_nil]; exact HP6.out), Kept.refl _ _⟩
        ?A ?assign ?body ?done ?stop)
      case assign =>
        intro l x V K hK
        gi_wp2
        exact hK
      case stop =>
        rintro D c pre V _ _ h _
        exact h.elim
      case body =>
        rintro l pre x V ⟨hp, hk⟩ hlen
        have HQ := Lib.hid (show (xs ++ [UInt8.ofNat n] ++ pre.map (fun x => nthB ys x.val)).length ≤ 1000020 by rw [List.length_append, List.length_append, List.length_map]; simp only [List.length_cons, List.length_nil]; omega)
        obtain ⟨xs2, hxs2⟩ : ∃ xs2, xs2 = xs ++ [UInt8.ofNat n] ++ pre.map (fun x => nthB ys x.val) := ⟨_, rfl⟩
        rw [← hxs2] at hp HQ
        have hp0 := hp
        have HX2 := Lib.hid hxs2
        have HQ2 := HQ.out
        have HX0 := Lib.hid (show Blk V gp 97 [.pointer (some ⟨g, 0, none⟩)] from (hk.out.block gp (.inl (.inl (.inr rfl)))).trans HX6.out)
        clear hxs2
        repeat' (first | (with_reducible refine wpIn_plan (id := 8) (Kp2 gp g) [1, 1, 0, 0, 1, 0, 4, 4, 0, 0, 3] (.get 0 (.get 1 (.get 2 (.get 3 (.get 4 (.get 5 (.act 6 (.act 7 (.get 8 (.get 9 (.act 10 .done))))))))))) (by kernel_rfl) (by kernel_rfl) (by kernel_rfl) (kp2_refl gp g) kp2_trans ?_) | go_values | gi_guarded | gi_step | gi_upon)
        intro w_ hd_
        have hdg := hd_.grow
        obtain ⟨Ap2, cp2, hq1, hq2, hq3, hq4⟩ := hp.out.grow hdg
        have HPB := Lib.hid hq1
        have HPO := Lib.hid hq2
        have HGP := Lib.hid (show w_.cell? ⟨gp, 0, none⟩ = some (.pointer (some ⟨g, 0, none⟩)) from (HX0.out.grow hdg).at_ rfl)
        have HPC := Lib.hid (show w_.cell? ⟨g, 0, none⟩ = some (.slice Ap2 xs2.length cp2) from hq1.at_ rfl)
        have HLT := Lib.hid (show gp < w_.heap.size ∧ g < w_.heap.size from ⟨(HX0.out.grow hdg).lt, hq1.lt⟩)
        have HNE := Lib.hid (show Ap2.map Addr.block ≠ some gp ∧ Ap2.map Addr.block ≠ some g from ⟨(hq3 gp (.inl (.inl (.inr rfl)))).2.2, hq4⟩)
        have HKK := Lib.hid (show ∀ w2, Grow w_ w2 → ∀ k, (((K k ∨ k = gp) ∨ (w1.heap.size ≤ k ∧ k < wr.heap.size)) ∨ k = Bs) → k < w2.heap.size ∧ k ≠ g ∧ Ap2.map Addr.block ≠ some k from fun w2 hg k hk => ⟨Nat.lt_of_lt_of_le (hq3 k hk).1 hg.size, (hq3 k hk).2⟩)
        have HZV := Lib.hid hdg
        clear hq1 hq2 hq3 hq4 hd_ hdg hp
        repeat (first | (refine pl_calm rfl rfl (by first | exact wanted_none rfl | (go_simp; done) | rfl) (fun w_ => by first | (go_simp; rfl) | (go_simp; done) | rfl) (fun K hK => ?_); go_simp; refine hK _ _ ?_; clear hK K) | (refine pl_loadF rfl rfl (by first | exact wanted_none rfl | (go_simp; done) | rfl) rfl (by first | rfl | (go_simp; rfl)) (by kernel_rfl) HGP.out (fun w2_ h => h.1) (fun K hK => ?_); go_simp; refine hK _ _ ?_; clear hK K) | (refine pl_loadF rfl rfl (by first | exact wanted_none rfl | (go_simp; done) | rfl) rfl (by first | rfl | (go_simp; rfl)) (by kernel_rfl) HPC.out (fun w2_ h => h.2) (fun K hK => ?_); go_simp; refine hK _ _ ?_; clear hK K))
        refine pl_act rfl (by exact wanted_none rfl) (fun K hK => ?_)
        go_wp2_with fail
        generalize hw_ : World.alloc w_ _ = w2_
        obtain ⟨hX_, hb_, hs_⟩ := alloc_eq hw_
        refine hK _ _ (fun _ => ⟨hb_.block gp HLT.out.1, hb_.block g HLT.out.2⟩) ?_
        clear hK K
        have HPB2 := Lib.hid (HPB.out.grow hb_)
        have HPO2 := Lib.hid (HPO.out.grow hb_)
        have HSL := Lib.hid (Blk.sl (sz := 1) (n := 1) hX_ rfl)
        have HSZ2 := Lib.hid hs_
        have HGR2 := Lib.hid hb_
        clear hX_ hb_ hs_ hw_
        refine pl_act rfl (by exact wanted_none rfl) (fun K hK => ?_)
        refine wpl_apps rfl rfl el_u8 HPO2.out rfl HSL.out rfl (fun u hu => by simp only [List.mem_cons, List.not_mem_nil, or_false] at hu; rw [hu]; rfl) (by omega) (by omega) (Nat.zero_le _) ?_
        intro A3 c3 w3_ ho_ hg_ hA_
        go_wp2_with fail
        have HGK := Lib.hid (show Kp2 gp g w_ w3_ from ⟨(hg_.block gp (Nat.lt_of_lt_of_le HLT.out.1 HGR2.out.size) (fun e => (HNE.out.1 e.symm).elim)).trans (HGR2.out.block gp HLT.out.1), (hg_.block g (Nat.lt_of_lt_of_le HLT.out.2 HGR2.out.size) (fun e => (HNE.out.2 e.symm).elim)).trans (HGR2.out.block g HLT.out.2)⟩)
        refine hK _ _ (fun _ => ⟨hg_.block gp (Nat.lt_of_lt_of_le HLT.out.1 HGR2.out.size) (fun e => (HNE.out.1 e.symm).elim), hg_.block g (Nat.lt_of_lt_of_le HLT.out.2 HGR2.out.size) (fun e => (HNE.out.2 e.symm).elim)⟩) ?_
        clear hK K
        have HPB3 := Lib.hid (HPB2.out.grown hg_ (fun e => (HNE.out.2 e.symm).elim))
        have HAP := Lib.hid (pen_app2 (A' := A3) (c' := c3) HPB2.out HPO2.out (fun k hk => HKK.out w2_ HGR2.out k hk) HNE.out.2 (rfl) ho_ hg_ (fun b hb => hA_.elim (fun h => .inl (h.symm.trans hb)) (fun h => .inr (Nat.le_of_eq (Option.some.inj (h.symm.trans hb))))))
        have HKO := Lib.hid (keeps_own HPO2.out hg_)
        clear ho_ hg_ hA_
        repeat (first | (refine pl_calm rfl rfl (by first | exact wanted_none rfl | (go_simp; done) | rfl) (fun w_ => by first | (go_simp; rfl) | (go_simp; done) | rfl) (fun K hK => ?_); go_simp; refine hK _ _ ?_; clear hK K) )
        refine pl_act rfl (by exact wanted_none rfl) (fun K hK => ?_)
        have hcl := HPB3.out.at_ (i := 0) rfl
        have hfz := HPB3.out.frozen 0
        go_wp2_with fail
        refine hK _ _ (fun h => by cases h) ?_
        clear hK K hcl hfz
        refine pl_done ?_
        show KeepsOthers V _ ∧ Kp2 Bs bl V _ ∧ Hid _ ∧ Hid _
        have hk2 := (Kept.of_grow HZV.out (fun k hk => by obtain ⟨_, _, _, _, h3, _⟩ := hp0.out; exact (h3 k hk).1)).trans ((Kept.of_grow HGR2.out (fun k hk => (HKK.out w_ (Grow.refl _) k hk).1)).trans HAP.out.2)
        refine ⟨((keeps_of_below HZV.out).trans (keeps_of_below HGR2.out)).trans (HKO.out.trans (KeepsOthers.setCell _ _ _)), ⟨hk2.block Bs (.inr rfl), hk2.block bl (.inl HBL2.out)⟩, ?_, hk.out.trans hk2⟩
        show PenAt _ _ g (xs ++ [UInt8.ofNat n] ++ (pre ++ [x]).map (fun x => nthB ys x.val))
        rw [List.map_append, ← List.append_assoc, ← HX2.out]; exact HAP.out.1
      case done =>
        rintro D zs V hD hS ⟨hp, hk⟩ hK
        go_wp2_with fail
        refine ⟨by simp, .inl ⟨_, _, rfl, run_takeDeferred hK, ?_⟩⟩
        have hgo := grownBy_putObj' V D (.deferred none)
        have hnc : ∀ r, some D = some r → w0.heap.size ≤ r ∧ ∃ o : Obj, V.heap[r]? = some o ∧ o.isCells = false := fun r e => by cases e; exact ⟨hD, _, hK, rfl⟩
        have hpen := (hp.out.kept hgo hnc).less (K' := K) (fun k hk => .inl (.inl (.inl hk)))
        have hbytes : xs ++ [UInt8.ofNat n] ++ zs.map (fun x => nthB ys x.val) = xs ++ numB N := by
          rw [List.append_assoc]; congr 1
          rw [numB_eq, HYS.out, ← HNL.out, ← num_rev ys, HYL.out, ← hS, List.map_map]; rfl
        rw [hbytes] at hpen
        have hkk := (HK6.out.trans (hk.out.mono (fun k hk => .inl (.inl (.inl hk))))).trans (Kept.of_grown hgo (fun k hkk => by
          have h1 := HKL6.out k (.inl (.inl (.inl hkk)))
          exact ⟨Nat.lt_of_lt_of_le h1 hk.out.size, fun e => by cases e; omega⟩))
        exact ⟨_, results_none rfl _ _ _, rfl, hpen, hkk⟩
end Go.Proofs.Ytphmefhnffoafaa

/- Contracts: a copy of bytes, the pen's Bytes and Id, the document's Num. -/
namespace Go.Proofs.Ytphmefhnffoafaa
open Go.RowKit Go.Shelf
set_option linter.unusedVariables false

theorem own_cap1 {w : World} {base n c : Nat} {A : Option Addr} {xs : List Value} (h : w.ownsRow base 5 1 (.slice A n c) n xs) : n ≤ c := by
  rcases Nat.eq_zero_or_pos n with h0 | h0
  · omega
  · obtain ⟨_, _, _, _, hc⟩ := own_form h h0; exact hc
theorem run_nil_u8 (w : World) (a : Option Addr) (n c n' c' : Nat) : (binOp .eql 22 (.slice a n c) (.slice none n' c')).run Try.prog w = .ok (.bool a.isNone) w := Lib.run_eql_slice_nil w _ _ a n c n' c' Try.underlying22
set_option maxHeartbeats 1000000 in
theorem bclone_any (A : Option Addr) (n c : Nat) (bs : List UInt8) (w : World) (hs : Sl w w.heap.size 1 A n (bs.map B)) (hn : n ≤ 1000000) :
    Calls Try.prog 25 #[.slice A n c] w fun e w' => ∃ A' c', e = .returned (.slice A' n c') ∧ OwnAt w' w.heap.size A' n c' (bs.map B) ∧ n ≤ c' ∧ Grow w w' := by
  have HS := Lib.hid hs
  have qT := run_nil_u8
  cases A with
  | none =>
    obtain rfl : n = 0 := by
      rcases Nat.eq_zero_or_pos n with h0 | h0
      · exact h0
      · obtain ⟨b, off, u, h1, _⟩ := hs.at_ h0; cases h1
    have hb0 : bs = [] := by have := hs.len; simpa using this
    subst hb0
    clear hs
    go_enter Try.func25, Try.ntmps25
    go_wp2
    go_ret
    exact ⟨none, 0, rfl, World.ownsRow_nil _ _ _ _, Nat.le_refl _, Grow.refl _⟩
  | some ad =>
    have HN0 := Lib.hid (World.ownsRow_lit (base := w.heap.size) (e := 5) (size := 1) w #[] 0 (Nat.le_refl _) (by simp [maxLen]) rfl)
    have HSA := Lib.hid (hs.alloc (Nat.le_refl _) (.cells #[] 5))
    have HONE := Lib.hid (all_bytes bs)
    clear hs
    go_enter Try.func25, Try.ntmps25
    go_wp2_with (at_builtin; refine wpl_apps rfl rfl el_u8 HN0.out rfl HSA.out rfl HONE.out (by omega) (by omega) (by simp) ?_)
    intro A4 c4 w4 ho hg hA
    have HO := Lib.hid (show OwnAt w4 w.heap.size A4 n c4 (bs.map B) by unfold OwnAt; simpa using ho)
    have HB := Lib.hid (show Grow w w4 from ((Below.refl w.heap.size w).alloc (Nat.le_refl _) (.cells #[] 5)).grown hg (by simp) (by intro k hk; cases hk; exact Nat.le_refl _))
    clear ho hg hA
    try simp only [Nat.zero_add]
    go_wp2_with fail
    go_ret
    exact ⟨A4, c4, rfl, HO.out, own_cap1 HO.out, HB.out⟩
theorem pbytes_any (g : Nat) (K : Nat → Prop) (xs : List UInt8) (w : World) (h : PenAt w K g xs) (hl : xs.length ≤ 1000000) :
    Calls Try.prog 40 #[.pointer (some ⟨g, 0, none⟩)] w fun e w' => ∃ A' c', e = .returned (.slice A' xs.length c') ∧ OwnAt w' w.heap.size A' xs.length c' (xs.map B) ∧ xs.length ≤ c' ∧ Grow w w' := by
  obtain ⟨A, c, h1, h2, h3, h4⟩ := h
  have hc := h1.at_ (i := 0) rfl
  have HO := Lib.hid (Sl.of_own h2)
  clear h1 h2 h3 h4
  go_enter Try.func40, Try.ntmps40
  go_wp2_with fail
  refine (bclone_any A xs.length c xs _ HO.out hl).mono ?_
  rintro e w' ⟨A', c', rfl, h1, h2, h3⟩
  go_wp2_with fail
  go_ret
  exact ⟨A', c', rfl, h1, h2, h3⟩

set_option maxRecDepth 100000 in
set_option maxHeartbeats 1000000 in
theorem pid_any (g : Nat) (K : Nat → Prop) (xs : List UInt8) {ds : List Value} {d : List UInt8} (hd : Dig ds d) (w : World) (h : PenAt w K g xs) (hl : xs.length ≤ 1000000) :
    Calls Try.prog 38 #[.pointer (some ⟨g, 0, none⟩), .agg ds.toArray] w fun e w' => e = .returned (.tuple #[]) ∧ PenAt w' K g (xs ++ d) ∧ Kept K w w' := by
  have HP := Lib.hid h; clear h
  have HD := Lib.hid hd
  have HK0 := Lib.hid (show ∀ k, K k → k < w.heap.size from fun k hk => by obtain ⟨A, c, _, _, h3, _⟩ := HP.out; exact (h3 k hk).1)
  have HB := Lib.hid (Below.refl w.heap.size w)
  clear hd
  obtain ⟨gd, hgd⟩ : ∃ gd, gd = w.heap.size := ⟨_, rfl⟩
  have HG := Lib.hid hgd
  go_enter Try.func38, Try.ntmps38
  go_wp2_with (first | (with_reducible refine wpl_box (o := ⟨some 3, _, _, _, _, _⟩) rfl rfl rfl ?_))
  intro w1 hb1 hbw1 hsz1
  rw [← hgd] at hb1 hsz1 hbw1 ⊢
  have HX := Lib.hid (at_mk hb1 HD.out.len)
  have HP1 := Lib.hid (HP.out.more (K' := fun k => K k ∨ k = gd) (show Grow w w1 by rw [hgd] at hbw1; exact hbw1) (fun j hj => hj.imp_right (fun e => by omega)))
  have HK1 := Lib.hid (Kept.of_grow (show Grow w w1 by rw [hgd] at hbw1; exact hbw1) HK0.out)
  clear hb1 hbw1 hsz1 hgd HP HB
  repeat' (first | (with_reducible refine wp_plan (id := 1) Grow [0, 0, 0, 0, 2, 0, 3, 0, 0, 3] (.get 0 (.get 1 (.get 2 (.get 3 (.get 4 (.get 5 (.act 6 (.get 7 (.get 8 (.act 9 .done)))))))))) (by kernel_rfl) (by kernel_rfl) Grow.refl Grow.trans ?_) | go_values | go_skip | go_guarded | go_step | go_upon | go_back)
  intro w_ hd_
  have hdg := hd_.grow
  obtain ⟨Ap, cp, hq1, hq2, hq3, hq4⟩ := HP1.out.grow hdg
  have HPB := Lib.hid hq1
  have HPO := Lib.hid hq2
  have HPK := Lib.hid hq3
  have HPN := Lib.hid hq4
  have HPC := Lib.hid (show w_.cell? ⟨g, 0, none⟩ = some (.slice Ap xs.length cp) from hq1.at_ rfl)
  have HSL := Lib.hid ((HX.out.grow hdg).sl)
  have HK2 := Lib.hid (HK1.out.trans (Kept.of_grow hdg (fun k hk => Nat.lt_of_lt_of_le (HK0.out k hk) HK1.out.size)))
  have HONE := Lib.hid HD.out.one
  clear hq1 hq2 hq3 hq4 hd_ hdg
  repeat (first | (refine pl_calm rfl rfl (by first | exact wanted_none rfl | (go_simp; done) | rfl) (fun w_ => by first | (go_simp; rfl) | (go_simp; done) | rfl) (fun K hK => ?_); go_simp; refine hK _ _ ?_; clear hK K) | (refine pl_skip rfl (by first | (go_simp; done) | rfl) (fun K hK => ?_); go_simp; refine hK _ _ ?_; clear hK K) | (refine pl_skipa rfl (by first | (go_simp; done) | rfl) (fun K hK => ?_); go_simp; refine hK _ _ ?_; clear hK K) | (refine pl_load rfl rfl (by first | exact wanted_none rfl | (go_simp; done) | rfl) rfl (by first | rfl | (go_simp; rfl)) (by kernel_rfl) (by first | exact HPC.out) (fun K hK => ?_); go_simp; refine hK _ _ ?_; clear hK K) | (refine pl_loadnow rfl rfl (by first | exact wanted_none rfl | (go_simp; done) | rfl) rfl (by first | rfl | (go_simp; rfl)) (by kernel_rfl) (by first | exact HPC.out) (fun K hK => ?_); go_simp; refine hK _ _ ?_; clear hK K))
  refine pl_act rfl (by exact wanted_none rfl) (fun K hK => ?_)
  refine wpl_apps rfl rfl el_u8 HPO.out rfl HSL.out rfl HONE.out (by omega) (by omega) (Nat.zero_le _) ?_
  intro A3 c3 w3_ ho_ hg_ hA_
  have hll : (xs ++ d).length = xs.length + 32 := by rw [List.length_append, HD.out.2]
  have HPB3 := Lib.hid (HPB.out.grown hg_ (fun e => (HPN.out e.symm).elim))
  have HAP := Lib.hid (pen_app (ys := xs ++ d) (A' := A3) (c' := c3) HPB.out HPO.out HPK.out HPN.out (by rw [hll, List.map_append]; have h := HD.out.1; rw [h] at ho_; exact ho_) hg_ (fun b hb => hA_.elim (fun h => .inl (h.symm.trans hb)) (fun h => .inr (Nat.le_of_eq (Option.some.inj (h.symm.trans hb))))))
  rw [hll] at HAP
  clear ho_ hg_ hA_
  go_wp2_with fail
  refine hK _ _ (fun h => by cases h) ?_
  clear hK K
  repeat (first | (refine pl_calm rfl rfl (by first | exact wanted_none rfl | (go_simp; done) | rfl) (fun w_ => by first | (go_simp; rfl) | (go_simp; done) | rfl) (fun K hK => ?_); go_simp; refine hK _ _ ?_; clear hK K) | (refine pl_skip rfl (by first | (go_simp; done) | rfl) (fun K hK => ?_); go_simp; refine hK _ _ ?_; clear hK K) | (refine pl_skipa rfl (by first | (go_simp; done) | rfl) (fun K hK => ?_); go_simp; refine hK _ _ ?_; clear hK K))
  refine pl_act rfl (by exact wanted_none rfl) (fun K hK => ?_)
  have hcl := HPB3.out.at_ (i := 0) rfl
  have hfz := HPB3.out.frozen 0
  go_wp2_with fail
  refine hK _ _ (fun h => by cases h) ?_
  clear hK K hcl hfz
  refine pl_done ?_
  refine bodyPost_end (results_none rfl _ _ _) rfl ?_
  exact ⟨rfl, HAP.out.1.less (fun k hk => .inl hk), HK2.out.trans (HAP.out.2.mono (fun k hk => .inl hk))⟩

theorem shr8 (N q : Nat) : (N : Int) / 2 ^ (8 * q) = ((N / 256 ^ q : Nat) : Int) := by
  have h : ((2 ^ (8 * q) : Nat) : Int) = 2 ^ (8 * q) := by simp
  rw [← h, ← Int.natCast_ediv, Nat.pow_mul]
end Go.Proofs.Ytphmefhnffoafaa

/- Contracts of field.Eye: Fail, Left, take, Num, Text, Id. -/
namespace Go.Proofs.Ytphmefhnffoafaa
open Go.RowKit Go.Shelf
set_option linter.unusedVariables false

def brk (x : Nat) : List PanicEntry := [{ v := .iface 67 (.agg #[.int .i64 (x : Int)]), recovered := false }]
/-- The eye in block g has l ahead of it; its blocks lie in [Lo, Bd). -/
def EyeAt (w : World) (Lo Bd g : Nat) (l : List UInt8) : Prop :=
  ∃ A c, Blk w g 71 [.slice A l.length c] ∧ Sl w Bd 1 A l.length (l.map B) ∧ l.length ≤ c ∧ Lo ≤ g ∧ g < Bd ∧ Bd ≤ w.heap.size ∧ (∀ b, A.map Addr.block = some b → Lo ≤ b ∧ b ≠ g)
def RdAt (w : World) (Lo Bd g : Nat) (A : Option Addr) (bs : List UInt8) : Prop := Sl w Bd 1 A bs.length (bs.map B) ∧ Bd ≤ w.heap.size ∧ (∀ b, A.map Addr.block = some b → Lo ≤ b ∧ b ≠ g)
section
variable {w w' : World} {Lo Bd g : Nat} {l : List UInt8}
theorem EyeAt.keep (h : EyeAt w Lo Bd g l) (hk : ∀ k, Lo ≤ k → k < Bd → w'.heap[k]? = w.heap[k]?) (hs : w.heap.size ≤ w'.heap.size) : EyeAt w' Lo Bd g l := by
  obtain ⟨A, c, h1, h2, h3, h4, h5, h6, h7⟩ := h
  refine ⟨A, c, (hk g h4 h5).trans h1, ⟨h2.1, fun hn => ?_⟩, h3, h4, h5, by omega, h7⟩
  obtain ⟨b, off, e, hb, hc⟩ := h2.2 hn
  refine ⟨b, off, e, hb, fun j u hu => ?_⟩
  exact (World.cell?_of_block (a := ⟨b, off + j, none⟩) (hk b (h7 b (by rw [e]; rfl)).1 hb)).trans (hc j u hu)
theorem EyeAt.grow (h : EyeAt w Lo Bd g l) (k : Grow w w') : EyeAt w' Lo Bd g l :=
  h.keep (fun i _ hi => k.block i (by obtain ⟨_, _, _, _, _, _, _, h6, _⟩ := h; omega)) k.size
theorem EyeAt.off {q : Nat} (h : EyeAt w Lo Bd g l) (k : w.grownBy w' (some q)) (hq : q < Lo ∨ Bd ≤ q) : EyeAt w' Lo Bd g l :=
  h.keep (fun i h1 h2 => k.block i (by obtain ⟨_, _, _, _, _, _, _, h6, _⟩ := h; omega) (fun e => by injection e with e; omega)) k.size
theorem EyeAt.lt (h : EyeAt w Lo Bd g l) : g < w.heap.size := by obtain ⟨_, _, _, _, _, _, h5, h6, _⟩ := h; omega
theorem EyeAt.lo (h : EyeAt w Lo Bd g l) : Lo ≤ g := by obtain ⟨_, _, _, _, _, h4, _⟩ := h; exact h4
theorem EyeAt.bd (h : EyeAt w Lo Bd g l) : g < Bd ∧ Bd ≤ w.heap.size := by obtain ⟨_, _, _, _, _, _, h5, h6, _⟩ := h; exact ⟨h5, h6⟩
theorem RdAt.sl {A : Option Addr} {bs : List UInt8} (h : RdAt w Lo Bd g A bs) : Sl w w.heap.size 1 A bs.length (bs.map B) := h.1.more h.2.1
theorem grownBy_trans {a b c : World} {r : Option Nat} (h : a.grownBy b r) (k : b.grownBy c r) : a.grownBy c r :=
  ⟨k.os.trans h.os, k.tape.trans h.tape, k.output.trans h.output, Nat.le_trans h.size k.size, fun i hi hn => (k.block i (Nat.lt_of_lt_of_le hi h.size) hn).trans (h.block i hi hn)⟩
theorem grownBy_refl (a : World) (r : Option Nat) : a.grownBy a r := ⟨rfl, rfl, rfl, Nat.le_refl _, fun _ _ _ => rfl⟩
theorem grownBy_grow {a b c : World} {r : Option Nat} (h : a.grownBy b r) (k : Grow b c) : a.grownBy c r := grownBy_trans h (grown_of_below k r)
/-- A block that was not there, written. -/
theorem grownBy_new {a b c : World} {r : Option Nat} {q : Nat} (h : a.grownBy b r) (k : b.grownBy c (some q)) (hq : a.heap.size ≤ q) : a.grownBy c r :=
  ⟨k.os.trans h.os, k.tape.trans h.tape, k.output.trans h.output, Nat.le_trans h.size k.size, fun i hi hn => (k.block i (Nat.lt_of_lt_of_le hi h.size) (fun e => by injection e with e; omega)).trans (h.block i hi hn)⟩
end

theorem efail_any (g x : Nat) (hx : x ≠ 0) (w : World) : Calls Try.prog 42 #[.pointer (some ⟨g, 0, none⟩), .int .i64 (x : Int)] w fun e w' => e = .panicked (brk x) ∧ w = w' := by
  have q1 : ((x : Int) != 0) = true := by simp; omega
  unfold brk
  go_enter Try.func42, Try.ntmps42
  go_wp2
  exact ⟨rfl, rfl, rfl⟩
theorem eleft_any {Lo Bd g : Nat} {l : List UInt8} (w : World) (h : EyeAt w Lo Bd g l) : Calls Try.prog 26 #[.pointer (some ⟨g, 0, none⟩)] w fun e w' => e = .returned (.int .i64 (l.length : Int)) ∧ w = w' := by
  obtain ⟨A, c, h1, h2, h3, h4, h5, h6, h7⟩ := h
  have c0 := h1.at_ (i := 0) rfl
  clear h1 h2 h7
  go_enter Try.func26, Try.ntmps26
  go_wp2
  go_ret
  exact ⟨rfl, rfl⟩
theorem take_no {Lo Bd g n : Nat} {l : List UInt8} (w : World) (h : EyeAt w Lo Bd g l) (hn : l.length < n) : Calls Try.prog 41 #[.pointer (some ⟨g, 0, none⟩), .int .i64 (n : Int)] w fun e w' => e = .panicked (brk 2) ∧ w = w' := by
  obtain ⟨A, c, h1, h2, h3, h4, h5, h6, h7⟩ := h
  have c0 := h1.at_ (i := 0) rfl
  clear h1 h2 h7 h3 h4 h5 h6
  have d1 : decide ((l.length : Int) < (n : Int)) = true := by simpa using hn
  go_enter Try.func41, Try.ntmps41
  go_wp2_with fail
  refine (efail_any g 2 (by omega) _).mono ?_
  rintro e w' ⟨rfl, rfl⟩
  go_wp2_with fail
  exact ⟨rfl, rfl, rfl⟩
theorem cut_map {w : World} {Bd n k : Nat} {A : Option Addr} {xs : List Value} (h : Sl w Bd 1 A n xs) (hk : k ≤ n) : Sl w Bd 1 (A.map (fun x => x.add k)) (n - k) (xs.drop k) := by
  refine ⟨by rw [List.length_drop, h.len]; omega, fun hn => ?_⟩
  obtain ⟨b, off, rfl, hb, hc⟩ := h.2 (by omega)
  refine ⟨b, off + k, ?_, hb, fun j u hu => ?_⟩
  · simp only [Option.map_some, Addr.add]
    split <;> simp_all
  · rw [Nat.add_assoc]
    exact hc _ u (by rw [← hu, List.getElem?_drop])
theorem map_block {A : Option Addr} {k : Nat} : (A.map (fun x => x.add k)).map Addr.block = A.map Addr.block := by
  cases A with
  | none => rfl
  | some a => simp only [Option.map_some, Addr.add]; split <;> rfl
theorem Sl.first {w : World} {Bd n k : Nat} {A : Option Addr} {xs : List Value} (h : Sl w Bd 1 A n xs) (hk : k ≤ n) : Sl w Bd 1 A k (xs.take k) := by
  refine ⟨by rw [List.length_take, h.len]; omega, fun hn => ?_⟩
  obtain ⟨b, off, rfl, hb, hc⟩ := h.2 (by omega)
  refine ⟨b, off, rfl, hb, fun j u hu => hc _ u ?_⟩
  rw [List.getElem?_take] at hu
  split at hu
  · exact hu
  · cases hu
theorem eye_cut {w : World} {Lo Bd g n c c' : Nat} {l : List UInt8} {A A' : Option Addr} (h1 : Blk w g 71 [.slice A l.length c]) (h2 : Sl w Bd 1 A l.length (l.map B)) (h4 : Lo ≤ g) (h5 : g < Bd) (h6 : Bd ≤ w.heap.size) (h7 : ∀ b, A.map Addr.block = some b → Lo ≤ b ∧ b ≠ g)
    (hn : n ≤ l.length) (hc : l.length - n ≤ c') (hA : A' = A.map (fun x => x.add n) ∨ (A' = A ∧ l.length = n)) :
    RdAt (w.setCell ⟨g, 0, none⟩ (.slice A' (l.length - n) c')) Lo Bd g A (l.take n) ∧ EyeAt (w.setCell ⟨g, 0, none⟩ (.slice A' (l.length - n) c')) Lo Bd g (l.drop n) ∧ w.grownBy (w.setCell ⟨g, 0, none⟩ (.slice A' (l.length - n) c')) (some g) := by
  have hs := grown_set w g 0 (.slice A' (l.length - n) c')
  have keep : ∀ {A : Option Addr} {m : Nat} {xs : List Value}, Sl w Bd 1 A m xs → (∀ b, A.map Addr.block = some b → Lo ≤ b ∧ b ≠ g) → Sl (w.setCell ⟨g, 0, none⟩ (.slice A' (l.length - n) c')) Bd 1 A m xs := by
    intro A m xs h hb
    refine ⟨h.1, fun hm => ?_⟩
    obtain ⟨b, off, e, hB, hc⟩ := h.2 hm
    refine ⟨b, off, e, hB, fun j u hu => ?_⟩
    exact (World.cell?_of_block (a := ⟨b, off + j, none⟩) (hs.block b (by omega) (fun e2 => by injection e2 with e2; exact (hb b (by rw [e]; rfl)).2 e2))).trans (hc j u hu)
  have hl1 : (l.take n).length = n := by rw [List.length_take]; omega
  have hl2 : (l.drop n).length = l.length - n := List.length_drop
  have hA7 : ∀ b, A'.map Addr.block = some b → Lo ≤ b ∧ b ≠ g := by
    intro b hb
    rcases hA with rfl | ⟨rfl, _⟩
    · rw [map_block] at hb; exact h7 b hb
    · exact h7 b hb
  refine ⟨⟨?_, Nat.le_trans h6 hs.size, h7⟩, ⟨A', c', ?_, ?_, by rw [hl2]; exact hc, h4, h5, Nat.le_trans h6 hs.size, hA7⟩, hs⟩
  · rw [hl1, List.map_take]
    exact keep (h2.first hn) h7
  · have := h1.set_ 0 (.slice A' (l.length - n) c')
    rw [hl2]
    simpa using this
  · rw [hl2, List.map_drop]
    rcases hA with rfl | ⟨rfl, e⟩
    · exact keep (cut_map h2 hn) hA7
    · rw [e, Nat.sub_self, List.drop_of_length_le (by rw [List.length_map]; omega)]
      exact Sl.nil
theorem take_yes {Lo Bd g n : Nat} {l : List UInt8} (w : World) (h : EyeAt w Lo Bd g l) (hn : n ≤ l.length) : Calls Try.prog 41 #[.pointer (some ⟨g, 0, none⟩), .int .i64 (n : Int)] w fun e w' => ∃ A', e = .returned (.slice A' n n) ∧ RdAt w' Lo Bd g A' (l.take n) ∧ EyeAt w' Lo Bd g (l.drop n) ∧ w.grownBy w' (some g) := by
  obtain ⟨A, c, h1, h2, h3, h4, h5, h6, h7⟩ := h
  have c0 := h1.at_ (i := 0) rfl
  have f0 := h1.frozen 0
  have H1 := Lib.hid h1; have H2 := Lib.hid h2; have H7 := Lib.hid h7
  clear h1 h2 h7
  have d1 : decide ((l.length : Int) < (n : Int)) = false := by simp; omega
  go_enter Try.func41, Try.ntmps41
  go_wp2_with fail
  · go_ret
    exact ⟨A, rfl, eye_cut H1.out H2.out h4 h5 h6 H7.out hn (by omega) (.inr ⟨rfl, by omega⟩)⟩
  · go_ret
    exact ⟨A, rfl, eye_cut H1.out H2.out h4 h5 h6 H7.out hn (by omega) (.inl rfl)⟩
end Go.Proofs.Ytphmefhnffoafaa

/- Contracts of field.Eye: Num, Text, Id. -/
namespace Go.Proofs.Ytphmefhnffoafaa
open Go.RowKit Go.Shelf
set_option linter.unusedVariables false
theorem takeNum_nil {Lo Bd g most : Nat} (w : World) (h : EyeAt w Lo Bd g []) : Calls Try.prog 27 #[.pointer (some ⟨g, 0, none⟩), .int .u64 (most : Int)] w fun e w' => e = .panicked (brk 2) ∧ w = w' := by
  have H := Lib.hid h
  clear h
  go_enter Try.func27, Try.ntmps27
  go_wp2_with fail
  refine (take_no (n := 1) _ H.out (by simp)).mono ?_
  rintro e w' ⟨rfl, rfl⟩
  go_wp2_with fail
  exact ⟨rfl, rfl, rfl⟩
theorem shl_u64 (v : Nat) (h : v * 256 ≤ 18446744073709551615) : IntKind.u64.wrap ((v : Int) * 2 ^ 8) = ((v * 256 : Nat) : Int) := by
  have e : (v : Int) * 2 ^ 8 = ((v * 256 : Nat) : Int) := by simp
  rw [e, IntKind.wrap_u64]; omega
theorem or_u64 (v c : Nat) (hc : c < 256) (hv : v * 256 + 255 ≤ 18446744073709551615) : bits BinOp.or IntKind.u64 ((v : Int) * 256) (c : Int) = ((v * 256 + c : Nat) : Int) := by
  have h : Op.intBits .or .u64 ((v : Int) * 256) (c : Int) = pure (.int .u64 (IntKind.u64.wrap (((BitVec.ofInt 64 ((v : Int) * 256) ||| BitVec.ofInt 64 (c : Int)).toNat : Nat) : Int))) := rfl
  rw [intBits_or] at h
  injection h with h
  injection h with _ h
  rw [h]
  have e1 : (BitVec.ofInt 64 ((v : Int) * 256)).toNat = 2 ^ 8 * v := by rw [BitVec.toNat_ofInt]; omega
  have e2 : (BitVec.ofInt 64 (c : Int)).toNat = c := by rw [BitVec.toNat_ofInt]; omega
  rw [BitVec.toNat_or, e1, e2, ← Nat.two_pow_add_eq_or_of_lt (by omega), IntKind.wrap_u64]
  omega
theorem conv_u64' {n : Nat} (h : n ≤ 18446744073709551615) : IntKind.u64.wrap (n : Int) = (n : Int) := by rw [IntKind.wrap_u64]; omega
def EyeR {α : Type} (r : Rd α) (val : α → Value) (w w' : World) (Lo Bd g : Nat) (e : Ending) : Prop := w.grownBy w' (some g) ∧ match r with
    | .error x => e = .panicked (brk x)
    | .ok (v, l') => e = .returned (val v) ∧ EyeAt w' Lo Bd g l'
theorem EyeR.err {α : Type} {r : Rd α} {val : α → Value} {w w' : World} {Lo Bd g : Nat} {e : Ending} {x : Nat} (h : r = .error x) (he : e = .panicked (brk x)) (hg : w.grownBy w' (some g)) : EyeR r val w w' Lo Bd g e := by
  subst h; exact ⟨hg, he⟩
theorem EyeR.ok {α : Type} {r : Rd α} {val : α → Value} {w w' : World} {Lo Bd g : Nat} {e : Ending} {v : α} {l' : List UInt8} (h : r = .ok (v, l')) (he : e = .returned (val v)) (hE : EyeAt w' Lo Bd g l') (hg : w.grownBy w' (some g)) : EyeR r val w w' Lo Bd g e := by
  subst h; exact ⟨hg, he, hE⟩
theorem EyeR.get {α : Type} {r : Rd α} {val : α → Value} {w w' : World} {Lo Bd g : Nat} {e : Ending} (h : EyeR r val w w' Lo Bd g e) : w.grownBy w' (some g) ∧ ((∃ x, r = .error x ∧ e = .panicked (brk x)) ∨ (∃ v l', r = .ok (v, l') ∧ e = .returned (val v) ∧ EyeAt w' Lo Bd g l')) := by
  obtain ⟨h1, h2⟩ := h
  refine ⟨h1, ?_⟩
  cases r with
  | error x => exact .inl ⟨x, rfl, h2⟩
  | ok p => exact .inr ⟨p.1, p.2, rfl, h2.1, h2.2⟩
set_option maxRecDepth 100000 in
theorem takeNum_cons {Lo Bd g most : Nat} {k : UInt8} {t : List UInt8} (w : World) (h : EyeAt w Lo Bd g (k :: t)) : Calls Try.prog 27 #[.pointer (some ⟨g, 0, none⟩), .int .u64 (most : Int)] w fun e w' => EyeR (numR most (k :: t)) (fun v => .int .u64 (v : Int)) w w' Lo Bd g e := by
  have H := Lib.hid h
  clear h
  obtain ⟨kn, hkn⟩ : ∃ n, n = k.toNat := ⟨_, rfl⟩
  obtain ⟨res, hres⟩ : ∃ r, r = numR most (k :: t) := ⟨_, rfl⟩
  rw [← hres]
  simp only [numR] at hres
  rw [← hkn] at hres
  have HR := Lib.hid hres
  have HK := Lib.hid hkn
  have hk8 : kn < 256 := by rw [hkn]; exact k.toNat_lt
  clear hkn hres
  go_enter Try.func27, Try.ntmps27
  go_wp2_with fail
  refine (take_yes (n := 1) _ H.out (by simp)).mono ?_
  rintro e w1 ⟨A1, rfl, hr1, he1, hg1⟩
  obtain ⟨b1, o1, u1, rfl, hb1, hu1, hc1⟩ := hr1.1.at_ (k := 0) (by simp)
  have hu2 : u1 = .int .u8 (kn : Int) := by
    simp at hu1
    rw [← hu1, HK.out]; rfl
  subst hu2
  rw [Nat.add_zero] at hc1
  have HE1 := Lib.hid (show EyeAt w1 Lo Bd g t from he1)
  have HG1 := Lib.hid hg1
  clear hr1 he1 hg1 hu1 hb1 H
  have qw : IntKind.i64.wrap (kn : Int) = (kn : Int) := IntWalk.i64_in _ (by omega)
  by_cases h8 : 8 < kn
  · have d8 : decide ((8 : Int) < (kn : Int)) = true := by simp; omega
    go_wp2_with fail
    refine (efail_any g 3 (by omega) _).mono ?_
    rintro e w' ⟨rfl, rfl⟩
    go_wp2_with fail
    exact ⟨by first | trivial | rfl, .err (x := 3) (by rw [HR.out, if_pos h8]) rfl HG1.out⟩
  have d8 : decide ((8 : Int) < (kn : Int)) = false := by simp; omega
  by_cases ht : t.length < kn
  · go_wp2_with fail
    refine (take_no _ HE1.out ht).mono ?_
    rintro e w' ⟨rfl, rfl⟩
    go_wp2_with fail
    exact ⟨by first | trivial | rfl, .err (x := 2) (by rw [HR.out, if_neg h8, if_pos ht]) rfl HG1.out⟩
  go_wp2_with fail
  refine (take_yes _ HE1.out (Nat.le_of_not_lt ht)).mono ?_
  rintro e w2 ⟨A2, rfl, hr2, he2, hg2⟩
  obtain ⟨bs, hbs⟩ : ∃ bs, bs = t.take kn := ⟨_, rfl⟩
  rw [← hbs] at hr2
  have hbl : bs.length = kn := by rw [hbs, List.length_take]; omega
  have HBL := Lib.hid hbl
  have HBS := Lib.hid hbs
  have HR2 := Lib.hid (show Sl w2 Bd 1 A2 kn (bs.map B) by rw [← hbl]; exact hr2.1)
  have HE2 := Lib.hid he2
  have HG2 := Lib.hid (grownBy_trans HG1.out hg2)
  clear hr2 he2 hg2 hbl hbs hc1 HE1 HG1 qw d8
  go_wp2_with fail
  go_loopw [6, 22] (fun vv iv wq => ∃ j : Nat, j ≤ kn ∧ iv = .int .i64 j ∧ vv = .int .u64 ((valB (bs.take j) : Nat) : Int) ∧ wq = w2 ∧ Hid (0 < j → bs[0]? ≠ some 0)) (fun _ iv _ => kn - (intOf iv).toNat)
  case atStart => exact ⟨0, Nat.zero_le _, rfl, rfl, rfl, Lib.hid (fun h => by omega)⟩
  case round =>
    obtain ⟨j, hj, rfl, rfl, rfl, hz⟩ := hrel
    by_cases hlt : j < kn
    · obtain ⟨b2, o2, u2, rfl, hb2, hu2, hc2⟩ := HR2.out.at_ hlt
      rw [List.getElem?_map] at hu2
      obtain ⟨c, hcj, rfl⟩ := Option.map_eq_some_iff.1 hu2
      obtain ⟨cn, hcn⟩ : ∃ n, n = c.toNat := ⟨_, rfl⟩
      have hc256 : cn < 256 := by rw [hcn]; exact c.toNat_lt
      have hc3 : wr.cell? ⟨b2, o2 + j, none⟩ = some (.int .u8 (cn : Int)) := by rw [hcn]; exact hc2
      have HC := Lib.hid hcj
      have HCN := Lib.hid hcn
      obtain ⟨v, hv⟩ : ∃ v, v = valB (bs.take j) := ⟨_, rfl⟩
      have HV := Lib.hid hv
      have hv64 : v * 256 + 255 ≤ 18446744073709551615 := by
        have := valB_lt 7 (bs.take j) (by rw [List.length_take]; omega)
        rw [← hv] at this; omega
      rw [← hv]
      clear hu2 hb2 hcj hc2 hcn hv
      obtain ⟨p, hp⟩ : ∃ p, ((j : Int) == 0) = p := ⟨_, rfl⟩
      obtain ⟨q, hq⟩ : ∃ q, ((cn : Int) == 0) = q := ⟨_, rfl⟩
      have HPQ := Lib.hid (show p = true ∧ q = true ↔ j = 0 ∧ c = 0 by
        rw [← hp, ← hq, beq_iff_eq, beq_iff_eq]
        have h1 := HCN.out
        constructor
        · rintro ⟨a, b⟩
          exact ⟨by omega, UInt8.toNat_inj.1 (by show c.toNat = 0; omega)⟩
        · rintro ⟨a, b⟩
          subst b
          exact ⟨by omega, by rw [h1]; rfl⟩)
      have s1 := shl_u64 v (by omega)
      have s2 : IntKind.u64.wrap (cn : Int) = (cn : Int) := by rw [IntKind.wrap_u64]; omega
      cases p with
      | true =>
        cases q with
        | true =>
          go_wp2_with fail
          refine (efail_any g 3 (by omega) _).mono ?_
          rintro e w' ⟨rfl, rfl⟩
          go_wp2_with fail
          have hjc := HPQ.out.1 (by simp)
          refine ⟨by first | trivial | rfl, .err (x := 3) ?_ rfl HG2.out⟩
          have h1 := HC.out
          rw [hjc.1, hjc.2, HBS.out, List.getElem?_take, if_pos (by omega)] at h1
          rw [HR.out, if_neg h8, if_neg ht, if_pos ⟨by omega, h1⟩]
        | false =>
          have hnz : ¬ (j = 0 ∧ c = 0) := fun h => by have := HPQ.out.2 h; simp at this
          have HST := Lib.hid (show bits BinOp.or IntKind.u64 ((v : Int) * 256) (cn : Int) = ((valB (bs.take (j + 1)) : Nat) : Int) by
            rw [or_u64 v cn hc256 hv64, take_snoc HC.out, valB_snoc, ← HV.out, HCN.out])
          have HZ := Lib.hid (show 0 < j + 1 → bs[0]? ≠ some 0 from fun _ h0 => by
            by_cases hj0 : j = 0
            · have h1 := HC.out
              rw [hj0] at h1
              rw [h0] at h1
              injection h1 with h1
              exact hnz ⟨hj0, h1.symm⟩
            · exact hz.out (by omega) h0)
          clear hnz
          go_wp2_with fail
          go_roundw
          case rel => exact ⟨j + 1, by omega, by go_num, by rw [HST.out], by first | trivial | rfl, HZ⟩
          case measure => simp [intOf]; omega
      | false =>
        have hnz : ¬ (j = 0 ∧ c = 0) := fun h => by have := HPQ.out.2 h; simp at this
        have HST := Lib.hid (show bits BinOp.or IntKind.u64 ((v : Int) * 256) (cn : Int) = ((valB (bs.take (j + 1)) : Nat) : Int) by
          rw [or_u64 v cn hc256 hv64, take_snoc HC.out, valB_snoc, ← HV.out, HCN.out])
        have HZ := Lib.hid (show 0 < j + 1 → bs[0]? ≠ some 0 from fun _ h0 => by
          by_cases hj0 : j = 0
          · have h1 := HC.out
            rw [hj0] at h1
            rw [h0] at h1
            injection h1 with h1
            exact hnz ⟨hj0, h1.symm⟩
          · exact hz.out (by omega) h0)
        clear hnz
        go_wp2_with fail
        go_roundw
        case rel => exact ⟨j + 1, by omega, by go_num, by rw [HST.out], by first | trivial | rfl, HZ⟩
        case measure => simp [intOf]; omega
    · obtain rfl : j = kn := by omega
      have hall : bs.take j = bs := List.take_of_length_le (by rw [HBL.out]; omega)
      obtain ⟨v, hv⟩ : ∃ v, v = valB (bs.take j) := ⟨_, rfl⟩
      have HV := Lib.hid (show v = valB (t.take j) by rw [hv, hall, HBS.out])
      have HNZ := Lib.hid (show ¬ (0 < j ∧ t[0]? = some 0) from fun h => by
        have h1 := hz.out h.1
        rw [HBS.out, List.getElem?_take, if_pos h.1] at h1
        exact h1 h.2)
      rw [← hv]
      clear hv hall
      by_cases hm : most < v
      · have d1 : decide ((most : Int) < (v : Int)) = true := by simp; omega
        go_wp2_with fail
        refine (efail_any g 5 (by omega) _).mono ?_
        rintro e w' ⟨rfl, rfl⟩
        go_wp2_with fail
        exact ⟨by first | trivial | rfl, .err (x := 5) (by rw [HR.out, if_neg h8, if_neg ht, if_neg HNZ.out, ← HV.out, if_pos hm]) rfl HG2.out⟩
      · have d1 : decide ((most : Int) < (v : Int)) = false := by simp; omega
        go_wp2_with fail
        go_ret
        exact .ok (by rw [HR.out, if_neg h8, if_neg ht, if_neg HNZ.out, ← HV.out, if_neg hm]) rfl HE2.out HG2.out
theorem enum_any {Lo Bd g most : Nat} {l : List UInt8} (w : World) (h : EyeAt w Lo Bd g l) : Calls Try.prog 27 #[.pointer (some ⟨g, 0, none⟩), .int .u64 (most : Int)] w fun e w' => EyeR (numR most l) (fun v => .int .u64 (v : Int)) w w' Lo Bd g e := by
  cases l with
  | nil =>
    refine (takeNum_nil w h).mono ?_
    rintro e w' ⟨rfl, rfl⟩
    exact .err rfl rfl (grownBy_refl _ _)
  | cons k t => exact takeNum_cons w h
theorem row_id0 : RowT Try.prog 37 32 := ⟨_, Try.underlying37, by kernel_rfl, by kernel_rfl⟩
theorem run_arr32 (a : Option Addr) (w : World) : (Instr.arrayAt 37 (.slice a 32 32)).run Try.prog w = .ok (.pointer a) w := run_arrayAt w _ _ 32 a 32 32 Try.underlying37 (Nat.le_refl _)
set_option maxRecDepth 100000 in
theorem eid_any {Lo Bd g : Nat} {l : List UInt8} (w : World) (h : EyeAt w Lo Bd g l) : Calls Try.prog 28 #[.pointer (some ⟨g, 0, none⟩)] w fun e w' => EyeR (takeR 32 l) (fun d => .agg (d.map B).toArray) w w' Lo Bd g e := by
  have H := Lib.hid h
  clear h
  by_cases hn : l.length < 32
  · go_enter Try.func28, Try.ntmps28
    go_wp2_with (first | (with_reducible refine wpl_alloc (o := ⟨some 2, _, _, _, _, _⟩) rfl rfl zero_id ?_))
    intro w1 hb1 hbw1 hsz1
    have HB1 := Lib.hid hbw1
    have H1 := Lib.hid (H.out.grow hbw1)
    clear hb1 hbw1 hsz1
    go_wp2_with fail
    refine (take_no (n := 32) _ H1.out hn).mono ?_
    rintro e w' ⟨rfl, rfl⟩
    go_wp2_with fail
    exact ⟨by first | trivial | rfl, .err (x := 2) (by unfold takeR; rw [if_neg (by omega)]) rfl (grown_of_below HB1.out _)⟩
  · go_enter Try.func28, Try.ntmps28
    go_wp2_with (first | (with_reducible refine wpl_alloc (o := ⟨some 2, _, _, _, _, _⟩) rfl rfl zero_id ?_))
    intro w1 hb1 hbw1 hsz1
    have HB1 := Lib.hid hb1
    have HBW1 := Lib.hid hbw1
    have H1 := Lib.hid (H.out.grow hbw1)
    clear hb1 hbw1 hsz1
    go_wp2_with fail
    refine (take_yes (n := 32) _ H1.out (by omega)).mono ?_
    rintro e w2 ⟨A2, rfl, hr2, he2, hg2⟩
    have HR2 := Lib.hid hr2
    have HE2 := Lib.hid he2
    have HG2 := Lib.hid hg2
    clear hr2 he2 hg2
    have har := run_arr32 A2 w2
    obtain ⟨b2, o2, rfl, _, hc2⟩ := HR2.out.1.2 (by rw [List.length_take]; omega)
    obtain ⟨ds, hds⟩ : ∃ ds, ds = (l.take 32).map B := ⟨_, rfl⟩
    rw [← hds] at hc2
    have HD := Lib.hid hds
    have HC2 := Lib.hid hc2
    have HL2 := Lib.hid (show ds.length = 32 by rw [hds, List.length_map, List.length_take]; omega)
    have HB2 := Lib.hid (HB1.out.grown HG2.out (fun e => by injection e with e; have := H.out.lt; omega))
    have HQ := Lib.hid (H.out.bd)
    have HOT := Lib.hid (show ∀ u ∈ ds, u.oneCell' = true by rw [hds]; exact all_bytes _)
    clear hc2 hds
    go_wp2_with (first | (with_reducible refine wpl_loadm (o := ⟨some 6, _, _, _, _, _⟩) rfl rfl row_id HC2.out rfl HL2.out ?_) | (with_reducible refine wpl_storeb (o := ⟨none, .store _ _ _, _, _, _, _⟩) rfl rfl row_id HB2.out rfl rfl rfl HL2.out HOT.out ?_))
    intro w3 hb3 hg3 hsz3
    have HB3 := Lib.hid hb3
    have HG3 := Lib.hid (show w.grownBy w3 (some g) from grownBy_new (grownBy_trans (grown_of_below HBW1.out _) HG2.out) hg3 (Nat.le_refl _))
    have HE3 := Lib.hid (HE2.out.off hg3 (.inr HQ.out.2))
    clear hb3 hg3 hsz3
    go_wp2_with fail
    refine ret_cell rfl row_id0 HB3.out rfl HL2.out rfl ?_
    exact .ok (by unfold takeR; rw [if_pos (by omega)]) (by rw [HD.out]) HE3.out HG3.out
/-- The next text. -/
theorem etext_any {Lo Bd g most : Nat} {l : List UInt8} (w : World) (h : EyeAt w Lo Bd g l) (hm : most ≤ 1000000) : Calls Try.prog 29 #[.pointer (some ⟨g, 0, none⟩), .int .i64 (most : Int)] w fun e w' => w.grownBy w' (some g) ∧ ((∃ x, textR most l = .error x ∧ e = .panicked (brk x)) ∨
    (∃ bs l' A c, textR most l = .ok (bs, l') ∧ e = .returned (.slice A bs.length c) ∧ OwnAt w' w.heap.size A bs.length c (bs.map B) ∧ bs.length ≤ c ∧ EyeAt w' Lo Bd g l')) := by
  have H := Lib.hid h
  clear h
  have q1 : max (most : Int) 0 = (most : Int) := by omega
  have q2 : IntKind.u64.wrap (most : Int) = (most : Int) := conv_u64' (by omega)
  obtain ⟨tr, htr⟩ : ∃ r, r = textR most l := ⟨_, rfl⟩
  rw [← htr]
  have HTR := Lib.hid htr
  clear htr
  go_enter Try.func29, Try.ntmps29
  go_wp2_with fail
  refine (enum_any w H.out).mono ?_
  rintro e w1 hr
  obtain ⟨hg1, ⟨x, he, rfl⟩ | ⟨v, l1, he, rfl, hE⟩⟩ := hr.get
  · go_wp2_with fail
    exact ⟨by first | trivial | rfl, hg1, .inl ⟨x, by rw [HTR.out]; unfold textR; rw [he], rfl⟩⟩
  · have hv := numR_le he
    have HE := Lib.hid hE
    have HG := Lib.hid hg1
    have HV := Lib.hid he
    have hv1 := hv.1
    have q3 : IntKind.i64.wrap (v : Int) = (v : Int) := IntWalk.i64_in _ (by omega)
    clear hE hg1 he hv hr
    by_cases hl : l1.length < v
    · go_wp2_with fail
      refine (take_no _ HE.out hl).mono ?_
      rintro e w' ⟨rfl, rfl⟩
      go_wp2_with fail
      exact ⟨by first | trivial | rfl, HG.out, .inl ⟨2, by rw [HTR.out]; unfold textR; rw [HV.out]; unfold takeR; simp only; rw [if_neg (by omega)], rfl⟩⟩
    · go_wp2_with fail
      refine (take_yes _ HE.out (Nat.le_of_not_lt hl)).mono ?_
      rintro e w2 ⟨A2, rfl, hr2, he2, hg2⟩
      have hbl : (l1.take v).length = v := by rw [List.length_take]; omega
      have HS2 := Lib.hid (show Sl w2 w2.heap.size 1 A2 v ((l1.take v).map B) by have := hr2.sl; rwa [hbl] at this)
      have HE2 := Lib.hid he2
      have HG2 := Lib.hid (grownBy_trans HG.out hg2)
      have HSZ := Lib.hid HG2.out.size
      clear hr2 he2 hg2
      go_wp2_with fail
      refine (bclone_any A2 v v (l1.take v) _ HS2.out (by omega)).mono ?_
      rintro e w3 ⟨A3, c3, rfl, ho, hc, hg⟩
      go_wp2_with fail
      go_ret
      refine ⟨grownBy_grow HG2.out hg, .inr ⟨l1.take v, l1.drop v, A3, c3, by rw [HTR.out]; unfold textR; rw [HV.out]; unfold takeR; simp only; rw [if_pos (by omega)], by rw [hbl]; rfl, ?_, by rw [hbl]; exact hc, HE2.out.grow hg⟩⟩
      rw [hbl]
      exact own_base ho HSZ.out
end Go.Proofs.Ytphmefhnffoafaa

/- The contract of the pen's Num. Printed by mkpen.py. -/
import Derived.Test.YtofhohofaedokaaMarksPlayB7
import Derived.Lib.SliceRun
import Derived.Laws.IdiomCopy
import Derived.Lib.Strings
import Derived.Lib.BitFns
set_option linter.unusedSimpArgs false
/- The contract of the pen's Num. Printed by mkpen.py. -/
namespace Go.Proofs.Ytofhohofaedokaa
open Go.RowKit Go.Shelf
set_option linter.unusedVariables false
attribute [local go_sem] Oper.semAt_some

section
variable {P : Program} {ops : Array Oper} {Fut : World → World → Prop} {cl : List Nat} {Q : Exit → Act → World → Prop} {o : Oper} {i : Nat} {t : Plan} {a : Act} {w : World}
theorem pl_loadF {T : TypeId} {x : Operand} {p : Addr} {v : Value} (hi : ops[i]? = some o) (hc : plCls cl i = 1) (hw : Region.wanted o (yielded ops a.tmps) = true) (ho : o.op = .load T x) (hx : a.eval x = .pointer (some p))
    (hT : (match P.underlying T with | some (.struct _) | some (.array _ _) => false | some _ => true | none => false) = true) (hv : w.cell? p = some v) (hF : ∀ w', Fut w w' → w'.heap[p.block]? = w.heap[p.block]?)
    (hk : ∀ K : Act → World → Prop, (∀ a w, wpS P ops Fut cl Q t a w → K a w) → K (a.put o.dst v) w) : wpS P ops Fut cl Q (.get i t) a w := by
  refine pl_read hi hc hw (fun w' hf => ?_) hk
  have hv' : w'.cell? p = some v := by rw [World.cell?_of_block (hF w' hf)]; exact hv
  unfold execOp
  simp only [ho, hx, Instr.loadAt, Instr.sureAddr, Sem.run_bind, Sem.run_pure, Result.andThen_ok]
  cases hd : P.underlying T with
  | none => rw [hd] at hT; cases hT
  | some d =>
    rw [hd] at hT
    have hagg : (isAgg T).run P w' = .ok false w' := by
      unfold isAgg
      rw [Sem.run_bind, run_underlying hd w']
      cases d <;> simp_all
    simp [loadVar, hagg, load, Sem.run, hv']
end
theorem kp2_refl (a b : Nat) (w : World) : Kp2 a b w w := ⟨rfl, rfl⟩
theorem kp2_trans {a b : Nat} (w1 w2 w3 : World) (h : Kp2 a b w1 w2) (k : Kp2 a b w2 w3) : Kp2 a b w1 w3 := ⟨k.1.trans h.1, k.2.trans h.2⟩
theorem pen_app2 {K : Nat → Prop} {w w1 : World} {g c c' : Nat} {A A' : Option Addr} {xs : List UInt8} {y : UInt8} {v : Value} (h1 : Blk w g 72 [.slice A xs.length c]) (h2 : w.ownsRow 0 5 1 (.slice A xs.length c) xs.length (xs.map B))
    (h3 : ∀ k, K k → k < w.heap.size ∧ k ≠ g ∧ A.map Addr.block ≠ some k) (h4 : A.map Addr.block ≠ some g) (hv : v = B y)
    (ho : w1.ownsRow 0 5 1 (.slice A' (xs.length + 1) c') (xs.length + 1) (xs.map B ++ [v])) (hg : w.grownBy w1 (A.map Addr.block)) (hA : ∀ b, A'.map Addr.block = some b → A.map Addr.block = some b ∨ w.heap.size ≤ b) :
    PenAt (w1.setCell ⟨g, 0, none⟩ (.slice A' (xs.length + 1) c')) K g (xs ++ [y]) ∧ Kept K w (w1.setCell ⟨g, 0, none⟩ (.slice A' (xs.length + 1) c')) := by
  have hl : (xs ++ [y]).length = xs.length + 1 := by simp
  have := pen_app (ys := xs ++ [y]) (A' := A') (c' := c') h1 h2 h3 h4 (by rw [hl, List.map_append]; rw [hv] at ho; exact ho) hg hA
  rw [hl] at this
  exact this
theorem num_rev (ys : List UInt8) : (List.range ys.length).map (nthB ys) = ys.reverse := by
  apply List.ext_getElem?
  intro i
  rw [List.getElem?_map]
  by_cases h : i < ys.length
  · rw [List.getElem?_range h, List.getElem?_reverse h, Option.map_some]
    unfold nthB
    rw [List.getD_eq_getElem?_getD, List.getElem?_eq_getElem (show ys.length - 1 - i < ys.length by omega)]; rfl
  · rw [List.getElem?_eq_none (by simp; omega), List.getElem?_eq_none (by simp; omega)]; rfl
theorem numB_eq (n : Nat) : numB n = [UInt8.ofNat (lenB n)] ++ (leB n).reverse := by unfold numB; rfl
theorem bnat (n : Nat) : Value.int .u8 ((n : Int) % 256) = B (UInt8.ofNat n) := by unfold B; rw [b8_ofNat]; congr 1

theorem PenAt.kept {K : Nat → Prop} {w w1 : World} {g Bd : Nat} {xs : List UInt8} {row : Option Nat} (h : PenAt w K g xs) (hg : w.grownBy w1 row) (hr : ∀ r, row = some r → Bd ≤ r ∧ ∃ o : Obj, w.heap[r]? = some o ∧ o.isCells = false) : PenAt w1 K g xs := by
  obtain ⟨A, c, h1, h2, h3, h4⟩ := h
  exact ⟨A, c, h1.grown hg (row_ne_blk h1 hr), own_kept h2 hg (fun k hk => by subst hk; exact row_ne_own h2 hr), fun j hj => ⟨Nat.lt_of_lt_of_le (h3 j hj).1 hg.size, (h3 j hj).2⟩, h4⟩
theorem keeps_own {w w1 : World} {base n c sz : Nat} {e : TypeId} {A : Option Addr} {xs : List Value} (h : w.ownsRow base e sz (.slice A n c) n xs) (hg : w.grownBy w1 (A.map Addr.block)) : KeepsOthers w w1 := by
  refine ⟨hg.size, fun k o hk hc => ?_⟩
  refine (hg.block k (Array.getElem?_eq_some_iff.1 hk).1 (fun e => ?_)).trans hk
  rcases h.2 with ⟨hv, _⟩ | ⟨g, cap, cur, hv, _, hh, _⟩
  · injection hv with hA; subst hA; cases e
  · injection hv with hA; subst hA
    obtain rfl : k = g := by simpa using e
    rw [hh] at hk; cases hk; cases hc
theorem bnat_s (n : Nat) (h : n ≤ 255) : Value.int .u8 (n : Int) = B (UInt8.ofNat n) := by rw [← bnat]; congr 1; omega
set_option maxRecDepth 100000 in
set_option maxHeartbeats 4000000 in
theorem num_any (g N : Nat) (K : Nat → Prop) (xs : List UInt8) (w : World) (h : PenAt w K g xs) (hl : xs.length ≤ 1000000) (hN : N ≤ 18446744073709551615) :
    Calls Try.prog 42 #[.pointer (some ⟨g, 0, none⟩), .int .u64 N] w fun e w' => e = .returned (.tuple #[]) ∧ PenAt w' K g (xs ++ numB N) ∧ Kept K w w' := by
  have HP := Lib.hid h; clear h
  have HK0 := Lib.hid (show ∀ k, K k → k < w.heap.size from fun k hk => by obtain ⟨A, c, _, _, h3, _⟩ := HP.out; exact (h3 k hk).1)
  refine callsIn_wide.1 (callsIn_of_wp_marks (n := 10) Try.func42 rfl trivial ?_ rfl)
  simp only [Try.ntmps42, List.size_toArray, List.length_cons, List.length_nil, Nat.reduceAdd, Nat.reduceSub, Array.replicate_succ, Array.replicate_zero, List.push_toArray, List.append_toArray, List.nil_append, List.cons_append]
  refine wpIn_wide.2 ?_
  go_wp2_with fail
  generalize hw1 : World.alloc w _ = w1
  obtain ⟨hX, hb, hs⟩ := alloc_eq hw1
  obtain ⟨gp, hgp⟩ : ∃ gp, gp = w.heap.size := ⟨_, rfl⟩
  rw [← hgp] at hX hs ⊢
  have HG := Lib.hid hgp
  have HX := Lib.hid hX
  have HP1 := Lib.hid (HP.out.more (K' := fun k => K k ∨ k = gp) hb (fun j hj => hj.imp_right (fun e => by omega)))
  have HKP1 := Lib.hid (Kept.of_grow hb HK0.out)
  have HS1 := Lib.hid hs
  have HGL := Lib.hid (show g < gp by rw [hgp]; exact HP.out.lt)
  clear hX hb hs hw1 hgp HP
  have HL8 := Lib.hid (lenB_64 hN)
  go_loopw [1, 4] (fun nv lv wr => ∃ M : Nat, ∃ ys A c, nv = .int .u64 M ∧ lv = .slice A ys.length c ∧ Hid (leB N = ys ++ leB M) ∧ M ≤ N ∧ Hid (wr.ownsRow w1.heap.size 5 1 (.slice A ys.length c) ys.length (ys.map B)) ∧ Hid (ys.length ≤ c) ∧ Hid (Grow w1 wr)) (fun nv _ _ => (intOf nv).toNat)
  case atStart => exact ⟨N, [], none, 0, rfl, rfl, rfl, Nat.le_refl _, World.ownsRow_nil _ _ _ _, Nat.zero_le _, Grow.refl _⟩
  case round =>
    obtain ⟨M, ys, A, c, rfl, rfl, hsp, hMN, hown, hyc, hgr⟩ := hrel
    have hyl : ys.length + lenB M = lenB N := by have := congrArg List.length hsp.out; rw [List.length_append, leB_len, leB_len] at this; omega
    have h8 := HL8.out
    by_cases hM : 0 < M
    · have d1 : decide ((0 : Int) < (M : Int)) = true := by simpa using hM
      go_wp2_with (at_builtin; refine wpl_app1 rfl rfl el_u8 hown.out rfl (m := 1) rfl rfl ?_ ?_ ?_ ?_ ?_)
      · simp [Value.oneCell']
      · omega
      · omega
      · exact hgr.out.size
      intro A5 c5 w5 ho hg hA
      have HB5 := Lib.hid (show Grow w1 w5 from below_grown hgr.out hg hgr.out.size (fun j hj => own_from hown.out j hj))
      have hll : (ys ++ [UInt8.ofNat M]).length = ys.length + 1 := by simp
      have HO5 := Lib.hid (show w5.ownsRow w1.heap.size 5 1 (.slice A5 (ys ++ [UInt8.ofNat M]).length c5) (ys ++ [UInt8.ofNat M]).length ((ys ++ [UInt8.ofNat M]).map B) by
        rw [hll, List.map_append]; simp only [List.map_cons, List.map_nil]; rw [← bnat]; exact ho)
      have HC5 := Lib.hid (show (ys ++ [UInt8.ofNat M]).length ≤ c5 by obtain ⟨_, _, _, _, hcc⟩ := own_form HO5.out (by rw [hll]; omega); exact hcc)
      have HSP5 := Lib.hid (show leB N = (ys ++ [UInt8.ofNat M]) ++ leB (M / 256) by rw [hsp.out, leB_pos (by omega), List.append_assoc]; rfl)
      clear ho hg hA
      rw [← hll]
      go_wp2_with fail
      go_roundw
      case rel => exact ⟨M / 256, ys ++ [UInt8.ofNat M], A5, c5, by first | rfl | (congr 1; omega), rfl, HSP5, by omega, HO5, HC5, HB5⟩
      case measure => simp [intOf]; omega
    · obtain rfl : M = 0 := by omega
      have HYS := Lib.hid (show leB N = ys by have := hsp.out; rw [leB_zero, List.append_nil] at this; exact this)
      have hyl2 : ys.length = lenB N := by rw [← leB_len, HYS.out]
      obtain ⟨n, hn⟩ : ∃ n, n = ys.length := ⟨_, rfl⟩
      have HNL := Lib.hid (show n = lenB N by rw [hn, hyl2])
      have HYL := Lib.hid (show ys.length = n from hn.symm)
      rw [← hn] at hown hyc ⊢
      have HPR := Lib.hid (HP1.out.more (K' := fun k => (K k ∨ k = gp) ∨ (w1.heap.size ≤ k ∧ k < wr.heap.size)) hgr.out (fun j hj => hj))
      have HXR := Lib.hid (HX.out.grow hgr.out)
      have HKR := Lib.hid (HKP1.out.trans (Kept.of_grow hgr.out (fun k hk => Nat.lt_of_lt_of_le (HK0.out k hk) HKP1.out.size)))
      have HOR := hown
      have HSR := Lib.hid (show w1.heap.size ≤ wr.heap.size from hgr.out.size)
      have hn8 : n ≤ 8 := by have := HNL.out; omega
      clear hyl2 hn hown hgr hsp hyl hMN HX HP1 HKP1
      -- p.b = append(p.b, byte(len(l)))
      go_wp2_with fail
      repeat' (first | (with_reducible refine wp_plan (id := 5) (Kp2 gp g) [1, 1, 0, 0, 1, 0, 0, 0, 4, 4, 0, 0, 3] (.get 0 (.get 1 (.get 2 (.get 3 (.get 4 (.get 5 (.get 6 (.get 7 (.act 8 (.act 9 (.get 10 (.get 11 (.act 12 .done))))))))))))) (by kernel_rfl) (by kernel_rfl) (kp2_refl gp g) kp2_trans ?_) | go_values | go_skip | go_guarded | go_step | go_upon | go_back)
      intro w_ hd_
      have hdg := hd_.grow
      obtain ⟨Ap, cp, hq1, hq2, hq3, hq4⟩ := HPR.out.grow hdg
      have HPB := Lib.hid hq1
      have HPO := Lib.hid hq2
      have HGP := Lib.hid (show w_.cell? ⟨gp, 0, none⟩ = some (.pointer (some ⟨g, 0, none⟩)) from (HXR.out.grow hdg).at_ rfl)
      have HPC := Lib.hid (show w_.cell? ⟨g, 0, none⟩ = some (.slice Ap xs.length cp) from hq1.at_ rfl)
      have HLT := Lib.hid (show gp < w_.heap.size ∧ g < w_.heap.size from ⟨(HXR.out.grow hdg).lt, hq1.lt⟩)
      have HNE := Lib.hid (show Ap.map Addr.block ≠ some gp ∧ Ap.map Addr.block ≠ some g from ⟨(hq3 gp (.inl (.inr rfl))).2.2, hq4⟩)
      have HKK := Lib.hid (show ∀ w2, Grow w_ w2 → ∀ k, ((K k ∨ k = gp) ∨ (w1.heap.size ≤ k ∧ k < wr.heap.size)) → k < w2.heap.size ∧ k ≠ g ∧ Ap.map Addr.block ≠ some k from fun w2 hg k hk => ⟨Nat.lt_of_lt_of_le (hq3 k hk).1 hg.size, (hq3 k hk).2⟩)
      have HKR_ := Lib.hid (HKR.out.trans (Kept.of_grow hdg (fun k hk => Nat.lt_of_lt_of_le (HK0.out k hk) HKR.out.size)))
      have HOR_ := Lib.hid (HOR.out.grow hdg)
      have HZ_ := Lib.hid hdg
      clear hq1 hq2 hq3 hq4 hd_ hdg HPR HKR
      repeat (first | (refine pl_calm rfl rfl (by first | exact wanted_none rfl | (go_simp; done) | rfl) (fun w_ => by first | (go_simp; rfl) | (go_simp; done) | rfl) (fun K hK => ?_); go_simp; refine hK _ _ ?_; clear hK K) | (refine pl_loadF rfl rfl (by first | exact wanted_none rfl | (go_simp; done) | rfl) rfl (by first | rfl | (go_simp; rfl)) (by kernel_rfl) HGP.out (fun w2_ h => h.1) (fun K hK => ?_); go_simp; refine hK _ _ ?_; clear hK K) | (refine pl_loadF rfl rfl (by first | exact wanted_none rfl | (go_simp; done) | rfl) rfl (by first | rfl | (go_simp; rfl)) (by kernel_rfl) HPC.out (fun w2_ h => h.2) (fun K hK => ?_); go_simp; refine hK _ _ ?_; clear hK K))
      refine pl_act rfl (by exact wanted_none rfl) (fun K hK => ?_)
      go_wp2_with fail
      generalize hw_ : World.alloc w_ _ = w2_
      obtain ⟨hX_, hb_, hs_⟩ := alloc_eq hw_
      refine hK _ _ (fun _ => ⟨hb_.block gp HLT.out.1, hb_.block g HLT.out.2⟩) ?_
      clear hK K
      have HPB2 := Lib.hid (HPB.out.grow hb_)
      have HPO2 := Lib.hid (HPO.out.grow hb_)
      have HSL := Lib.hid (Blk.sl (sz := 1) (n := 1) hX_ rfl)
      have HSZ2 := Lib.hid hs_
      have HGR2 := Lib.hid hb_
      clear hX_ hb_ hs_ hw_
      refine pl_act rfl (by exact wanted_none rfl) (fun K hK => ?_)
      refine wpl_apps rfl rfl el_u8 HPO2.out rfl HSL.out rfl (fun u hu => by simp only [List.mem_cons, List.not_mem_nil, or_false] at hu; rw [hu]; rfl) (by omega) (by omega) (Nat.zero_le _) ?_
      intro A3 c3 w3_ ho_ hg_ hA_
      go_wp2_with fail
      have HGK := Lib.hid (show Kp2 gp g w_ w3_ from ⟨(hg_.block gp (Nat.lt_of_lt_of_le HLT.out.1 HGR2.out.size) (fun e => (HNE.out.1 e.symm).elim)).trans (HGR2.out.block gp HLT.out.1), (hg_.block g (Nat.lt_of_lt_of_le HLT.out.2 HGR2.out.size) (fun e => (HNE.out.2 e.symm).elim)).trans (HGR2.out.block g HLT.out.2)⟩)
      refine hK _ _ (fun _ => ⟨hg_.block gp (Nat.lt_of_lt_of_le HLT.out.1 HGR2.out.size) (fun e => (HNE.out.1 e.symm).elim), hg_.block g (Nat.lt_of_lt_of_le HLT.out.2 HGR2.out.size) (fun e => (HNE.out.2 e.symm).elim)⟩) ?_
      clear hK K
      have HPB3 := Lib.hid (HPB2.out.grown hg_ (fun e => (HNE.out.2 e.symm).elim))
      have HAP := Lib.hid (pen_app2 (A' := A3) (c' := c3) HPB2.out HPO2.out (fun k hk => HKK.out w2_ HGR2.out k hk) HNE.out.2 (bnat_s n (by omega)) ho_ hg_ (fun b hb => hA_.elim (fun h => .inl (h.symm.trans hb)) (fun h => .inr (Nat.le_of_eq (Option.some.inj (h.symm.trans hb))))))
      have HKO := Lib.hid (keeps_own HPO2.out hg_)
      clear ho_ hg_ hA_
      repeat (first | (refine pl_calm rfl rfl (by first | exact wanted_none rfl | (go_simp; done) | rfl) (fun w_ => by first | (go_simp; rfl) | (go_simp; done) | rfl) (fun K hK => ?_); go_simp; refine hK _ _ ?_; clear hK K) )
      refine pl_act rfl (by exact wanted_none rfl) (fun K hK => ?_)
      have hcl := HPB3.out.at_ (i := 0) rfl
      have hfz := HPB3.out.frozen 0
      go_wp2_with fail
      refine hK _ _ (fun h => by cases h) ?_
      clear hK K hcl hfz
      refine pl_done ?_
      have HK5 := Lib.hid (HKR_.out.trans ((Kept.of_grow HGR2.out (fun k hk => (HKK.out w_ (Grow.refl _) k hk).1)).trans HAP.out.2 |>.mono (fun k hk => .inl (.inl hk))))
      have HP5 := Lib.hid HAP.out.1
      have HE5 := Lib.hid (show ∀ k, ((K k ∨ k = gp) ∨ (w1.heap.size ≤ k ∧ k < wr.heap.size)) → (w3_.setCell ⟨g, 0, none⟩ (.slice A3 (xs.length + 1) c3)).heap[k]? = w_.heap[k]? from fun k hk => (HAP.out.2.block k hk).trans (HGR2.out.block k (HKK.out w_ (Grow.refl _) k hk).1))
      clear HPB HPO HGP HPC HPB2 HPO2 HSL HSZ2 HPB3 HAP HGK HKR_
      generalize w3_.setCell ⟨g, 0, none⟩ (.slice A3 (xs.length + 1) c3) = w5 at *
      obtain ⟨bl, hbl1, hbl2, hbl3⟩ : ∃ bl, (1 ≤ n → A = some ⟨bl, 0, none⟩) ∧ ((K bl ∨ bl = gp) ∨ (w1.heap.size ≤ bl ∧ bl < wr.heap.size)) ∧ ∀ j y, ys[j]? = some y → w_.cell? ⟨bl, j, none⟩ = some (B y) := by
        by_cases h1 : 1 ≤ n
        · obtain ⟨b, rfl, hb1, _, _⟩ := own_form HOR.out (by omega)
          obtain ⟨_, hbe, _, hb2, _⟩ := own_form HOR.out (by omega)
          cases hbe
          refine ⟨b, fun _ => rfl, .inr ⟨hb1, hb2⟩, fun j y hj => ?_⟩
          have h := World.ownsRow.cellAt HOR_.out j (by have := (List.getElem?_eq_some_iff.1 hj).1; have := HYL.out; omega)
          rw [h, List.getElem?_map, hj]; rfl
        · refine ⟨gp, fun h => absurd h h1, .inl (.inr rfl), fun j y hj => ?_⟩
          have := (List.getElem?_eq_some_iff.1 hj).1; have := HYL.out; omega
      have HBL1 := Lib.hid hbl1; have HBL2 := Lib.hid hbl2
      have HRD := Lib.hid (show ∀ j y, ys[j]? = some y → w5.cell? ⟨bl, j, none⟩ = some (B y) from fun j y hj => (World.cell?_of_block (HE5.out bl hbl2)).trans (hbl3 j y hj))
      have HX5 := Lib.hid (show Blk w5 gp 74 [.pointer (some ⟨g, 0, none⟩)] from (HE5.out gp (.inl (.inr rfl))).trans (HXR.out.grow HZ_.out))
      clear hbl1 hbl2 hbl3 HE5 HOR HOR_ HXR HZ_ HGR2 HNE HLT
      go_wp2_with fail
      refine (back_any _ _ _ _).mono ?_
      rintro e w6 ⟨rfl, hc1, hs6, hb6⟩
      obtain ⟨Bs, hBs⟩ : ∃ Bs, Bs = w5.heap.size := ⟨_, rfl⟩
      rw [← hBs] at hc1 hs6 ⊢
      have HC1 := Lib.hid hc1
      have HP6 := Lib.hid (HP5.out.more (K' := fun k => ((K k ∨ k = gp) ∨ (w1.heap.size ≤ k ∧ k < wr.heap.size)) ∨ k = Bs) hb6 (fun j hj => hj.imp_right (fun e => by omega)))
      have HX6 := Lib.hid (HX5.out.grow hb6)
      have HK6 := Lib.hid (HK5.out.trans (Kept.of_grow hb6 (fun k hk => Nat.lt_of_lt_of_le (HK0.out k hk) HK5.out.size)))
      have hblt : bl < w5.heap.size := by obtain ⟨_, _, _, _, h3, _⟩ := HP5.out; exact (h3 bl HBL2.out).1
      have HRD6 := Lib.hid (show ∀ j y, ys[j]? = some y → w6.cell? ⟨bl, j, none⟩ = some (B y) from fun j y hj => (hb6.cell (p := ⟨bl, j, none⟩) (by show bl < _; exact hblt)).trans (HRD.out j y hj))
      have HS6 := Lib.hid (show Bs < w6.heap.size ∧ bl < w6.heap.size by omega)
      have HKL6 := Lib.hid (show ∀ k, (((K k ∨ k = gp) ∨ (w1.heap.size ≤ k ∧ k < wr.heap.size)) ∨ k = Bs) → k < w6.heap.size from fun k hk => by obtain ⟨_, _, _, _, h3, _⟩ := HP6.out; exact (h3 k hk).1)
      clear hc1 hs6 hb6 hBs hblt HP5 HX5 HK5 HRD
      dsimp only
      repeat' (first | go_values | go_skip | go_guarded | go_step | go_upon | go_back)
      obtain ⟨w0, rfl⟩ : ∃ w0 : World, w0 = w6 := ⟨_, rfl⟩
      refine wpIn_wide.1 (wpIn_rangeFunc_ownF (F := Fence.wide) (n := 10) rfl (by omega) (gf := 68) (lb := #[.pointer (some ⟨Bs, 0, none⟩)]) rfl trivial (enters_of Try.func68 (by kernel_rfl) rfl)
        (back1_stops 9 (by omega) Bs bl n c A ys w0 HBL1.out HYL.out hyc.out (by omega) HS6.out.1 HS6.out.2 HC1.out HRD6.out)
        (fun h1 h2 => ⟨h2.1.trans h1.1, h2.2.trans h1.2⟩) (fun V l o o' hl _ _ _ => ⟨World.putObj_heap_other (by have := HS6.out; omega), World.putObj_heap_other (by have := HS6.out; omega)⟩) (Below.refl _ _) (fun _ => rfl)
        (fun pre V => Hid (PenAt V (fun k => ((K k ∨ k = gp) ∨ (w1.heap.size ≤ k ∧ k < wr.heap.size)) ∨ k = Bs) g (xs ++ [UInt8.ofNat n] ++ pre.map (fun x => nthB ys x.val))) ∧ Hid (Kept (fun k => ((K k ∨ k = gp) ∨ (w1.heap.size ≤ k ∧ k < wr.heap.size)) ∨ k = Bs) w0 V))
        (fun _ _ _ => False)
        (fun s V V' row hs hg hr => ⟨hs.1.out.kept hg hr, hs.2.out.trans (Kept.of_grown hg (fun k hk => ⟨Nat.lt_of_lt_of_le (HKL6.out k hk) hs.2.out.size, fun e => by have := (hr k e).1; have := HKL6.out k hk; omega⟩))⟩)
        (fun _ _ _ _ _ hs _ _ => hs)
        ⟨(show PenAt w0 _ g (xs ++ [UInt8.ofNat n] ++ []) by rw [List.append_nil]; exact HP6.out), Kept.refl _ _⟩
        ?A ?assign ?body ?done ?stop)
      case assign =>
        intro l x V K hK
        gi_wp2
        exact hK
      case stop =>
        rintro D c pre V _ _ h _
        exact h.elim
      case body =>
        rintro l pre x V ⟨hp, hk⟩ hlen
        have HQ := Lib.hid (show (xs ++ [UInt8.ofNat n] ++ pre.map (fun x => nthB ys x.val)).length ≤ 1000020 by rw [List.length_append, List.length_append, List.length_map]; simp only [List.length_cons, List.length_nil]; omega)
        obtain ⟨xs2, hxs2⟩ : ∃ xs2, xs2 = xs ++ [UInt8.ofNat n] ++ pre.map (fun x => nthB ys x.val) := ⟨_, rfl⟩
        rw [← hxs2] at hp HQ
        have hp0 := hp
        have HX2 := Lib.hid hxs2
        have HQ2 := HQ.out
        have HX0 := Lib.hid (show Blk V gp 74 [.pointer (some ⟨g, 0, none⟩)] from (hk.out.block gp (.inl (.inl (.inr rfl)))).trans HX6.out)
        clear hxs2
        repeat' (first | (with_reducible refine wpIn_plan (id := 8) (Kp2 gp g) [1, 1, 0, 0, 1, 0, 4, 4, 0, 0, 3] (.get 0 (.get 1 (.get 2 (.get 3 (.get 4 (.get 5 (.act 6 (.act 7 (.get 8 (.get 9 (.act 10 .done))))))))))) (by kernel_rfl) (by kernel_rfl) (by kernel_rfl) (kp2_refl gp g) kp2_trans ?_) | go_values | gi_guarded | gi_step | gi_upon)
        intro w_ hd_
        have hdg := hd_.grow
        obtain ⟨Ap2, cp2, hq1, hq2, hq3, hq4⟩ := hp.out.grow hdg
        have HPB := Lib.hid hq1
        have HPO := Lib.hid hq2
        have HGP := Lib.hid (show w_.cell? ⟨gp, 0, none⟩ = some (.pointer (some ⟨g, 0, none⟩)) from (HX0.out.grow hdg).at_ rfl)
        have HPC := Lib.hid (show w_.cell? ⟨g, 0, none⟩ = some (.slice Ap2 xs2.length cp2) from hq1.at_ rfl)
        have HLT := Lib.hid (show gp < w_.heap.size ∧ g < w_.heap.size from ⟨(HX0.out.grow hdg).lt, hq1.lt⟩)
        have HNE := Lib.hid (show Ap2.map Addr.block ≠ some gp ∧ Ap2.map Addr.block ≠ some g from ⟨(hq3 gp (.inl (.inl (.inr rfl)))).2.2, hq4⟩)
        have HKK := Lib.hid (show ∀ w2, Grow w_ w2 → ∀ k, (((K k ∨ k = gp) ∨ (w1.heap.size ≤ k ∧ k < wr.heap.size)) ∨ k = Bs) → k < w2.heap.size ∧ k ≠ g ∧ Ap2.map Addr.block ≠ some k from fun w2 hg k hk => ⟨Nat.lt_of_lt_of_le (hq3 k hk).1 hg.size, (hq3 k hk).2⟩)
        have HZV := Lib.hid hdg
        clear hq1 hq2 hq3 hq4 hd_ hdg hp
        repeat (first | (refine pl_calm rfl rfl (by first | exact wanted_none rfl | (go_simp; done) | rfl) (fun w_ => by first | (go_simp; rfl) | (go_simp; done) | rfl) (fun K hK => ?_); go_simp; refine hK _ _ ?_; clear hK K) | (refine pl_loadF rfl rfl (by first | exact wanted_none rfl | (go_simp; done) | rfl) rfl (by first | rfl | (go_simp; rfl)) (by kernel_rfl) HGP.out (fun w2_ h => h.1) (fun K hK => ?_); go_simp; refine hK _ _ ?_; clear hK K) | (refine pl_loadF rfl rfl (by first | exact wanted_none rfl | (go_simp; done) | rfl) rfl (by first | rfl | (go_simp; rfl)) (by kernel_rfl) HPC.out (fun w2_ h => h.2) (fun K hK => ?_); go_simp; refine hK _ _ ?_; clear hK K))
        refine pl_act rfl (by exact wanted_none rfl) (fun K hK => ?_)
        go_wp2_with fail
        generalize hw_ : World.alloc w_ _ = w2_
        obtain ⟨hX_, hb_, hs_⟩ := alloc_eq hw_
        refine hK _ _ (fun _ => ⟨hb_.block gp HLT.out.1, hb_.block g HLT.out.2⟩) ?_
        clear hK K
        have HPB2 := Lib.hid (HPB.out.grow hb_)
        have HPO2 := Lib.hid (HPO.out.grow hb_)
        have HSL := Lib.hid (Blk.sl (sz := 1) (n := 1) hX_ rfl)
        have HSZ2 := Lib.hid hs_
        have HGR2 := Lib.hid hb_
        clear hX_ hb_ hs_ hw_
        refine pl_act rfl (by exact wanted_none rfl) (fun K hK => ?_)
        refine wpl_apps rfl rfl el_u8 HPO2.out rfl HSL.out rfl (fun u hu => by simp only [List.mem_cons, List.not_mem_nil, or_false] at hu; rw [hu]; rfl) (by omega) (by omega) (Nat.zero_le _) ?_
        intro A3 c3 w3_ ho_ hg_ hA_
        go_wp2_with fail
        have HGK := Lib.hid (show Kp2 gp g w_ w3_ from ⟨(hg_.block gp (Nat.lt_of_lt_of_le HLT.out.1 HGR2.out.size) (fun e => (HNE.out.1 e.symm).elim)).trans (HGR2.out.block gp HLT.out.1), (hg_.block g (Nat.lt_of_lt_of_le HLT.out.2 HGR2.out.size) (fun e => (HNE.out.2 e.symm).elim)).trans (HGR2.out.block g HLT.out.2)⟩)
        refine hK _ _ (fun _ => ⟨hg_.block gp (Nat.lt_of_lt_of_le HLT.out.1 HGR2.out.size) (fun e => (HNE.out.1 e.symm).elim), hg_.block g (Nat.lt_of_lt_of_le HLT.out.2 HGR2.out.size) (fun e => (HNE.out.2 e.symm).elim)⟩) ?_
        clear hK K
        have HPB3 := Lib.hid (HPB2.out.grown hg_ (fun e => (HNE.out.2 e.symm).elim))
        have HAP := Lib.hid (pen_app2 (A' := A3) (c' := c3) HPB2.out HPO2.out (fun k hk => HKK.out w2_ HGR2.out k hk) HNE.out.2 (rfl) ho_ hg_ (fun b hb => hA_.elim (fun h => .inl (h.symm.trans hb)) (fun h => .inr (Nat.le_of_eq (Option.some.inj (h.symm.trans hb))))))
        have HKO := Lib.hid (keeps_own HPO2.out hg_)
        clear ho_ hg_ hA_
        repeat (first | (refine pl_calm rfl rfl (by first | exact wanted_none rfl | (go_simp; done) | rfl) (fun w_ => by first | (go_simp; rfl) | (go_simp; done) | rfl) (fun K hK => ?_); go_simp; refine hK _ _ ?_; clear hK K) )
        refine pl_act rfl (by exact wanted_none rfl) (fun K hK => ?_)
        have hcl := HPB3.out.at_ (i := 0) rfl
        have hfz := HPB3.out.frozen 0
        go_wp2_with fail
        refine hK _ _ (fun h => by cases h) ?_
        clear hK K hcl hfz
        refine pl_done ?_
        show KeepsOthers V _ ∧ Kp2 Bs bl V _ ∧ Hid _ ∧ Hid _
        have hk2 := (Kept.of_grow HZV.out (fun k hk => by obtain ⟨_, _, _, _, h3, _⟩ := hp0.out; exact (h3 k hk).1)).trans ((Kept.of_grow HGR2.out (fun k hk => (HKK.out w_ (Grow.refl _) k hk).1)).trans HAP.out.2)
        refine ⟨((keeps_of_below HZV.out).trans (keeps_of_below HGR2.out)).trans (HKO.out.trans (KeepsOthers.setCell _ _ _)), ⟨hk2.block Bs (.inr rfl), hk2.block bl (.inl HBL2.out)⟩, ?_, hk.out.trans hk2⟩
        show PenAt _ _ g (xs ++ [UInt8.ofNat n] ++ (pre ++ [x]).map (fun x => nthB ys x.val))
        rw [List.map_append, ← List.append_assoc, ← HX2.out]; exact HAP.out.1
      case done =>
        rintro D zs V hD hS ⟨hp, hk⟩ hK
        go_wp2_with fail
        refine ⟨by simp, .inl ⟨_, _, rfl, run_takeDeferred hK, ?_⟩⟩
        have hgo := grownBy_putObj' V D (.deferred none)
        have hnc : ∀ r, some D = some r → w0.heap.size ≤ r ∧ ∃ o : Obj, V.heap[r]? = some o ∧ o.isCells = false := fun r e => by cases e; exact ⟨hD, _, hK, rfl⟩
        have hpen := (hp.out.kept hgo hnc).less (K' := K) (fun k hk => .inl (.inl (.inl hk)))
        have hbytes : xs ++ [UInt8.ofNat n] ++ zs.map (fun x => nthB ys x.val) = xs ++ numB N := by
          rw [List.append_assoc]; congr 1
          rw [numB_eq, HYS.out, ← HNL.out, ← num_rev ys, HYL.out, ← hS, List.map_map]; rfl
        rw [hbytes] at hpen
        have hkk := (HK6.out.trans (hk.out.mono (fun k hk => .inl (.inl (.inl hk))))).trans (Kept.of_grown hgo (fun k hkk => by
          have h1 := HKL6.out k (.inl (.inl (.inl hkk)))
          exact ⟨Nat.lt_of_lt_of_le h1 hk.out.size, fun e => by cases e; omega⟩))
        exact ⟨_, results_none rfl _ _ _, rfl, hpen, hkk⟩
end Go.Proofs.Ytofhohofaedokaa

/- Contracts: a copy of bytes, the pen's Bytes and Id, the document's Num. -/
namespace Go.Proofs.Ytofhohofaedokaa
open Go.RowKit Go.Shelf
set_option linter.unusedVariables false

theorem own_cap1 {w : World} {base n c : Nat} {A : Option Addr} {xs : List Value} (h : w.ownsRow base 5 1 (.slice A n c) n xs) : n ≤ c := by
  rcases Nat.eq_zero_or_pos n with h0 | h0
  · omega
  · obtain ⟨_, _, _, _, hc⟩ := own_form h h0; exact hc
theorem run_nil_u8 (w : World) (a : Option Addr) (n c n' c' : Nat) : (binOp .eql 70 (.slice a n c) (.slice none n' c')).run Try.prog w = .ok (.bool a.isNone) w := Lib.run_eql_slice_nil w _ _ a n c n' c' Try.underlying70
set_option maxHeartbeats 1000000 in
theorem bclone_any (A : Option Addr) (n c : Nat) (bs : List UInt8) (w : World) (hs : Sl w w.heap.size 1 A n (bs.map B)) (hn : n ≤ 1000000) :
    Calls Try.prog 46 #[.slice A n c] w fun e w' => ∃ A' c', e = .returned (.slice A' n c') ∧ OwnAt w' w.heap.size A' n c' (bs.map B) ∧ n ≤ c' ∧ Grow w w' := by
  have HS := Lib.hid hs
  have qT := run_nil_u8
  cases A with
  | none =>
    obtain rfl : n = 0 := by
      rcases Nat.eq_zero_or_pos n with h0 | h0
      · exact h0
      · obtain ⟨b, off, u, h1, _⟩ := hs.at_ h0; cases h1
    have hb0 : bs = [] := by have := hs.len; simpa using this
    subst hb0
    clear hs
    go_enter Try.func46, Try.ntmps46
    go_wp2
    go_ret
    exact ⟨none, 0, rfl, World.ownsRow_nil _ _ _ _, Nat.le_refl _, Grow.refl _⟩
  | some ad =>
    have HN0 := Lib.hid (World.ownsRow_lit (base := w.heap.size) (e := 5) (size := 1) w #[] 0 (Nat.le_refl _) (by simp [maxLen]) rfl)
    have HSA := Lib.hid (hs.alloc (Nat.le_refl _) (.cells #[] 5))
    have HONE := Lib.hid (all_bytes bs)
    clear hs
    go_enter Try.func46, Try.ntmps46
    go_wp2_with (at_builtin; refine wpl_apps rfl rfl el_u8 HN0.out rfl HSA.out rfl HONE.out (by omega) (by omega) (by simp) ?_)
    intro A4 c4 w4 ho hg hA
    have HO := Lib.hid (show OwnAt w4 w.heap.size A4 n c4 (bs.map B) by unfold OwnAt; simpa using ho)
    have HB := Lib.hid (show Grow w w4 from ((Below.refl w.heap.size w).alloc (Nat.le_refl _) (.cells #[] 5)).grown hg (by simp) (by intro k hk; cases hk; exact Nat.le_refl _))
    clear ho hg hA
    try simp only [Nat.zero_add]
    go_wp2_with fail
    go_ret
    exact ⟨A4, c4, rfl, HO.out, own_cap1 HO.out, HB.out⟩
theorem pbytes_any (g : Nat) (K : Nat → Prop) (xs : List UInt8) (w : World) (h : PenAt w K g xs) (hl : xs.length ≤ 1000000) :
    Calls Try.prog 28 #[.pointer (some ⟨g, 0, none⟩)] w fun e w' => ∃ A' c', e = .returned (.slice A' xs.length c') ∧ OwnAt w' w.heap.size A' xs.length c' (xs.map B) ∧ xs.length ≤ c' ∧ Grow w w' := by
  obtain ⟨A, c, h1, h2, h3, h4⟩ := h
  have hc := h1.at_ (i := 0) rfl
  have HO := Lib.hid (Sl.of_own h2)
  clear h1 h2 h3 h4
  go_enter Try.func28, Try.ntmps28
  go_wp2_with fail
  refine (bclone_any A xs.length c xs _ HO.out hl).mono ?_
  rintro e w' ⟨A', c', rfl, h1, h2, h3⟩
  go_wp2_with fail
  go_ret
  exact ⟨A', c', rfl, h1, h2, h3⟩

set_option maxRecDepth 100000 in
set_option maxHeartbeats 1000000 in
theorem pid_any (g : Nat) (K : Nat → Prop) (xs : List UInt8) {ds : List Value} {d : List UInt8} (hd : Dig ds d) (w : World) (h : PenAt w K g xs) (hl : xs.length ≤ 1000000) :
    Calls Try.prog 43 #[.pointer (some ⟨g, 0, none⟩), .agg ds.toArray] w fun e w' => e = .returned (.tuple #[]) ∧ PenAt w' K g (xs ++ d) ∧ Kept K w w' := by
  have HP := Lib.hid h; clear h
  have HD := Lib.hid hd
  have HK0 := Lib.hid (show ∀ k, K k → k < w.heap.size from fun k hk => by obtain ⟨A, c, _, _, h3, _⟩ := HP.out; exact (h3 k hk).1)
  have HB := Lib.hid (Below.refl w.heap.size w)
  clear hd
  obtain ⟨gd, hgd⟩ : ∃ gd, gd = w.heap.size := ⟨_, rfl⟩
  have HG := Lib.hid hgd
  go_enter Try.func43, Try.ntmps43
  go_wp2_with (first | (with_reducible refine wpl_box (o := ⟨some 3, _, _, _, _, _⟩) rfl rfl rfl ?_))
  intro w1 hb1 hbw1 hsz1
  rw [← hgd] at hb1 hsz1 hbw1 ⊢
  have HX := Lib.hid (at_mk hb1 HD.out.len)
  have HP1 := Lib.hid (HP.out.more (K' := fun k => K k ∨ k = gd) (show Grow w w1 by rw [hgd] at hbw1; exact hbw1) (fun j hj => hj.imp_right (fun e => by omega)))
  have HK1 := Lib.hid (Kept.of_grow (show Grow w w1 by rw [hgd] at hbw1; exact hbw1) HK0.out)
  clear hb1 hbw1 hsz1 hgd HP HB
  repeat' (first | (with_reducible refine wp_plan (id := 1) Grow [0, 0, 0, 0, 2, 0, 3, 0, 0, 3] (.get 0 (.get 1 (.get 2 (.get 3 (.get 4 (.get 5 (.act 6 (.get 7 (.get 8 (.act 9 .done)))))))))) (by kernel_rfl) (by kernel_rfl) Grow.refl Grow.trans ?_) | go_values | go_skip | go_guarded | go_step | go_upon | go_back)
  intro w_ hd_
  have hdg := hd_.grow
  obtain ⟨Ap, cp, hq1, hq2, hq3, hq4⟩ := HP1.out.grow hdg
  have HPB := Lib.hid hq1
  have HPO := Lib.hid hq2
  have HPK := Lib.hid hq3
  have HPN := Lib.hid hq4
  have HPC := Lib.hid (show w_.cell? ⟨g, 0, none⟩ = some (.slice Ap xs.length cp) from hq1.at_ rfl)
  have HSL := Lib.hid ((HX.out.grow hdg).sl)
  have HK2 := Lib.hid (HK1.out.trans (Kept.of_grow hdg (fun k hk => Nat.lt_of_lt_of_le (HK0.out k hk) HK1.out.size)))
  have HONE := Lib.hid HD.out.one
  clear hq1 hq2 hq3 hq4 hd_ hdg
  repeat (first | (refine pl_calm rfl rfl (by first | exact wanted_none rfl | (go_simp; done) | rfl) (fun w_ => by first | (go_simp; rfl) | (go_simp; done) | rfl) (fun K hK => ?_); go_simp; refine hK _ _ ?_; clear hK K) | (refine pl_skip rfl (by first | (go_simp; done) | rfl) (fun K hK => ?_); go_simp; refine hK _ _ ?_; clear hK K) | (refine pl_skipa rfl (by first | (go_simp; done) | rfl) (fun K hK => ?_); go_simp; refine hK _ _ ?_; clear hK K) | (refine pl_load rfl rfl (by first | exact wanted_none rfl | (go_simp; done) | rfl) rfl (by first | rfl | (go_simp; rfl)) (by kernel_rfl) (by first | exact HPC.out) (fun K hK => ?_); go_simp; refine hK _ _ ?_; clear hK K) | (refine pl_loadnow rfl rfl (by first | exact wanted_none rfl | (go_simp; done) | rfl) rfl (by first | rfl | (go_simp; rfl)) (by kernel_rfl) (by first | exact HPC.out) (fun K hK => ?_); go_simp; refine hK _ _ ?_; clear hK K))
  refine pl_act rfl (by exact wanted_none rfl) (fun K hK => ?_)
  refine wpl_apps rfl rfl el_u8 HPO.out rfl HSL.out rfl HONE.out (by omega) (by omega) (Nat.zero_le _) ?_
  intro A3 c3 w3_ ho_ hg_ hA_
  have hll : (xs ++ d).length = xs.length + 32 := by rw [List.length_append, HD.out.2]
  have HPB3 := Lib.hid (HPB.out.grown hg_ (fun e => (HPN.out e.symm).elim))
  have HAP := Lib.hid (pen_app (ys := xs ++ d) (A' := A3) (c' := c3) HPB.out HPO.out HPK.out HPN.out (by rw [hll, List.map_append]; have h := HD.out.1; rw [h] at ho_; exact ho_) hg_ (fun b hb => hA_.elim (fun h => .inl (h.symm.trans hb)) (fun h => .inr (Nat.le_of_eq (Option.some.inj (h.symm.trans hb))))))
  rw [hll] at HAP
  clear ho_ hg_ hA_
  go_wp2_with fail
  refine hK _ _ (fun h => by cases h) ?_
  clear hK K
  repeat (first | (refine pl_calm rfl rfl (by first | exact wanted_none rfl | (go_simp; done) | rfl) (fun w_ => by first | (go_simp; rfl) | (go_simp; done) | rfl) (fun K hK => ?_); go_simp; refine hK _ _ ?_; clear hK K) | (refine pl_skip rfl (by first | (go_simp; done) | rfl) (fun K hK => ?_); go_simp; refine hK _ _ ?_; clear hK K) | (refine pl_skipa rfl (by first | (go_simp; done) | rfl) (fun K hK => ?_); go_simp; refine hK _ _ ?_; clear hK K))
  refine pl_act rfl (by exact wanted_none rfl) (fun K hK => ?_)
  have hcl := HPB3.out.at_ (i := 0) rfl
  have hfz := HPB3.out.frozen 0
  go_wp2_with fail
  refine hK _ _ (fun h => by cases h) ?_
  clear hK K hcl hfz
  refine pl_done ?_
  refine bodyPost_end (results_none rfl _ _ _) rfl ?_
  exact ⟨rfl, HAP.out.1.less (fun k hk => .inl hk), HK2.out.trans (HAP.out.2.mono (fun k hk => .inl hk))⟩

theorem shr8 (N q : Nat) : (N : Int) / 2 ^ (8 * q) = ((N / 256 ^ q : Nat) : Int) := by
  have h : ((2 ^ (8 * q) : Nat) : Int) = 2 ^ (8 * q) := by simp
  rw [← h, ← Int.natCast_ediv, Nat.pow_mul]
set_option maxRecDepth 100000 in
set_option maxHeartbeats 1000000 in
theorem rnum_any (N : Nat) (w : World) (hN : N ≤ 18446744073709551615) :
    Calls Try.prog 47 #[.int .u64 N] w fun e w' => ∃ A c, e = .returned (.slice A (numB N).length c) ∧ OwnAt w' w.heap.size A (numB N).length c ((numB N).map B) ∧ (numB N).length ≤ c ∧ Grow w w' := by
  have HL8 := Lib.hid (lenB_64 hN)
  have h8 := lenB_64 hN
  go_enter Try.func47, Try.ntmps47
  go_wp2_with fail
  go_loopw [3, 4] (fun kv vv wq => ∃ j M : Nat, lenB M + j = lenB N ∧ M ≤ N ∧ kv = .int .i64 j ∧ vv = .int .u64 M ∧ wq = w) (fun _ vv _ => (intOf vv).toNat)
  case atStart => exact ⟨0, N, by omega, Nat.le_refl _, rfl, rfl, rfl⟩
  case round =>
    obtain ⟨j, M, hj, hMN, rfl, rfl, rfl⟩ := hrel
    by_cases hM : 0 < M
    · have d1 : decide ((0 : Int) < (M : Int)) = true := by simpa using hM
      have h1 := lenB_pos (n := M) (by omega)
      go_wp2_with fail
      go_roundw
      case rel => exact ⟨j + 1, M / 256, by omega, by omega, by first | rfl | (congr 1; omega), by first | rfl | (congr 1; omega), by first | trivial | rfl⟩
      case measure => simp [intOf]; omega
    · obtain rfl : M = 0 := by omega
      obtain rfl : j = lenB N := by rw [lenB_zero] at hj; omega
      simp only [show ((0 : Nat) : Int) = 0 from rfl]
      obtain ⟨w0, hw0⟩ : ∃ w0 : World, w0 = wr := ⟨_, rfl⟩
      subst hw0
      obtain ⟨n, hn⟩ : ∃ n, n = lenB N := ⟨_, rfl⟩
      rw [← hn] at h8 ⊢
      have HN := Lib.hid hn
      have hnl : (numB N).length = n + 1 := by rw [numB_len, ← hn]
      have HNL := Lib.hid hnl
      clear hn hj hMN HL8 hM hnl
      go_wp2_with fail
      generalize hw1 : World.alloc w0 _ = w1
      obtain ⟨hX, hb, hs⟩ := alloc_eq hw1
      obtain ⟨g0, hg0⟩ : ∃ g0, g0 = w0.heap.size := ⟨_, rfl⟩
      rw [← hg0] at hX hs ⊢
      have HG := Lib.hid hg0
      have HO1 := Lib.hid (own_blk (base := w0.heap.size) (w := w1) (g := g0) (n := 1) hX rfl (by omega) (by simp [maxLen]))
      have HB1 := Lib.hid hb
      clear hX hb hs hw1 hg0
      go_loopw [5, 6] (fun ov iv wq => ∃ t : Nat, ∃ A c, t ≤ n ∧ ov = .slice A (t + 1) c ∧ iv = .int .i64 ((n : Int) - 1 - (t : Int)) ∧ Hid (wq.ownsRow w0.heap.size 5 1 (.slice A (t + 1) c) (t + 1) (((numB N).take (t + 1)).map B)) ∧ Hid (Grow w0 wq)) (fun _ iv _ => (intOf iv + 1).toNat)
      case atStart =>
        refine ⟨0, some ⟨g0, 0, none⟩, 1, Nat.zero_le _, rfl, by simp, ?_, HB1⟩
        have h := HO1.out
        show w1.ownsRow _ _ _ _ _ _
        rw [numB_zero, ← HN.out]
        rw [bnat_s n (by omega)] at h
        exact h
      case round =>
        obtain ⟨t, A, c, ht, rfl, rfl, hown, hgr⟩ := hrel
        by_cases hlt : t < n
        · obtain ⟨q, hq1, hq2⟩ : ∃ q : Nat, (n : Int) - 1 - (t : Int) = (q : Int) ∧ q = n - 1 - t := ⟨n - 1 - t, by omega, rfl⟩
          have hq7 : q ≤ 7 := by omega
          have d1 : decide ((0 : Int) ≤ (q : Int)) = true := by simp
          have HQ1 := Lib.hid hq1
          have HQ2 := Lib.hid hq2
          rw [hq1]
          clear hq1 hq2
          go_wp2_with (at_builtin; refine wpl_app1 rfl rfl el_u8 hown.out rfl (m := 1) rfl rfl ?_ ?_ ?_ ?_ ?_)
          · rfl
          · omega
          · omega
          · exact hgr.out.size
          intro A4 c4 w4 ho hg hA
          have HO4 := Lib.hid (show w4.ownsRow w0.heap.size 5 1 (.slice A4 (t + 1 + 1) c4) (t + 1 + 1) (((numB N).take (t + 1 + 1)).map B) by
            rw [numB_step (by have := HN.out; omega), List.map_append, ← HN.out, ← HQ2.out]
            simp only [List.map_cons, List.map_nil]
            rw [← bnat, ← shr8, List.map_take]; exact ho)
          have HB4 := Lib.hid (show Grow w0 w4 from below_grown hgr.out hg hgr.out.size (fun j hj => own_from hown.out j hj))
          clear ho hg hA
          go_wp2_with fail
          go_roundw
          case rel =>
            have h1 := HQ1.out
            refine ⟨t + 1, A4, c4, by omega, rfl, ?_, HO4, HB4⟩
            congr 1; omega
          case measure => simp [intOf]
        · obtain rfl : t = n := by omega
          have d1 : decide ((0 : Int) ≤ (t : Int) - 1 - (t : Int)) = false := by simp only [decide_eq_false_iff_not]; omega
          go_wp2_with fail
          go_ret
          have hall : (numB N).take (t + 1) = numB N := by rw [HN.out]; exact numB_all N
          have ho := hown.out
          rw [hall] at ho
          rw [HNL.out]
          exact ⟨A, c, rfl, ho, own_cap1 ho, hgr.out⟩
end Go.Proofs.Ytofhohofaedokaa

/- Contracts of layer 6: a digest's bytes, a key filled, a pad turned. -/
namespace Go.Proofs.Ytofhohofaedokaa
open Go.RowKit Go.Shelf
set_option linter.unusedVariables false

theorem Dig.at_ {xs : List Value} {d : List UInt8} (h : Dig xs d) {k : Nat} (hk : k < 32) : ∃ x : UInt8, xs[k]? = some (.int .u8 (b8 x)) ∧ d[k]? = some x := by
  have hl := h.2
  refine ⟨d[k]'(by omega), ?_, List.getElem?_eq_getElem (by omega)⟩
  rw [h.1, List.getElem?_map, List.getElem?_eq_getElem (by omega)]; rfl

set_option maxRecDepth 100000 in
set_option maxHeartbeats 1000000 in
theorem tbytes_any {xs : List Value} {d : List UInt8} (hx : Dig xs d) (w : World) :
    Calls Try.prog 49 #[.agg xs.toArray] w fun e w' => ∃ A' c', e = .returned (.slice A' 32 c') ∧ Sl w' w'.heap.size 1 A' 32 (d.map B) ∧ 32 ≤ c' ∧ Below w.heap.size w w' := by
  have HD := Lib.hid hx
  have HB := Lib.hid (Below.refl w.heap.size w)
  clear hx
  go_enter Try.func49, Try.ntmps49
  go_wp2_with (first | (with_reducible refine wpl_box (o := ⟨some 1, _, _, _, _, _⟩) rfl rfl rfl ?_))
  intro w2_ hb2_ hb_ hsz2_
  have HX_ := Lib.hid (at_mk hb2_ HD.out.len)
  clear hb2_ hsz2_
  have HB_ := Lib.hid (HB.out.grow' hb_)
  clear HB
  have HB := HB_
  clear HB_
  have HX := HX_
  clear hb_ HX_
  try clear w_
  rename World => w_
  go_wp2_with fail
  go_loopw [3, 4] (fun v i wr => ∃ k : Nat, ∃ A' c', k ≤ 32 ∧ i = .int .i64 k ∧ v = .slice A' k c' ∧ Hid (wr.ownsRow (w.heap.size + 1) 5 1 (.slice A' k c') k (xs.take k)) ∧ Hid (Below w.heap.size w wr) ∧ Hid (At wr w.heap.size 28 32 xs)) (fun _ i _ => 32 - (intOf i).toNat)
  case atStart => exact ⟨0, none, 0, by omega, rfl, rfl, Lib.hid (by simpa using World.ownsRow_nil _ _ _ _), HB, HX⟩
  case round =>
    obtain ⟨k, A3, c3, hk, rfl, rfl, hown, hbw, hat⟩ := hrel
    clear HB HX
    by_cases hlt : k < 32
    · obtain ⟨x, hx, _⟩ := HD.out.at_ hlt
      have hc := hat.out.blk.at_ hx
      have HXK := Lib.hid hx
      clear hx
      go_wp2_with (at_builtin; refine wpl_app1 rfl rfl el_u8 hown.out rfl (m := 1) rfl rfl ?_ ?_ ?_ ?_ ?_)
      · rfl
      · omega
      · omega
      · have := hat.out.lt; omega
      · intro A4 c4 w4 ho hg hA
        have HO := Lib.hid (show w4.ownsRow (w.heap.size + 1) 5 1 (.slice A4 (k + 1) c4) (k + 1) (xs.take (k + 1)) by rw [List.take_add_one, HXK.out]; exact ho)
        have HB := Lib.hid (show Below w.heap.size w w4 from hbw.out.grown hg hbw.out.size (fun g hg => by have := own_from hown.out g hg; omega))
        have HX := Lib.hid (at_mk (hat.out.blk.grown hg (by intro hh; have := own_from hown.out _ hh.symm; omega)) hat.out.len)
        clear ho hg hA hc
        go_wp2_with fail
        go_roundw
        case rel => exact ⟨k + 1, A4, c4, by omega, by go_num, rfl, HO, HB, HX⟩
        case measure => simp [intOf]; omega
    · obtain rfl : k = 32 := by omega
      have e : xs.take 32 = d.map B := by rw [List.take_of_length_le (by rw [HD.out.len]; exact Nat.le_refl _), HD.out.1]
      have HO := Lib.hid (e ▸ hown.out)
      clear e
      have HC := Lib.hid (own_form hown.out (by omega))
      go_wp2_with fail
      go_ret
      exact ⟨A3, c3, rfl, Sl.of_own HO.out, (by obtain ⟨g, _, _, _, h⟩ := HC.out; exact h), hbw.out⟩

def padB (key : List UInt8) : List UInt8 := (if 64 < key.length then sha key else key) ++ List.replicate (64 - (if 64 < key.length then sha key else key).length) 0
theorem padB_length (key : List UInt8) : (padB key).length = 64 := by
  unfold padB
  have := sha_length key
  split <;> simp <;> omega
end Go.Proofs.Ytofhohofaedokaa

/- Contract of sha.Under. -/
namespace Go.Proofs.Ytofhohofaedokaa
open Go.RowKit Go.Shelf
set_option linter.unusedVariables false

def longB (bs : List UInt8) : List UInt8 := beBytes bs.length 4 ++ bs
def underB (m : UInt8) (ls : List (List UInt8)) : List UInt8 := m :: ls.flatMap longB
theorem underB_snoc (m : UInt8) (ls : List (List UInt8)) (x : List UInt8) : underB m (ls ++ [x]) = underB m ls ++ (beBytes x.length 4 ++ x) := by
  unfold underB; rw [List.flatMap_append]; simp [longB]
theorem beBytes_len (v n : Nat) : (beBytes v n).length = n := by unfold beBytes; simp
theorem underB_le (m : UInt8) (ls : List (List UInt8)) (N : Nat) (h : ∀ l ∈ ls, l.length ≤ N) : (underB m ls).length ≤ 1 + ls.length * (4 + N) := by
  unfold underB
  induction ls with
  | nil => simp
  | cons x xs ih =>
    have h1 := h x (by simp)
    have h2 := ih fun l hl => h l (by simp [hl])
    simp only [List.flatMap_cons, List.length_cons, List.length_append, longB, beBytes_len, Nat.succ_mul] at *
    omega
theorem info_su8 : (Try.prog.info? 70).map (fun i => (i.zero, i.size, i.bytes)) = some (some (.slice none 0 0), 1, 24) := by kernel_rfl
/-- A part that no append onto the row 'row' turns. -/
def PartIn (w : World) (row : Option Nat) (p : Value × List UInt8) : Prop := ∃ A c, p.1 = .slice A p.2.length c ∧ p.2.length ≤ c ∧ Sl w w.heap.size 1 A p.2.length (p.2.map B) ∧ (0 < p.2.length → A.map Addr.block ≠ row)
theorem PartIn.grow {w w2 : World} {row : Option Nat} {p : Value × List UInt8} (h : PartIn w row p) (k : Grow w w2) : PartIn w2 row p := by
  obtain ⟨A, c, h1, h2, h3, h4⟩ := h
  exact ⟨A, c, h1, h2, h3.grow k, h4⟩
theorem PartIn.step {w w2 : World} {row row' : Option Nat} {p : Value × List UInt8} (h : PartIn w row p) (hg : w.grownBy w2 row) (hA : row' = row ∨ ∃ j, row' = some (w.heap.size + j)) : PartIn w2 row' p := by
  obtain ⟨A, c, h1, h2, h3, h4⟩ := h
  refine ⟨A, c, h1, h2, ⟨h3.1, fun hn => ?_⟩, fun hn => ?_⟩
  · obtain ⟨b, off, e, hb, hc⟩ := h3.2 hn
    refine ⟨b, off, e, Nat.lt_of_lt_of_le hb hg.size, fun j u hu => hg.cell (hc j u hu) ?_⟩
    have := h4 hn
    rw [e] at this
    exact this
  · obtain ⟨b, off, e, hb, hc⟩ := h3.2 hn
    rcases hA with hA | ⟨j, hA⟩
    · rw [hA]; exact h4 hn
    · rw [hA, e]
      intro hh
      simp only [Option.map_some, Option.some.injEq] at hh
      omega
theorem PartIn.ok {w : World} {row : Option Nat} {p : Value × List UInt8} (h : PartIn w row p) : PartOK w w.heap.size p := by
  obtain ⟨A, c, h1, h2, h3, h4⟩ := h
  exact ⟨A, c, h1, h2, h3⟩
theorem PartIn.of {w : World} {row : Option Nat} {Bd : Nat} {p : Value × List UInt8} (h : PartOK w Bd p) (hB : Bd ≤ w.heap.size) (hr : ∀ g, row = some g → Bd ≤ g) : PartIn w row p := by
  obtain ⟨A, c, h1, h2, h3⟩ := h
  refine ⟨A, c, h1, h2, h3.more hB, fun hn hh => ?_⟩
  obtain ⟨b, off, e, hb, _⟩ := h3.2 hn
  rw [e] at hh
  have := hr b hh.symm
  omega
theorem PartIn.own {w : World} {row : Option Nat} {base n c : Nat} {A : Option Addr} {bs : List UInt8} (h : w.ownsRow base 5 1 (.slice A n c) n (bs.map B)) (hc : n ≤ c) (hr : ∀ g, row = some g → g < base) : PartIn w row (.slice A n c, bs) := by
  have e : bs.length = n := by have := h.1; simpa using this
  refine ⟨A, c, by rw [e], by rw [e]; exact hc, by rw [e]; exact Sl.of_own h, fun _ hh => ?_⟩
  have := own_from h
  rcases A with _ | a
  · simp only [Option.map_none] at hh
    have h0 := (Sl.of_own h).2
    rename_i hpos
    obtain ⟨b, off, e2, _⟩ := h0 (by simp only at hpos; omega)
    cases e2
  · have h1 := this a.block rfl
    have h2 := hr a.block hh.symm
    omega

def UInv (w wr : World) (A : Option Addr) (c k : Nat) (qs ps : List (Value × List UInt8)) (m : UInt8) : Prop :=
  wr.ownsRow (w.heap.size + 1) 70 1 (.slice A (2 * k + 1) c) (2 * k + 1) (qs.map Prod.fst) ∧ (∀ q ∈ qs, PartIn wr (A.map Addr.block) q) ∧ cat qs = underB m ((ps.take k).map Prod.snd) ∧ Below w.heap.size w wr ∧ At wr w.heap.size 28 32 (List.replicate 32 (B 0))
theorem u_step {w wr w2 w4 : World} {A A4 : Option Addr} {c c4 k g4 : Nat} {qs ps : List (Value × List UInt8)} {m : UInt8} {p : Value × List UInt8} (h : UInv w wr A c k qs ps m) (hp : PartOK wr w.heap.size p) (hk : ps[k]? = some p)
    (hb2 : Below wr.heap.size wr w2) (ho4 : w2.ownsRow wr.heap.size 5 1 (.slice (some ⟨g4, 0, none⟩) 4 4) 4 ((beBytes p.2.length 4).map B))
    (ho : w4.ownsRow (w.heap.size + 1) 70 1 (.slice A4 (2 * k + 1 + 2) c4) (2 * k + 1 + 2) (qs.map Prod.fst ++ [.slice (some ⟨g4, 0, none⟩) 4 4, p.1]))
    (hg : w2.grownBy w4 (A.map Addr.block)) (hA : A4.map Addr.block = A.map Addr.block ∨ A4.map Addr.block = some (w2.heap.size + 1)) :
    UInv w w4 A4 c4 (k + 1) (qs ++ [(.slice (some ⟨g4, 0, none⟩) 4 4, beBytes p.2.length 4), p]) ps m := by
  obtain ⟨h1, h2, h3, h4, h5⟩ := h
  have hA' : A4.map Addr.block = A.map Addr.block ∨ ∃ j, A4.map Addr.block = some (w2.heap.size + j) := hA.imp_right fun e => ⟨1, e⟩
  have hfrom := own_from h1
  have hlt : ∀ g, A.map Addr.block = some g → g < wr.heap.size := fun g hg => (h1.lt g (by cases A <;> simp_all [Value.ownBlock])).2
  have e : 2 * (k + 1) + 1 = 2 * k + 1 + 2 := by omega
  refine ⟨?_, ?_, ?_, ?_, ?_⟩
  · rw [e, List.map_append]; exact ho
  · intro q hq
    simp only [List.mem_append, List.mem_cons, List.not_mem_nil, or_false] at hq
    rcases hq with hq | rfl | rfl
    · exact ((h2 q hq).grow hb2).step hg hA'
    · exact (PartIn.own ho4 (Nat.le_refl _) hlt).step hg hA'
    · exact ((PartIn.of hp h4.size (fun g hg => by have := hfrom g hg; omega)).grow hb2).step hg hA'
  · have e2 : cat (qs ++ [(.slice (some ⟨g4, 0, none⟩) 4 4, beBytes p.2.length 4), p]) = cat qs ++ (beBytes p.2.length 4 ++ p.2) := by unfold cat; simp
    rw [e2, h3, List.take_add_one, hk, Option.toList_some, List.map_append, List.map_cons, List.map_nil, underB_snoc]
  · exact (h4.trans (hb2.mono h4.size)).grown hg (Nat.le_trans h4.size hb2.size) fun g hg => by have := hfrom g hg; omega
  · refine ⟨(h5.1.grow hb2).grown hg fun hh => ?_, h5.2⟩
    have := hfrom _ hh.symm
    omega
theorem u_end {w wr : World} {A : Option Addr} {c n : Nat} {qs ps : List (Value × List UInt8)} {m : UInt8} (h : UInv w wr A c n qs ps m) (hn : ps.length = n) : Parts wr wr.heap.size A (2 * n + 1) qs ∧ cat qs = underB m (ps.map Prod.snd) := by
  obtain ⟨h1, h2, h3, _, _⟩ := h
  refine ⟨parts_mk (Sl.of_own h1) fun q hq => (h2 q hq).ok, ?_⟩
  rw [h3, List.take_of_length_le (by omega)]
theorem u_start {w w1 : World} {m : UInt8} {ps : List (Value × List UInt8)} (h : Below w.heap.size w w1) (hz : w.heap.size + 1 ≤ w1.heap.size) (hr : At w1 w.heap.size 28 32 (List.replicate 32 (B 0))) :
    UInv w ((w1.alloc (.cells #[B m] 5)).alloc (.cells #[.slice (some ⟨w1.heap.size, 0, none⟩) 1 1] 70)) (some ⟨w1.heap.size + 1, 0, none⟩) 1 0 [(.slice (some ⟨w1.heap.size, 0, none⟩) 1 1, [m])] ps m := by
  have h1 := alloc_new w1 #[B m] 5
  have h2 := alloc_new (w1.alloc (.cells #[B m] 5)) #[.slice (some ⟨w1.heap.size, 0, none⟩) 1 1] 70
  refine ⟨?_, ?_, ?_, ?_, ?_⟩
  · have := World.ownsRow_lit (base := w.heap.size + 1) (e := 70) (size := 1) (w1.alloc (.cells #[B m] 5)) #[.slice (some ⟨w1.heap.size, 0, none⟩) 1 1] 1 (by rw [h1.2.2]; omega) (by simp [maxLen]) rfl
    rw [h1.2.2] at this
    exact this
  · intro q hq
    simp only [List.mem_cons, List.not_mem_nil, or_false] at hq
    subst hq
    refine PartIn.grow ⟨_, _, rfl, Nat.le_refl _, h1.1.sl rfl, fun _ hh => ?_⟩ h2.2.1
    simp only [Option.map_some, Option.some.injEq] at hh
    omega
  · unfold cat; simp [underB]
  · exact h.grow' (Grow.trans _ _ _ h1.2.1 h2.2.1)
  · exact hr.grow (Grow.trans _ _ _ h1.2.1 h2.2.1)
attribute [irreducible] underB longB

end Go.Proofs.Ytofhohofaedokaa

/- Contracts of layer 5: the length of a number, the first part, a leaf's and a node's digest; the document's. -/
namespace Go.Proofs.Ytofhohofaedokaa
open Go.RowKit Go.Shelf
set_option linter.unusedVariables false

set_option maxRecDepth 100000 in
theorem len8tab_size' : (Lib.len8tab.size : Int) = 256 := by
  have : Lib.len8tab.size = 256 := by decide
  omega
theorem wrap_add' (k a b : Nat) (hk : k ≤ 56) (ha : a ≤ 8) (hb : b = k + a) : RowKit.wrap64 ((k : Int) + RowKit.wrap64 (a : Int)) = (b : Int) := by
  unfold RowKit.wrap64
  omega
theorem wrap_wrap' (a : Nat) (ha : a ≤ 8) : RowKit.wrap64 (RowKit.wrap64 (a : Int)) = (a : Int) := by
  unfold RowKit.wrap64
  omega
theorem len8_get' (y : Int) (h : y.toNat < Lib.len8tab.size) : ((Lib.len8tab[y.toNat]'h).toNat : Int) = Lib.len8 y := by
  unfold Lib.len8
  rw [getElem?_pos Lib.len8tab y.toNat h]
  rfl
set_option maxHeartbeats 4000000 in
set_option maxRecDepth 100000 in
theorem len64_any (x : Int) (w : World) (h0 : 0 ≤ x) (h1 : x ≤ 16777215) :
    Calls Try.prog 78 #[.int .u64 x] w fun e w' => e = .returned (.int .i64 (Lib.bitLen x.toNat)) ∧ w' = w := by
  have q1 : decide (4294967296 ≤ x) = false := by simp; omega
  go_enter Try.func78, Try.ntmps78
  go_wp2
  all_goals first
    | (go_ret; refine ⟨congrArg Ending.returned (congrArg (Value.int IntKind.i64) ?_), rfl⟩)
    | (exfalso
       have hs := len8tab_size'
       omega)
  all_goals first
    | (rw [len8_get' (x / 65536) _, Lib.len8_of (x / 65536) (by omega) (by omega)]
       have e : (x / 65536).toNat = x.toNat / 65536 := by omega
       have l := Lib.bitLen_le8' (x / 65536) (by omega) (by omega)
       have s := Lib.bitLen_shift16 x.toNat (by omega) (by omega)
       rw [e] at l ⊢
       exact wrap_add' 16 _ _ (by decide) l s)
    | (rw [len8_get' (x / 256) _, Lib.len8_of (x / 256) (by omega) (by omega)]
       have e : (x / 256).toNat = x.toNat / 256 := by omega
       have l := Lib.bitLen_le8' (x / 256) (by omega) (by omega)
       have s := Lib.bitLen_shift8 x.toNat (by omega) (by omega)
       rw [e] at l ⊢
       exact wrap_add' 8 _ _ (by decide) l s)
    | (rw [len8_get' x _, Lib.len8_of x (by omega) (by omega)]
       exact wrap_wrap' _ (Lib.bitLen_le8' x (by omega) (by omega)))

/-- The greatest power of two below n. -/
def halfN (n : Nat) : Nat := 2 ^ Nat.log2 (n - 1)
theorem halfN_lt {n : Nat} (h : 2 ≤ n) : halfN n < n := by
  unfold halfN
  have := Nat.log2_self_le (n := n - 1) (by omega)
  omega
theorem halfN_pos (n : Nat) : 0 < halfN n := Nat.two_pow_pos _
theorem halfN_of {n j : Nat} (h1 : 2 ^ j < n) (h2 : n ≤ 2 * 2 ^ j) : halfN n = 2 ^ j := by
  unfold halfN
  have : (n - 1).log2 = j := (Nat.log2_eq_iff (by omega)).2 ⟨by omega, by rw [Nat.pow_succ]; omega⟩
  rw [this]
theorem bitLenAux_log : ∀ (f x : Nat), x < 2 ^ f → x ≠ 0 → Lib.bitLenAux f x = Nat.log2 x + 1
  | 0, x, h, h0 => by simp at h; omega
  | f + 1, x, h, h0 => by
    unfold Lib.bitLenAux
    rw [if_neg h0]
    by_cases h2 : x / 2 = 0
    · have hx : x = 1 := by omega
      subst hx
      cases f <;> simp [Lib.bitLenAux] <;> decide
    · rw [bitLenAux_log f (x / 2) (by rw [Nat.pow_succ] at h; omega) h2]
      have : x.log2 = (x / 2).log2 + 1 := by
        rw [Nat.log2_def, if_pos (by omega)]
      omega
theorem bitLen_log {x : Nat} (h : x < 2 ^ 64) (h0 : x ≠ 0) : Lib.bitLen x = Nat.log2 x + 1 := bitLenAux_log 64 x h h0

set_option maxRecDepth 100000 in
theorem len_any (x : Nat) (w : World) (h1 : x ≤ 16777215) :
    Calls Try.prog 65 #[.int .u64 x] w fun e w' => e = .returned (.int .i64 (Lib.bitLen x)) ∧ w' = w := by
  go_enter Try.func65, Try.ntmps65
  go_wp2_with fail
  refine (len64_any x w (by omega) (by omega)).mono ?_
  rintro e w1 ⟨rfl, rfl⟩
  go_wp2_with fail
  go_ret
  exact ⟨rfl, rfl⟩
theorem log2_le24 {x : Nat} (h : x ≤ 16777215) : Nat.log2 x ≤ 23 := by
  by_cases h0 : x = 0
  · subst h0; decide
  · have := Nat.log2_lt (n := x) (k := 24) h0 |>.2 (by omega)
    omega
theorem pow_fit {j : Nat} (h : j ≤ 23) : (2 ^ j : Nat) ≤ 8388608 := Nat.le_trans (Nat.pow_le_pow_right (by omega) h) (by decide)

def leafB (b : List UInt8) : List UInt8 := sha (underB 1 [b])
def nodeB (a b : List UInt8) : List UInt8 := sha (underB 2 [a, b])
def noneB : List UInt8 := sha (underB 0 [])
theorem leafB_len (b : List UInt8) : (leafB b).length = 32 := sha_length _
theorem nodeB_len (a b : List UInt8) : (nodeB a b).length = 32 := sha_length _
theorem noneB_len : noneB.length = 32 := sha_length _

end Go.Proofs.Ytofhohofaedokaa

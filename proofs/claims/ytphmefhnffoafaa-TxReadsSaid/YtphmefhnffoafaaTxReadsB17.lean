/- The contract of the document's Read of a transaction. Printed by mkrtread.py. -/
import Derived.Test.YtphmefhnffoafaaTxReadsB12
import Derived.Test.YtphmefhnffoafaaTxReadsB15
import Derived.Test.YtphmefhnffoafaaTxReadsB16
import Derived.Deep.CutBlock
import Derived.Deep.CutRange
set_option linter.unusedSimpArgs false
/- The contract of the document's Read of a transaction. Printed by mkrtread.py. -/
namespace Go.Proofs.Ytphmefhnffoafaa
open Go.RowKit Go.Shelf
set_option linter.unusedVariables false
theorem bt_pt1 {xs : List Value} (h : xs.length = 32) : Try.prog.built 39 [(0, .agg xs.toArray)] = some (xs ++ [Value.int .i64 0]).toArray := by
  rw [built_point0, fill_cons (off := 0) (s := 32) (cs := xs) (by simp) rfl h (by rw [ptZ_len]; omega), fill_nil]
  rw [show ptZ = [] ++ (zeroD.map B ++ [Value.int .i64 0]) from rfl, splice_mid (off := 0) (by rfl) (by simp [h, zeroD])]; rfl
theorem in_set3 {d : List UInt8} {v : Value} {z a : Int} {s : List UInt8} (h : d.length = 32) : ((((d.map B ++ [Value.int .i64 0]) ++ [Value.int .u64 0, .slice none 0 0]).set 32 (.int .i64 z)).set 33 (.int .u64 a)).set 34 v = inV v ⟨d, z, a, s⟩ := by
  have h2 : (d.map B).length = 32 := by simp [h]
  unfold inV
  simp only
  generalize d.map B = q at h2 ⊢
  rw [List.append_assoc, List.set_append_right _ _ (by omega), List.set_append_right _ _ (by omega), List.set_append_right _ _ (by omega), h2]; rfl
def SecR (w : World) (Bd : Nat) (l : List (Value × Inp)) : Prop := ∀ p ∈ l, (∃ A c, p.1 = .slice A p.2.secret.length c ∧ p.2.secret.length ≤ c ∧ Sl w Bd 1 A p.2.secret.length (p.2.secret.map B)) ∧ p.2.ok
theorem SecR.snoc {w : World} {Bd : Nat} {l : List (Value × Inp)} {v : Value} {i : Inp} (h : SecR w Bd l) (hs : ∃ A c, v = .slice A i.secret.length c ∧ i.secret.length ≤ c ∧ Sl w Bd 1 A i.secret.length (i.secret.map B)) (hi : i.ok) : SecR w Bd (l ++ [(v, i)]) := by
  intro p hp
  rcases List.mem_append.1 hp with hp | hp
  · exact h p hp
  · have : p = (v, i) := by simpa using hp
    subst this; exact ⟨hs, hi⟩
theorem insAt_of {w w' : World} {Bd Z n c : Nat} {A : Option Addr} {l : List (Value × Inp)} (ho : w'.ownsRow Z 41 35 (.slice A n c) n (l.flatMap fun p => inV p.1 p.2)) (hs : SecR w Bd l) (hl : l.length = n) (hb : Below Bd w w') (hz : Bd ≤ w'.heap.size) : InsAt w' A n c l :=
  ⟨Sl.of_own ho, fun p hp => by
    obtain ⟨⟨A', c', e, hc, h1⟩, hk⟩ := hs p hp
    exact ⟨⟨A', c', e, hc, (h1.below hb).more hz⟩, hk⟩, hl, by
    rcases Nat.eq_zero_or_pos n with e | e
    · omega
    · obtain ⟨_, _, _, _, h4⟩ := own_form ho e; exact h4⟩
theorem outsAt_of {w' : World} {Z n c : Nat} {A : Option Addr} {l : List Outp} (ho : w'.ownsRow Z 43 33 (.slice A n c) n (l.flatMap outV)) (hk : ∀ o ∈ l, o.ok) (hl : l.length = n) : OutsAt w' A n c l :=
  ⟨Sl.of_own ho, hk, hl, by
    rcases Nat.eq_zero_or_pos n with e | e
    · omega
    · obtain ⟨_, _, _, _, h4⟩ := own_form ho e; exact h4⟩
theorem meas_up (k v : Nat) (h : k < v) (z : Int) (hz : z = (k : Int) + 1) : v - (intOf (.int .i64 z)).toNat < v - (intOf (.int .i64 (k : Int))).toNat := by
  subst hz; simp only [intOf]; omega
theorem put_below0 {w w1 w2 : World} {Bd q : Nat} (hw : Bd ≤ w.heap.size) (h : Below Bd w w1) (hq : Bd ≤ q) (k : w1.grownBy w2 (some q)) : Below Bd w w2 :=
  h.grown k (Nat.le_trans hw h.size) (by intro i e; cases e; exact hq)
theorem below_row {w w1 w2 : World} {Bd Z : Nat} {A : Option Addr} (hw : Bd ≤ w.heap.size) (h : Below Bd w w1) (k : w1.grownBy w2 (A.map Addr.block)) (hA : ∀ q, A.map Addr.block = some q → Z ≤ q) (hZ : Bd ≤ Z) : Below Bd w w2 :=
  h.grown k (Nat.le_trans hw h.size) (fun i e => Nat.le_trans hZ (hA i e))
set_option maxRecDepth 100000 in
set_option maxHeartbeats 16000000 in
theorem rtread_any {A0 : Option Addr} {n0 c0 : Nat} {l : List UInt8} (w : World) (hs : Sl w w.heap.size 1 A0 n0 (l.map B)) (hc : n0 ≤ c0) (hn : n0 ≤ 1000000) : Calls Try.prog 6 #[.slice A0 n0 c0] w fun e w' => TRead w w' l e := by
  obtain rfl : n0 = l.length := by have := hs.len; simpa using this.symm
  have HCZ := Lib.hid (txV_cl (A := none) (n := 0) (c := 0) (A2 := none) (n2 := 0) (c2 := 0) (fee := 0) (ex := 0))
  have T0 := Lib.hid bt_tx0
  have ZT := Lib.hid zero_tx
  obtain ⟨zt, hzt⟩ : ∃ q, q = txV none 0 0 none 0 0 0 0 := ⟨_, rfl⟩
  have HZT := Lib.hid hzt
  rw [← hzt] at HCZ T0 ZT
  clear hzt
  have HERR := Lib.hid (fun (w' : World) (er : Nat) (h1 : readT l = .error er) (hb : Below w.heap.size w w') => show TRead w w' l (.returned (.tuple #[.agg zt.toArray, .int .i64 (er : Int)])) from
    ⟨none, 0, 0, none, 0, 0, [], by rw [h1, HZT.out]; rfl, insAt_nil, by rw [h1]; rfl, by rw [h1]; exact outsAt_nil, hb⟩)
  have HOK := Lib.hid (fun (w' : World) (t : Txn) (h1 : readT l = .ok t) (A : Option Addr) (n c : Nat) (A2 : Option Addr) (n2 c2 : Nat) (ls : List (Value × Inp)) (h2 : InsAt w' A n c ls) (h3 : ls.map Prod.snd = t.ins) (h4 : OutsAt w' A2 n2 c2 t.outs) (hb : Below w.heap.size w w') =>
    show TRead w w' l (.returned (.tuple #[.agg (txV A n c A2 n2 c2 t.fee t.expiry).toArray, .int .i64 ((0 : Nat) : Int)])) from ⟨A, n, c, A2, n2, c2, ls, by rw [h1]; rfl, h2, by rw [h1]; exact h3, by rw [h1]; exact h4, hb⟩)
  have HS := Lib.hid hs
  have HC := Lib.hid hc; have HN := Lib.hid hn
  obtain ⟨Bd, hBd⟩ : ∃ b, b = w.heap.size := ⟨_, rfl⟩
  rw [← hBd] at HS HERR HOK
  have HBW := Lib.hid (show Bd ≤ w.heap.size by omega)
  have HBE := Lib.hid hBd
  obtain ⟨w_, hw⟩ : ∃ x, x = w := ⟨_, rfl⟩
  have HB := Lib.hid (show Below Bd w w_ by rw [hw]; exact Below.refl _ _)
  have HBZ := Lib.hid (show Bd ≤ w_.heap.size by rw [hw, hBd]; exact Nat.le_refl _)
  suffices H : Calls Try.prog 6 #[.slice A0 l.length c0] w_ fun e w' => TRead w w' l e by rw [hw] at H; exact H
  clear hw hs hc hn hBd
  go_enter Try.func6, Try.ntmps6
  go_wp2_with (first | (with_reducible refine wpl_alloc (o := ⟨some 2, _, _, _, _, _⟩) rfl rfl ZT.out ?_))
  intro w2_ hb2_ hb_ hsz2_
  have HV := Lib.hid (at_mk hb2_ HCZ.out.len)
  have HN1 := Lib.hid HBZ.out
  have HB_ := Lib.hid (HB.out.trans (hb_.mono HBZ.out)); have HBZ_ := Lib.hid (Nat.le_trans HBZ.out hb_.size)
  generalize hg_ : w_.heap.size = g2 at HV HN1 ⊢
  clear hb2_ hsz2_ hg_ hb_ HB HBZ
  have HB := HB_; have HBZ := HBZ_
  clear HB_ HBZ_
  try clear w_
  rename World => w_
  go_wp2_with (first | (with_reducible refine wpl_alloc (o := ⟨some 5, _, _, _, _, _⟩) rfl rfl ZT.out ?_))
  generalize hw1 : World.alloc w_ _ = w2_
  obtain ⟨hX_, hb_, hs_⟩ := alloc_eq hw1
  have HN2 := Lib.hid HV.out.lt
  have HV_ := Lib.hid (HV.out.grow hb_); have HB_ := Lib.hid (HB.out.trans (hb_.mono HBZ.out)); have HBZ_ := Lib.hid (Nat.le_trans HBZ.out hb_.size)
  have HY := Lib.hid (show YAt w2_ Bd w_.heap.size (l, 0) from ⟨A0, c0, hX_, (HS.out.below HB_.out), HC.out, HBZ.out, HN.out⟩)
  generalize hg_ : w_.heap.size = gy at HY HN2 hs_ ⊢
  rw [← hs_]
  clear hw1 hX_ hb_ hs_ hg_ HV HB HBZ
  have HV := HV_; have HB := HB_; have HBZ := HBZ_
  clear HV_ HB_ HBZ_
  try clear w_
  rename World => w_
  intro w2_ hb2_ hb_ hsz2_
  have HT := Lib.hid (show Blk w2_ w_.heap.size 28 (txV none 0 0 none 0 0 0 0) by rw [← HZT.out]; exact hb2_)
  have HN3 := Lib.hid HY.out.lt
  have HV_ := Lib.hid (HV.out.grow hb_); have HB_ := Lib.hid (HB.out.trans (hb_.mono HBZ.out)); have HY_ := Lib.hid (HY.out.grow hb_)
  generalize hg_ : w_.heap.size = gt at HT HN3 ⊢
  clear hb2_ hsz2_ hg_ hb_ HB HBZ HV HY
  have HV := HV_; have HB := HB_; have HY := HY_
  clear HV_ HB_ HY_
  try clear w_
  rename World => w_
  obtain ⟨Z, hZ⟩ : ∃ z, z = gt + 1 := ⟨_, rfl⟩
  have HNUM := Lib.hid (show Bd ≤ g2 ∧ g2 < gy ∧ gy < gt ∧ gt < Z by have := HN1.out; have := HN2.out; have := HN3.out; omega)
  have HZW := Lib.hid (show Z ≤ w_.heap.size by have := HT.out.lt; omega)
  clear hZ HN1 HN2 HN3
  have HST := Lib.hid (show Stg l (l, 0) (fun t => t = l) from st0 l)
  have HCL := Lib.hid (fun (_ : Unit) => ynum_any (m := 16) (by omega) _ HY.out)
  have HSN := Lib.hid (st1 (l := l))
  have HV0 := Lib.hid ((numY_le 16 (l, 0)).1)
  obtain ⟨rY, hrY⟩ : ∃ q, q = numY 16 (l, 0) := ⟨_, rfl⟩
  rw [← hrY] at HCL HSN HV0
  clear hrY
  obtain ⟨v0, s0⟩ := rY
  simp only at HCL HSN HV0
  clear HST
  have HST := HSN
  clear HSN
  go_wp2_with fail
  refine (HCL.out ()).mono ?_
  rintro e w2_ ⟨rfl, hY_, hg_⟩
  replace HV := Lib.hid (HV.out.off hg_ (by have := HNUM.out; omega))
  replace HT := Lib.hid (HT.out.grown hg_ (fun e => by injection e with e; have := HNUM.out; omega))
  replace HB := Lib.hid (put_below0 HBW.out HB.out (by have := HNUM.out; omega) hg_)
  replace HZW := Lib.hid (Nat.le_trans HZW.out hg_.size)
  clear HCL HY hg_
  have HY := Lib.hid hY_
  clear hY_
  try clear w_
  rename World => w_
  go_upto_block 0 with fail
  go_cut [] from 7 (fun wr => ∃ k : Nat, ∃ A c, ∃ ls : List (Value × Inp), ∃ s, k ≤ 16 ∧ Hid (Stg l s (P2 l v0 v0 (ls.map Prod.snd))) ∧ Hid (SecR w Bd ls ∧ ls.length = k) ∧ Hid (YAt wr Bd gy s) ∧ Hid (At wr g2 28 4 zt) ∧ Hid (Blk wr gt 28 (txV A k c none 0 0 0 0)) ∧ Hid (wr.ownsRow Z 41 35 (.slice A k c) k (ls.flatMap fun p => inV p.1 p.2)) ∧ Hid (Below Bd w wr) ∧ Hid (Z ≤ wr.heap.size))
  case first =>
    as_aux_lemma =>
      go_wp2_with fail
      go_loopw [7] (fun iv wr => ∃ k : Nat, ∃ A c, ∃ ls : List (Value × Inp), ∃ s, k ≤ v0 ∧ iv = .int .i64 (k : Int) ∧ Hid (Stg l s (P2 l v0 k (ls.map Prod.snd))) ∧ Hid (SecR w Bd ls ∧ ls.length = k) ∧ Hid (YAt wr Bd gy s) ∧ Hid (At wr g2 28 4 zt) ∧ Hid (Blk wr gt 28 (txV A k c none 0 0 0 0)) ∧ Hid (wr.ownsRow Z 41 35 (.slice A k c) k (ls.flatMap fun p => inV p.1 p.2)) ∧ Hid (Below Bd w wr) ∧ Hid (Z ≤ wr.heap.size)) (fun iv _ => v0 - (intOf iv).toNat)
      case atStart => exact ⟨0, none, 0, [], s0, by omega, rfl, Lib.hid (st2 HST.out), Lib.hid ⟨(fun p hp => by cases hp), rfl⟩, HY, HV, HT, Lib.hid (own_nil0 _ _ _ _), HB, HZW⟩
      case round =>
        obtain ⟨k, A, c, ls, s, hk, rfl, h1, h2, h3, h4, h5, h6, h7, h8⟩ := hrel
        clear HY HV HT HB HZW HST
        have HST := Lib.hid h1.out; have HSC := Lib.hid h2.out; have HY := Lib.hid h3.out; have HVo := Lib.hid h4.out; have HTo := Lib.hid h5.out; have HOo := Lib.hid h6.out; have HBo := Lib.hid h7.out; have HZo := Lib.hid h8.out
        clear h1 h2 h3 h4 h5 h6 h7 h8
        rename World => w_
        obtain ⟨wo, hwo⟩ : ∃ x, x = w_ := ⟨_, rfl⟩
        have HW := Lib.hid (show wo.grownBy w_ (some gy) by rw [hwo]; exact grownBy_refl _ _)
        rw [← hwo] at HVo HTo HOo HBo HZo
        clear hwo
        have q0 : IntKind.i64.wrap (v0 : Int) = (v0 : Int) := IntWalk.i64_in _ (by have := HV0.out; omega)
        obtain ⟨Ay, cy, hy1, _⟩ := HY.out
        have cy1 := hy1.at_ (i := 1) rfl
        clear hy1
        have HEXIT := Lib.hid (show Stg l s (P2 l v0 v0 (ls.map Prod.snd)) → ∃ k : Nat, ∃ A c, ∃ ls : List (Value × Inp), ∃ s, k ≤ 16 ∧ Hid (Stg l s (P2 l v0 v0 (ls.map Prod.snd))) ∧ Hid (SecR w Bd ls ∧ ls.length = k) ∧ Hid (YAt w_ Bd gy s) ∧ Hid (At w_ g2 28 4 zt) ∧ Hid (Blk w_ gt 28 (txV A k c none 0 0 0 0)) ∧ Hid (w_.ownsRow Z 41 35 (.slice A k c) k (ls.flatMap fun p => inV p.1 p.2)) ∧ Hid (Below Bd w w_) ∧ Hid (Z ≤ w_.heap.size) from fun h => ⟨k, A, c, ls, s, by have := HV0.out; omega, Lib.hid h, HSC, HY, Lib.hid (HVo.out.off HW.out (by have := HNUM.out; omega)), Lib.hid (HTo.out.grown HW.out (fun e => by injection e with e; have := HNUM.out; omega)), Lib.hid (own_sub HOo.out (fun b hb hlt => HW.out.block b hlt (fun e => by injection e with e; have := HNUM.out; omega))), Lib.hid (put_below0 HBW.out HBo.out (by have := HNUM.out; omega) HW.out), Lib.hid (Nat.le_trans HZo.out HW.out.size)⟩)
        by_cases hlt : k < v0
        · by_cases he : s.2 = 0
          · have d1 : ((s.2 : Int) == 0) = true := by simp [he]
            have q1 : RowKit.wrap64 ((k : Int) + 1) = (k : Int) + 1 := wrap64_in _ (by have := HV0.out; omega)
            have HQ1 := Lib.hid q1
            clear q1 HEXIT
            have HCL := Lib.hid (fun (_ : Unit) => yid_any _ HY.out)
            have HSN := Lib.hid (st2a HST.out hlt)
            have HDL := Lib.hid (idY_32 s)
            obtain ⟨rY, hrY⟩ : ∃ q, q = idY s := ⟨_, rfl⟩
            rw [← hrY] at HCL HSN HDL
            clear hrY
            obtain ⟨dd, s1⟩ := rY
            simp only at HCL HSN HDL
            clear HST
            have HST := HSN
            clear HSN
            go_wp2_with fail
            refine (HCL.out ()).mono ?_
            rintro e w2_ ⟨rfl, hY_, hg_⟩
            have HW_ := Lib.hid (grownBy_trans HW.out hg_)
            clear HW
            have HW := HW_
            clear HW_
            clear HCL HY hg_
            have HY := Lib.hid hY_
            clear hY_
            try clear w_
            rename World => w_
            clear d1 cy1 q0
            have HD := Lib.hid (show Cl 32 (dd.map B) from ⟨by rw [List.length_map]; exact HDL.out, all_bytes _⟩)
            have TP := Lib.hid (bt_pt1 (xs := dd.map B) HD.out.len)
            have HPL := Lib.hid (show (dd.map B ++ [Value.int .i64 0]).length = 33 by have := HD.out.len; simp only [List.length_append, List.length_singleton]; omega)
            have TI := Lib.hid (bt_tin HPL.out)
            have HIL := Lib.hid (show ((dd.map B ++ [Value.int .i64 0]) ++ [Value.int .u64 0, .slice none 0 0]).length = 35 by have := HPL.out; rw [List.length_append, this]; rfl)
            have HI1 := Lib.hid (show ∀ u ∈ (dd.map B ++ [Value.int .i64 0]) ++ [Value.int .u64 0, .slice none 0 0], u.oneCell' = true from by
              rw [show (dd.map B ++ [Value.int .i64 0]) ++ [Value.int .u64 0, .slice none 0 0] = inV (.slice none 0 0) ⟨dd, 0, 0, []⟩ from by simp [inV]]
              exact in_one rfl)
            have HSET := Lib.hid (fun (v : Value) (z a : Int) (s : List UInt8) => in_set3 (v := v) (z := z) (a := a) (s := s) HDL.out)
            obtain ⟨dv, hdv⟩ : ∃ q, q = dd.map B := ⟨_, rfl⟩
            rw [← hdv] at TP HPL TI HIL HI1 HSET ⊢
            clear hdv
            obtain ⟨pv, hpv⟩ : ∃ q, q = dv ++ [Value.int .i64 0] := ⟨_, rfl⟩
            rw [← hpv] at TP HPL TI HIL HI1 HSET
            clear hpv
            obtain ⟨iz, hiz⟩ : ∃ q, q = pv ++ [Value.int .u64 0, .slice none 0 0] := ⟨_, rfl⟩
            rw [← hiz] at TI HIL HI1 HSET
            clear hiz
            go_wp2_with (first | (with_reducible refine wpl_stop (o := ⟨some 31, _, _, _, _, _⟩) ?_))
            refine stop_go ?_
            refine wpl_build rfl rfl TP.out ?_
            go_wp2_with (first | (with_reducible refine wpl_stop (o := ⟨some 32, _, _, _, _, _⟩) ?_))
            refine stop_go ?_
            refine wpl_build rfl rfl TI.out ?_
            go_wp2_with (first | (with_reducible refine wpl_alloc (o := ⟨some 8, _, _, _, _, _⟩) rfl rfl zero_tinT ?_))
            intro w2_ hb2_ hb_ hsz2_
            have HC_ := Lib.hid hb2_
            have HW_ := Lib.hid (grownBy_grow HW.out hb_)
            have HY_ := Lib.hid (HY.out.grow hb_)
            have HI_n := Lib.hid (show wo.heap.size ≤ w_.heap.size from HW.out.size)
            have HI_y := Lib.hid HY.out.lt
            generalize hg_ : w_.heap.size = gi at HC_ HI_n HI_y ⊢
            clear hb2_ hb_ hsz2_ hg_ HW HY
            have HW := HW_; have HY := HY_
            clear HW_ HY_
            try clear w_
            rename World => w_
            go_wp2_with (first | (with_reducible refine wpl_storeb (o := ⟨none, .store _ _ _, _, _, _, _⟩) rfl rfl row_tin HC_.out rfl rfl (inV_len noIn_ok) HIL.out HI1.out ?_))
            intro w2_ hb2_ hg2_ hsz2_
            have HC_n := Lib.hid hb2_
            have HW_ := Lib.hid (grownBy_new HW.out hg2_ HI_n.out)
            have HY_ := Lib.hid (HY.out.off hg2_ (by have := HI_y.out; have := HNUM.out; omega) (by have := HI_y.out; omega))
            clear hb2_ hg2_ hsz2_ HW HY
            try clear HC
            try clear HC_
            have HW := HW_; have HY := HY_; have HC := HC_n
            clear HW_ HY_ HC_n
            try clear w_
            rename World => w_
            have HCL := Lib.hid (fun (_ : Unit) => ynum_any (m := 15) (by omega) _ HY.out)
            have HSN := Lib.hid (st2b HST.out hlt)
            have HX15 := Lib.hid ((numY_le 15 s1).1)
            obtain ⟨rY, hrY⟩ : ∃ q, q = numY 15 s1 := ⟨_, rfl⟩
            rw [← hrY] at HCL HSN HX15
            clear hrY
            obtain ⟨vx, s2⟩ := rY
            simp only at HCL HSN HX15
            clear HST
            have HST := HSN
            clear HSN
            go_wp2_with fail
            refine (HCL.out ()).mono ?_
            rintro e w2_ ⟨rfl, hY_, hg_⟩
            have HW_ := Lib.hid (grownBy_trans HW.out hg_)
            clear HW
            have HW := HW_
            clear HW_
            replace HC := Lib.hid (HC.out.grown hg_ (fun e => by injection e with e; have := HI_y.out; omega))
            clear HCL HY hg_
            have HY := Lib.hid hY_
            clear hY_
            try clear w_
            rename World => w_
            have q2 : IntKind.i64.wrap (vx : Int) = (vx : Int) := IntWalk.i64_in _ (by have := HX15.out; omega)
            go_wp2_with (first | (refine wpl_store1 (o := ⟨none, .store _ _ _, _, _, _, _⟩) rfl rfl HC.out rfl rfl (by kernel_rfl) rfl rfl (by rw [HIL.out]; omega) ?_))
            intro w2_ hb2_ hg2_ hsz2_
            have HC_n := Lib.hid hb2_
            have HW_ := Lib.hid (grownBy_new HW.out hg2_ HI_n.out)
            have HY_ := Lib.hid (HY.out.off hg2_ (by have := HI_y.out; have := HNUM.out; omega) (by have := HI_y.out; omega))
            clear hb2_ hg2_ hsz2_ HW HY
            try clear HC
            try clear HC_
            have HW := HW_; have HY := HY_; have HC := HC_n
            clear HW_ HY_ HC_n
            try clear w_
            rename World => w_
            clear q2
            have HCL := Lib.hid (fun (_ : Unit) => ynum_any (m := 18446744073709551615) (by omega) _ HY.out)
            have HSN := Lib.hid (st2c HST.out hlt)
            have HXA := Lib.hid ((numY_le 18446744073709551615 s2).2)
            obtain ⟨rY, hrY⟩ : ∃ q, q = numY 18446744073709551615 s2 := ⟨_, rfl⟩
            rw [← hrY] at HCL HSN HXA
            clear hrY
            obtain ⟨va, s3⟩ := rY
            simp only at HCL HSN HXA
            clear HST
            have HST := HSN
            clear HSN
            go_wp2_with fail
            refine (HCL.out ()).mono ?_
            rintro e w2_ ⟨rfl, hY_, hg_⟩
            have HW_ := Lib.hid (grownBy_trans HW.out hg_)
            clear HW
            have HW := HW_
            clear HW_
            replace HC := Lib.hid (HC.out.grown hg_ (fun e => by injection e with e; have := HI_y.out; omega))
            clear HCL HY hg_
            have HY := Lib.hid hY_
            clear hY_
            try clear w_
            rename World => w_
            go_wp2_with (first | (refine wpl_store1 (o := ⟨none, .store _ _ _, _, _, _, _⟩) rfl rfl HC.out rfl rfl (by kernel_rfl) rfl rfl (by rw [List.length_set, HIL.out]; omega) ?_))
            intro w2_ hb2_ hg2_ hsz2_
            have HC_n := Lib.hid hb2_
            have HW_ := Lib.hid (grownBy_new HW.out hg2_ HI_n.out)
            have HY_ := Lib.hid (HY.out.off hg2_ (by have := HI_y.out; have := HNUM.out; omega) (by have := HI_y.out; omega))
            clear hb2_ hg2_ hsz2_ HW HY
            try clear HC
            try clear HC_
            have HW := HW_; have HY := HY_; have HC := HC_n
            clear HW_ HY_ HC_n
            try clear w_
            rename World => w_
            have HCL := Lib.hid (fun (_ : Unit) => ytext_any (m := 64) (by omega) _ HY.out)
            have HSN := Lib.hid (st2d HST.out hlt)
            have HXT := Lib.hid (textY_le 64 s3)
            obtain ⟨rY, hrY⟩ : ∃ q, q = textY 64 s3 := ⟨_, rfl⟩
            rw [← hrY] at HCL HSN HXT
            clear hrY
            obtain ⟨vt, s4⟩ := rY
            simp only at HCL HSN HXT
            clear HST
            have HST := HSN
            clear HSN
            go_wp2_with fail
            refine (HCL.out ()).mono ?_
            rintro e w2_ ⟨⟨A5, c5, rfl, hs5, hc5⟩, hY_, hg_⟩
            have HW_ := Lib.hid (grownBy_trans HW.out hg_)
            clear HW
            have HW := HW_
            clear HW_
            replace HC := Lib.hid (HC.out.grown hg_ (fun e => by injection e with e; have := HI_y.out; omega))
            have HS5 := Lib.hid (show Sl w Bd 1 A5 vt.length (vt.map B) from Sl.back hs5 (put_below0 HBW.out HBo.out (by have := HNUM.out; omega) HW.out))
            have HC5 := Lib.hid hc5
            clear hs5 hc5
            clear HCL HY hg_
            have HY := Lib.hid hY_
            clear hY_
            try clear w_
            rename World => w_
            go_wp2_with (first | (refine wpl_store1 (o := ⟨none, .store _ _ _, _, _, _, _⟩) rfl rfl HC.out rfl rfl (by kernel_rfl) rfl rfl (by rw [List.length_set, List.length_set, HIL.out]; omega) ?_))
            intro w2_ hb2_ hg2_ hsz2_
            have HC_n := Lib.hid hb2_
            have HW_ := Lib.hid (grownBy_new HW.out hg2_ HI_n.out)
            have HY_ := Lib.hid (HY.out.off hg2_ (by have := HI_y.out; have := HNUM.out; omega) (by have := HI_y.out; omega))
            clear hb2_ hg2_ hsz2_ HW HY
            try clear HC
            try clear HC_
            have HW := HW_; have HY := HY_; have HC := HC_n
            clear HW_ HY_ HC_n
            try clear w_
            rename World => w_
            have HCI := Lib.hid (show Blk w_ gi 41 (inV (.slice A5 vt.length c5) ⟨dd, (vx : Int), (va : Int), vt⟩) by rw [← HSET.out (.slice A5 vt.length c5) (vx : Int) (va : Int) vt]; exact HC.out)
            have HIK := Lib.hid (show (⟨dd, (vx : Int), (va : Int), vt⟩ : Inp).ok from ⟨HDL.out, by have := HX15.out; unfold I64; simp only; omega, by have := HXA.out; unfold U64; simp only; omega⟩)
            have HIV := Lib.hid (show Cl 35 (inV (.slice A5 vt.length c5) ⟨dd, (vx : Int), (va : Int), vt⟩) from ⟨inV_len HIK.out, in_one rfl⟩)
            obtain ⟨iv, hiv⟩ : ∃ q, q = inV (.slice A5 vt.length c5) ⟨dd, (vx : Int), (va : Int), vt⟩ := ⟨_, rfl⟩
            have HIE := Lib.hid hiv
            rw [← hiv] at HCI HIV
            clear hiv HC HIL HI1 HSET TI TP HPL
            have HV := Lib.hid (HVo.out.off HW.out (by have := HNUM.out; omega))
            have HT := Lib.hid (HTo.out.grown HW.out (fun e => by injection e with e; have := HNUM.out; omega))
            have HB := Lib.hid (put_below0 HBW.out HBo.out (by have := HNUM.out; omega) HW.out)
            have HZW := Lib.hid (Nat.le_trans HZo.out HW.out.size)
            have HO := Lib.hid (own_sub HOo.out (fun b hb hlt => HW.out.block b hlt (fun e => by injection e with e; have := HNUM.out; omega)))
            clear HW HVo HTo HBo HZo HOo
            have c1 := HT.out.at_ (i := 0) rfl
            go_wp2_with (first | (with_reducible refine wpl_loadb (o := ⟨some 46, _, _, _, _, _⟩) rfl rfl row_tin HCI.out rfl HIV.out.len ?_) | (refine wpl_row1 (o := ⟨some 47, .buildSlice _ _ _, _, _, _, _⟩) rfl rfl el_tin (by first | rfl | (go_simp; done)) HIV.out.len (by omega) ?_))
            intro w2_ hb2_ hb_ hsz2_
            have HSX := Lib.hid (show Sl w2_ w2_.heap.size 35 (some ⟨w_.heap.size, 0, none⟩) 1 iv from hb2_.sl (by rw [HIV.out.len]))
            generalize w_.heap.size = gx at HSX ⊢
            have HV_ := Lib.hid (HV.out.grow hb_); have HT_ := Lib.hid (HT.out.grow hb_); have HY_ := Lib.hid (HY.out.grow hb_); have HB_ := Lib.hid (HB.out.trans (hb_.mono (by have := HZW.out; have := HNUM.out; omega))); have HZW_ := Lib.hid (Nat.le_trans HZW.out hb_.size)
            have HO_ := Lib.hid (own_below HO.out hb_)
            clear HV HT HY HB HZW HO hb2_ hb_ hsz2_ c1 HCI
            have HV := HV_; have HT := HT_; have HY := HY_; have HB := HB_; have HZW := HZW_; have HO := HO_
            clear HV_ HT_ HY_ HB_ HZW_ HO_
            try clear w_
            rename World => w_
            have hn16 := HV0.out
            go_wp2_with (at_builtin; refine wpl_apps rfl rfl el_tin HO.out rfl HSX.out rfl HIV.out.one (by omega) (by omega) HZW.out ?_)
            intro A4 c4 w2_ ho_ hg_ hA_
            clear hn16
            have hne_ : ∀ q, A.map Addr.block = some q → Z ≤ q := own_from HO.out
            have HV_ := Lib.hid (show At w2_ g2 28 4 zt from ⟨HV.out.blk.grown hg_ (fun e => by have h1 := hne_ _ e.symm; have := HNUM.out; omega), HV.out.len⟩); have HT_ := Lib.hid (HT.out.grown hg_ (fun e => by have h1 := hne_ _ e.symm; have := HNUM.out; omega)); have HY_ := Lib.hid (HY.out.row hg_ hne_ (by have := HNUM.out; omega)); have HB_ := Lib.hid (below_row HBW.out HB.out hg_ hne_ (by have := HNUM.out; omega)); have HZW_ := Lib.hid (Nat.le_trans HZW.out hg_.size)
            have HO_ := Lib.hid (show w2_.ownsRow Z 41 35 (.slice A4 (k + 1) c4) (k + 1) ((ls ++ [((.slice A5 vt.length c5 : Value), (⟨dd, (vx : Int), (va : Int), vt⟩ : Inp))]).flatMap fun p => inV p.1 p.2) by rw [List.flatMap_append, List.flatMap_singleton, ← HIE.out]; exact ho_)
            clear ho_ hg_ hA_ hne_ HSX HV HT HY HB HZW HO
            have HV := HV_; have HT := HT_; have HY := HY_; have HB := HB_; have HZW := HZW_; have HO := HO_
            clear HV_ HT_ HY_ HB_ HZW_ HO_
            try clear w_
            rename World => w_
            go_wp2_with (first | (refine wpl_store1 (o := ⟨none, .store _ _ _, _, _, _, _⟩) rfl rfl HT.out rfl rfl (by kernel_rfl) rfl rfl (by simp [txV]) ?_))
            intro w2_ hb2_ hg_ hsz2_
            have HT_ := Lib.hid (show Blk w2_ gt 28 (txV A4 (k + 1) c4 none 0 0 0 0) from hb2_)
            have HV_ := Lib.hid (HV.out.off hg_ (by have := HNUM.out; omega)); have HY_ := Lib.hid (HY.out.off hg_ (by have := HNUM.out; omega) (by have := HNUM.out; omega)); have HB_ := Lib.hid (put_below0 HBW.out HB.out (by have := HNUM.out; omega) hg_); have HZW_ := Lib.hid (Nat.le_trans HZW.out hg_.size)
            have HO_ := Lib.hid (own_sub HO.out (fun b hb hlt => hg_.block b hlt (fun e => by injection e with e; have := HNUM.out; omega)))
            clear hb2_ hg_ hsz2_ HV HT HY HB HZW HO
            have HV := HV_; have HT := HT_; have HY := HY_; have HB := HB_; have HZW := HZW_; have HO := HO_
            clear HV_ HT_ HY_ HB_ HZW_ HO_
            try clear w_
            rename World => w_
            have HST2 := Lib.hid (show Stg l s4 (P2 l v0 (k + 1) ((ls ++ [((.slice A5 vt.length c5 : Value), (⟨dd, (vx : Int), (va : Int), vt⟩ : Inp))]).map Prod.snd)) by have h := HST.out; rw [List.map_append]; exact h)
            have HSC2 := Lib.hid (show SecR w Bd (ls ++ [((.slice A5 vt.length c5 : Value), (⟨dd, (vx : Int), (va : Int), vt⟩ : Inp))]) ∧ (ls ++ [((.slice A5 vt.length c5 : Value), (⟨dd, (vx : Int), (va : Int), vt⟩ : Inp))]).length = k + 1 from ⟨HSC.out.1.snoc ⟨A5, c5, rfl, HC5.out, HS5.out⟩ HIK.out, by rw [List.length_append, HSC.out.2]; rfl⟩)
            have q1 := HQ1.out
            go_wp2_with fail
            go_roundw
            all_goals clear q1
            case rel => exact ⟨k + 1, A4, c4, _, s4, by omega, by first | (simp; exact HQ1.out) | go_num, HST2, HSC2, HY, HV, HT, HO, HB, HZW⟩
            case measure => exact meas_up _ _ hlt _ HQ1.out
          · have d1 : ((s.2 : Int) == 0) = false := by simp; omega
            have HX := Lib.hid (HEXIT.out (HST.out.err he))
            clear HEXIT
            go_wp2_with fail
            go_meet
            case rel => exact HX.out
        · obtain rfl : k = v0 := by omega
          have HX := Lib.hid (HEXIT.out HST.out)
          clear HEXIT
          go_wp2_with fail
          go_meet
          case rel => exact HX.out
  case rest =>
    obtain ⟨n, A, c, ls, s, hn16, h1, h2, h3, h4, h5, h6, h7, h8⟩ := hcut
    clear HY HV HT HB HZW HST
    have HN16 := Lib.hid hn16
    have HST := Lib.hid h1.out; have HSC := Lib.hid h2.out; have HY := Lib.hid h3.out; have HV := Lib.hid h4.out; have HT := Lib.hid h5.out; have HO := Lib.hid h6.out; have HB := Lib.hid h7.out; have HZW := Lib.hid h8.out
    clear hn16 h1 h2 h3 h4 h5 h6 h7 h8
    rename World => w_
    obtain ⟨is, his⟩ : ∃ q, q = ls.map Prod.snd := ⟨_, rfl⟩
    have HIS := Lib.hid his
    rw [← his] at HST
    clear his
    have HCL := Lib.hid (fun (_ : Unit) => ynum_any (m := 16) (by omega) _ HY.out)
    have HSN := Lib.hid (st3 HST.out)
    have HM16 := Lib.hid ((numY_le 16 s).1)
    obtain ⟨rY, hrY⟩ : ∃ q, q = numY 16 s := ⟨_, rfl⟩
    rw [← hrY] at HCL HSN HM16
    clear hrY
    obtain ⟨vm, s5⟩ := rY
    simp only at HCL HSN HM16
    clear HST
    have HST := HSN
    clear HSN
    go_wp2_with fail
    refine (HCL.out ()).mono ?_
    rintro e w2_ ⟨rfl, hY_, hg_⟩
    replace HV := Lib.hid (HV.out.off hg_ (by have := HNUM.out; omega))
    replace HT := Lib.hid (HT.out.grown hg_ (fun e => by injection e with e; have := HNUM.out; omega))
    replace HB := Lib.hid (put_below0 HBW.out HB.out (by have := HNUM.out; omega) hg_)
    replace HZW := Lib.hid (Nat.le_trans HZW.out hg_.size)
    replace HO := Lib.hid (own_sub HO.out (fun b hb hlt => hg_.block b hlt (fun e => by injection e with e; have := HNUM.out; omega)))
    clear HCL HY hg_
    have HY := Lib.hid hY_
    clear hY_
    try clear w_
    rename World => w_
    go_upto_block 2 with fail
    go_cut [] from 7 (fun wr => ∃ j : Nat, ∃ A2 c2, ∃ os : List Outp, ∃ s, j ≤ 16 ∧ Hid (Stg l s (P4 l is vm vm os)) ∧ Hid ((∀ q ∈ os, Outp.ok q) ∧ os.length = j) ∧ Hid (YAt wr Bd gy s) ∧ Hid (At wr g2 28 4 zt) ∧ Hid (Blk wr gt 28 (txV A n c A2 j c2 0 0)) ∧ Hid (wr.ownsRow Z 41 35 (.slice A n c) n (ls.flatMap fun p => inV p.1 p.2)) ∧ Hid (wr.ownsRow Z 43 33 (.slice A2 j c2) j (os.flatMap outV)) ∧ Hid (Below Bd w wr) ∧ Hid (Z ≤ wr.heap.size))
    case first =>
      as_aux_lemma =>
        go_wp2_with fail
        go_loopw [9] (fun iv wr => ∃ j : Nat, ∃ A2 c2, ∃ os : List Outp, ∃ s, j ≤ vm ∧ iv = .int .i64 (j : Int) ∧ Hid (Stg l s (P4 l is vm j os)) ∧ Hid ((∀ q ∈ os, Outp.ok q) ∧ os.length = j) ∧ Hid (YAt wr Bd gy s) ∧ Hid (At wr g2 28 4 zt) ∧ Hid (Blk wr gt 28 (txV A n c A2 j c2 0 0)) ∧ Hid (wr.ownsRow Z 41 35 (.slice A n c) n (ls.flatMap fun p => inV p.1 p.2)) ∧ Hid (wr.ownsRow Z 43 33 (.slice A2 j c2) j (os.flatMap outV)) ∧ Hid (Below Bd w wr) ∧ Hid (Z ≤ wr.heap.size)) (fun iv _ => vm - (intOf iv).toNat)
        case atStart => exact ⟨0, none, 0, [], s5, by omega, rfl, Lib.hid (st4 HST.out), Lib.hid ⟨(fun p hp => by cases hp), rfl⟩, HY, HV, HT, HO, Lib.hid (own_nil0 _ _ _ _), HB, HZW⟩
        case round =>
          obtain ⟨j, A2, c2, os, s, hj, rfl, h1, h2, h3, h4, h5, h6, h9, h7, h8⟩ := hrel
          clear HY HV HT HB HZW HST HO
          have HST := Lib.hid h1.out; have HSC2 := Lib.hid h2.out; have HY := Lib.hid h3.out; have HVo := Lib.hid h4.out; have HTo := Lib.hid h5.out; have HOo := Lib.hid h6.out; have HPo := Lib.hid h9.out; have HBo := Lib.hid h7.out; have HZo := Lib.hid h8.out
          clear h1 h2 h3 h4 h5 h6 h7 h8 h9
          rename World => w_
          obtain ⟨wo, hwo⟩ : ∃ x, x = w_ := ⟨_, rfl⟩
          have HW := Lib.hid (show wo.grownBy w_ (some gy) by rw [hwo]; exact grownBy_refl _ _)
          rw [← hwo] at HVo HTo HOo HPo HBo HZo
          clear hwo
          have q0 : IntKind.i64.wrap (vm : Int) = (vm : Int) := IntWalk.i64_in _ (by have := HM16.out; omega)
          obtain ⟨Ay, cy, hy1, _⟩ := HY.out
          have cy1 := hy1.at_ (i := 1) rfl
          clear hy1
          have HEXIT := Lib.hid (show Stg l s (P4 l is vm vm os) → ∃ j : Nat, ∃ A2 c2, ∃ os : List Outp, ∃ s, j ≤ 16 ∧ Hid (Stg l s (P4 l is vm vm os)) ∧ Hid ((∀ q ∈ os, Outp.ok q) ∧ os.length = j) ∧ Hid (YAt w_ Bd gy s) ∧ Hid (At w_ g2 28 4 zt) ∧ Hid (Blk w_ gt 28 (txV A n c A2 j c2 0 0)) ∧ Hid (w_.ownsRow Z 41 35 (.slice A n c) n (ls.flatMap fun p => inV p.1 p.2)) ∧ Hid (w_.ownsRow Z 43 33 (.slice A2 j c2) j (os.flatMap outV)) ∧ Hid (Below Bd w w_) ∧ Hid (Z ≤ w_.heap.size) from fun h => ⟨j, A2, c2, os, s, by have := HM16.out; omega, Lib.hid h, HSC2, HY, Lib.hid (HVo.out.off HW.out (by have := HNUM.out; omega)), Lib.hid (HTo.out.grown HW.out (fun e => by injection e with e; have := HNUM.out; omega)), Lib.hid (own_sub HOo.out (fun b hb hlt => HW.out.block b hlt (fun e => by injection e with e; have := HNUM.out; omega))), Lib.hid (own_sub HPo.out (fun b hb hlt => HW.out.block b hlt (fun e => by injection e with e; have := HNUM.out; omega))), Lib.hid (put_below0 HBW.out HBo.out (by have := HNUM.out; omega) HW.out), Lib.hid (Nat.le_trans HZo.out HW.out.size)⟩)
          by_cases hlt : j < vm
          · by_cases he : s.2 = 0
            · have d1 : ((s.2 : Int) == 0) = true := by simp [he]
              have q1 : RowKit.wrap64 ((j : Int) + 1) = (j : Int) + 1 := wrap64_in _ (by have := HM16.out; omega)
              have HQ1 := Lib.hid q1
              clear q1 HEXIT
              have HCL := Lib.hid (fun (_ : Unit) => yid_any _ HY.out)
              have HSN := Lib.hid (st4a HST.out hlt)
              have HDL := Lib.hid (idY_32 s)
              obtain ⟨rY, hrY⟩ : ∃ q, q = idY s := ⟨_, rfl⟩
              rw [← hrY] at HCL HSN HDL
              clear hrY
              obtain ⟨dd, s1⟩ := rY
              simp only at HCL HSN HDL
              clear HST
              have HST := HSN
              clear HSN
              go_wp2_with fail
              refine (HCL.out ()).mono ?_
              rintro e w2_ ⟨rfl, hY_, hg_⟩
              have HW_ := Lib.hid (grownBy_trans HW.out hg_)
              clear HW
              have HW := HW_
              clear HW_
              clear HCL HY hg_
              have HY := Lib.hid hY_
              clear hY_
              try clear w_
              rename World => w_
              clear d1 cy1 q0
              have HD := Lib.hid (show Cl 32 (dd.map B) from ⟨by rw [List.length_map]; exact HDL.out, all_bytes _⟩)
              have TO := Lib.hid (bt_tout (xs := dd.map B) HD.out.len)
              have HIL := Lib.hid (show (dd.map B ++ [Value.int .u64 0]).length = 33 by have := HD.out.len; simp only [List.length_append, List.length_singleton]; omega)
              have HI1 := Lib.hid (show ∀ u ∈ dd.map B ++ [Value.int .u64 0], u.oneCell' = true from out_one (o := ⟨dd, 0⟩))
              have HSET := Lib.hid (fun (a : Int) => out_set (a := a) HDL.out)
              obtain ⟨dv, hdv⟩ : ∃ q, q = dd.map B := ⟨_, rfl⟩
              rw [← hdv] at TO HIL HI1 HSET ⊢
              clear hdv
              obtain ⟨iz, hiz⟩ : ∃ q, q = dv ++ [Value.int .u64 0] := ⟨_, rfl⟩
              rw [← hiz] at TO HIL HI1 HSET
              clear hiz
              go_wp2_with (first | (with_reducible refine wpl_stop (o := ⟨some 67, _, _, _, _, _⟩) ?_))
              refine stop_go ?_
              refine wpl_build rfl rfl TO.out ?_
              go_wp2_with (first | (with_reducible refine wpl_alloc (o := ⟨some 10, _, _, _, _, _⟩) rfl rfl zero_toutT ?_))
              intro w2_ hb2_ hb_ hsz2_
              have HC_ := Lib.hid hb2_
              have HW_ := Lib.hid (grownBy_grow HW.out hb_)
              have HY_ := Lib.hid (HY.out.grow hb_)
              have HI_n := Lib.hid (show wo.heap.size ≤ w_.heap.size from HW.out.size)
              have HI_y := Lib.hid HY.out.lt
              generalize hg_ : w_.heap.size = gi at HC_ HI_n HI_y ⊢
              clear hb2_ hb_ hsz2_ hg_ HW HY
              have HW := HW_; have HY := HY_
              clear HW_ HY_
              try clear w_
              rename World => w_
              go_wp2_with (first | (with_reducible refine wpl_storeb (o := ⟨none, .store _ _ _, _, _, _, _⟩) rfl rfl row_tout HC_.out rfl rfl (outV_len noOut_ok) HIL.out HI1.out ?_))
              intro w2_ hb2_ hg2_ hsz2_
              have HC_n := Lib.hid hb2_
              have HW_ := Lib.hid (grownBy_new HW.out hg2_ HI_n.out)
              have HY_ := Lib.hid (HY.out.off hg2_ (by have := HI_y.out; have := HNUM.out; omega) (by have := HI_y.out; omega))
              clear hb2_ hg2_ hsz2_ HW HY
              try clear HC
              try clear HC_
              have HW := HW_; have HY := HY_; have HC := HC_n
              clear HW_ HY_ HC_n
              try clear w_
              rename World => w_
              have HCL := Lib.hid (fun (_ : Unit) => ynum_any (m := 18446744073709551615) (by omega) _ HY.out)
              have HSN := Lib.hid (st4b HST.out hlt)
              have HXA := Lib.hid ((numY_le 18446744073709551615 s1).2)
              obtain ⟨rY, hrY⟩ : ∃ q, q = numY 18446744073709551615 s1 := ⟨_, rfl⟩
              rw [← hrY] at HCL HSN HXA
              clear hrY
              obtain ⟨va, s2⟩ := rY
              simp only at HCL HSN HXA
              clear HST
              have HST := HSN
              clear HSN
              go_wp2_with fail
              refine (HCL.out ()).mono ?_
              rintro e w2_ ⟨rfl, hY_, hg_⟩
              have HW_ := Lib.hid (grownBy_trans HW.out hg_)
              clear HW
              have HW := HW_
              clear HW_
              replace HC := Lib.hid (HC.out.grown hg_ (fun e => by injection e with e; have := HI_y.out; omega))
              clear HCL HY hg_
              have HY := Lib.hid hY_
              clear hY_
              try clear w_
              rename World => w_
              go_wp2_with (first | (refine wpl_store1 (o := ⟨none, .store _ _ _, _, _, _, _⟩) rfl rfl HC.out rfl rfl (by kernel_rfl) rfl rfl (by rw [HIL.out]; omega) ?_))
              intro w2_ hb2_ hg2_ hsz2_
              have HC_n := Lib.hid hb2_
              have HW_ := Lib.hid (grownBy_new HW.out hg2_ HI_n.out)
              have HY_ := Lib.hid (HY.out.off hg2_ (by have := HI_y.out; have := HNUM.out; omega) (by have := HI_y.out; omega))
              clear hb2_ hg2_ hsz2_ HW HY
              try clear HC
              try clear HC_
              have HW := HW_; have HY := HY_; have HC := HC_n
              clear HW_ HY_ HC_n
              try clear w_
              rename World => w_
              have HCI := Lib.hid (show Blk w_ gi 43 (outV ⟨dd, (va : Int)⟩) by rw [← HSET.out (va : Int)]; exact HC.out)
              have HIK := Lib.hid (show (⟨dd, (va : Int)⟩ : Outp).ok from ⟨HDL.out, by have := HXA.out; unfold U64; simp only; omega⟩)
              have HIV := Lib.hid (show Cl 33 (outV ⟨dd, (va : Int)⟩) from ⟨outV_len HIK.out, out_one⟩)
              obtain ⟨iv, hiv⟩ : ∃ q, q = outV ⟨dd, (va : Int)⟩ := ⟨_, rfl⟩
              have HIE := Lib.hid hiv
              rw [← hiv] at HCI HIV
              clear hiv HC HIL HI1 HSET TO
              have HV := Lib.hid (HVo.out.off HW.out (by have := HNUM.out; omega))
              have HT := Lib.hid (HTo.out.grown HW.out (fun e => by injection e with e; have := HNUM.out; omega))
              have HB := Lib.hid (put_below0 HBW.out HBo.out (by have := HNUM.out; omega) HW.out)
              have HZW := Lib.hid (Nat.le_trans HZo.out HW.out.size)
              have HO := Lib.hid (own_sub HOo.out (fun b hb hlt => HW.out.block b hlt (fun e => by injection e with e; have := HNUM.out; omega)))
              have HP := Lib.hid (own_sub HPo.out (fun b hb hlt => HW.out.block b hlt (fun e => by injection e with e; have := HNUM.out; omega)))
              clear HW HVo HTo HBo HZo HOo HPo
              have c1 := HT.out.at_ (i := 1) rfl
              go_wp2_with (first | (with_reducible refine wpl_loadb (o := ⟨some 73, _, _, _, _, _⟩) rfl rfl row_tout HCI.out rfl HIV.out.len ?_) | (refine wpl_row1 (o := ⟨some 74, .buildSlice _ _ _, _, _, _, _⟩) rfl rfl el_tout (by first | rfl | (go_simp; done)) HIV.out.len (by omega) ?_))
              intro w2_ hb2_ hb_ hsz2_
              have HSX := Lib.hid (show Sl w2_ w2_.heap.size 33 (some ⟨w_.heap.size, 0, none⟩) 1 iv from hb2_.sl (by rw [HIV.out.len]))
              generalize w_.heap.size = gx at HSX ⊢
              have HV_ := Lib.hid (HV.out.grow hb_); have HT_ := Lib.hid (HT.out.grow hb_); have HY_ := Lib.hid (HY.out.grow hb_); have HB_ := Lib.hid (HB.out.trans (hb_.mono (by have := HZW.out; have := HNUM.out; omega))); have HZW_ := Lib.hid (Nat.le_trans HZW.out hb_.size)
              have HP_ := Lib.hid (own_below HP.out hb_)
              have HO_ := Lib.hid (own_below HO.out hb_)
              clear HV HT HY HB HZW HP HO hb2_ hb_ hsz2_ c1 HCI
              have HV := HV_; have HT := HT_; have HY := HY_; have HB := HB_; have HZW := HZW_; have HP := HP_; have HO := HO_
              clear HV_ HT_ HY_ HB_ HZW_ HP_ HO_
              try clear w_
              rename World => w_
              have hn16 := HM16.out
              go_wp2_with (at_builtin; refine wpl_apps rfl rfl el_tout HP.out rfl HSX.out rfl HIV.out.one (by omega) (by omega) HZW.out ?_)
              intro A4 c4 w2_ ho_ hg_ hA_
              clear hn16
              have hne_ : ∀ q, A2.map Addr.block = some q → Z ≤ q := own_from HP.out
              have HV_ := Lib.hid (show At w2_ g2 28 4 zt from ⟨HV.out.blk.grown hg_ (fun e => by have h1 := hne_ _ e.symm; have := HNUM.out; omega), HV.out.len⟩); have HT_ := Lib.hid (HT.out.grown hg_ (fun e => by have h1 := hne_ _ e.symm; have := HNUM.out; omega)); have HY_ := Lib.hid (HY.out.row hg_ hne_ (by have := HNUM.out; omega)); have HB_ := Lib.hid (below_row HBW.out HB.out hg_ hne_ (by have := HNUM.out; omega)); have HZW_ := Lib.hid (Nat.le_trans HZW.out hg_.size)
              have HP_ := Lib.hid (show w2_.ownsRow Z 43 33 (.slice A4 (j + 1) c4) (j + 1) ((os ++ [(⟨dd, (va : Int)⟩ : Outp)]).flatMap outV) by rw [List.flatMap_append, List.flatMap_singleton, ← HIE.out]; exact ho_)
              have HO_ := Lib.hid (own_kept HO.out hg_ (own_rows_ne HO.out HP.out (by decide)))
              clear ho_ hg_ hA_ hne_ HSX HV HT HY HB HZW HP HO
              have HV := HV_; have HT := HT_; have HY := HY_; have HB := HB_; have HZW := HZW_; have HP := HP_; have HO := HO_
              clear HV_ HT_ HY_ HB_ HZW_ HP_ HO_
              try clear w_
              rename World => w_
              go_wp2_with (first | (refine wpl_store1 (o := ⟨none, .store _ _ _, _, _, _, _⟩) rfl rfl HT.out rfl rfl (by kernel_rfl) rfl rfl (by simp [txV]) ?_))
              intro w2_ hb2_ hg_ hsz2_
              have HT_ := Lib.hid (show Blk w2_ gt 28 (txV A n c A4 (j + 1) c4 0 0) from hb2_)
              have HV_ := Lib.hid (HV.out.off hg_ (by have := HNUM.out; omega)); have HY_ := Lib.hid (HY.out.off hg_ (by have := HNUM.out; omega) (by have := HNUM.out; omega)); have HB_ := Lib.hid (put_below0 HBW.out HB.out (by have := HNUM.out; omega) hg_); have HZW_ := Lib.hid (Nat.le_trans HZW.out hg_.size)
              have HP_ := Lib.hid (own_sub HP.out (fun b hb hlt => hg_.block b hlt (fun e => by injection e with e; have := HNUM.out; omega)))
              have HO_ := Lib.hid (own_sub HO.out (fun b hb hlt => hg_.block b hlt (fun e => by injection e with e; have := HNUM.out; omega)))
              clear hb2_ hg_ hsz2_ HV HT HY HB HZW HP HO
              have HV := HV_; have HT := HT_; have HY := HY_; have HB := HB_; have HZW := HZW_; have HP := HP_; have HO := HO_
              clear HV_ HT_ HY_ HB_ HZW_ HP_ HO_
              try clear w_
              rename World => w_
              have HSC3 := Lib.hid (show (∀ q ∈ (os ++ [(⟨dd, (va : Int)⟩ : Outp)]), Outp.ok q) ∧ (os ++ [(⟨dd, (va : Int)⟩ : Outp)]).length = j + 1 from ⟨fun q hq => by
                rcases List.mem_append.1 hq with hq | hq
                · exact HSC2.out.1 q hq
                · have e : q = ⟨dd, (va : Int)⟩ := by simpa using hq
                  rw [e]; exact HIK.out, by rw [List.length_append, HSC2.out.2]; rfl⟩)
              have q1 := HQ1.out
              go_wp2_with fail
              go_roundw
              all_goals clear q1
              case rel => exact ⟨j + 1, A4, c4, _, s2, by omega, by first | (simp; exact HQ1.out) | go_num, HST, HSC3, HY, HV, HT, HO, HP, HB, HZW⟩
              case measure => exact meas_up _ _ hlt _ HQ1.out
            · have d1 : ((s.2 : Int) == 0) = false := by simp; omega
              have HX := Lib.hid (HEXIT.out (HST.out.err he))
              clear HEXIT
              go_wp2_with fail
              go_meet
              case rel => exact HX.out
          · obtain rfl : j = vm := by omega
            have HX := Lib.hid (HEXIT.out HST.out)
            clear HEXIT
            go_wp2_with fail
            go_meet
            case rel => exact HX.out
    case rest =>
      obtain ⟨m, A2, c2, os, s, hm16, h1, h2, h3, h4, h5, h6, h9, h7, h8⟩ := hcut
      clear HY HV HT HB HZW HST HO
      have HMM := Lib.hid hm16
      have HST := Lib.hid (st5 h1.out); have HSC2 := Lib.hid h2.out; have HY := Lib.hid h3.out; have HV := Lib.hid h4.out; have HT := Lib.hid h5.out; have HO := Lib.hid h6.out; have HP := Lib.hid h9.out; have HB := Lib.hid h7.out; have HZW := Lib.hid h8.out
      clear hm16 h1 h2 h3 h4 h5 h6 h7 h8 h9
      rename World => w_
      have HCL := Lib.hid (fun (_ : Unit) => ynum_any (m := 18446744073709551615) (by omega) _ HY.out)
      have HSN := Lib.hid (st6 HST.out)
      have HF := Lib.hid ((numY_le 18446744073709551615 s).2)
      obtain ⟨rY, hrY⟩ : ∃ q, q = numY 18446744073709551615 s := ⟨_, rfl⟩
      rw [← hrY] at HCL HSN HF
      clear hrY
      obtain ⟨vf, s6⟩ := rY
      simp only at HCL HSN HF
      clear HST
      have HST := HSN
      clear HSN
      go_wp2_with fail
      refine (HCL.out ()).mono ?_
      rintro e w2_ ⟨rfl, hY_, hg_⟩
      replace HV := Lib.hid (HV.out.off hg_ (by have := HNUM.out; omega))
      replace HT := Lib.hid (HT.out.grown hg_ (fun e => by injection e with e; have := HNUM.out; omega))
      replace HB := Lib.hid (put_below0 HBW.out HB.out (by have := HNUM.out; omega) hg_)
      replace HZW := Lib.hid (Nat.le_trans HZW.out hg_.size)
      replace HO := Lib.hid (own_sub HO.out (fun b hb hlt => hg_.block b hlt (fun e => by injection e with e; have := HNUM.out; omega)))
      replace HP := Lib.hid (own_sub HP.out (fun b hb hlt => hg_.block b hlt (fun e => by injection e with e; have := HNUM.out; omega)))
      clear HCL HY hg_
      have HY := Lib.hid hY_
      clear hY_
      try clear w_
      rename World => w_
      go_wp2_with (first | (refine wpl_store1 (o := ⟨none, .store _ _ _, _, _, _, _⟩) rfl rfl HT.out rfl rfl (by kernel_rfl) rfl rfl (by simp [txV]) ?_))
      intro w2_ hb2_ hg_ hsz2_
      have HT_ := Lib.hid (show Blk w2_ gt 28 (txV A n c A2 m c2 (vf : Int) 0) from hb2_)
      have HV_ := Lib.hid (HV.out.off hg_ (by have := HNUM.out; omega)); have HY_ := Lib.hid (HY.out.off hg_ (by have := HNUM.out; omega) (by have := HNUM.out; omega)); have HB_ := Lib.hid (put_below0 HBW.out HB.out (by have := HNUM.out; omega) hg_); have HZW_ := Lib.hid (Nat.le_trans HZW.out hg_.size)
      have HO_ := Lib.hid (own_sub HO.out (fun b hb hlt => hg_.block b hlt (fun e => by injection e with e; have := HNUM.out; omega)))
      have HP_ := Lib.hid (own_sub HP.out (fun b hb hlt => hg_.block b hlt (fun e => by injection e with e; have := HNUM.out; omega)))
      clear hb2_ hg_ hsz2_ HV HT HY HB HZW HO HP
      have HV := HV_; have HT := HT_; have HY := HY_; have HB := HB_; have HZW := HZW_; have HO := HO_; have HP := HP_
      clear HV_ HT_ HY_ HB_ HZW_ HO_ HP_
      try clear w_
      rename World => w_
      have HCL := Lib.hid (fun (_ : Unit) => ynum_any (m := 1099511627776) (by omega) _ HY.out)
      have HSN := Lib.hid (st7 HST.out)
      have HE := Lib.hid ((numY_le 1099511627776 s6).1)
      obtain ⟨rY, hrY⟩ : ∃ q, q = numY 1099511627776 s6 := ⟨_, rfl⟩
      rw [← hrY] at HCL HSN HE
      clear hrY
      obtain ⟨ve, s7⟩ := rY
      simp only at HCL HSN HE
      clear HST
      have HST := HSN
      clear HSN
      go_wp2_with fail
      refine (HCL.out ()).mono ?_
      rintro e w2_ ⟨rfl, hY_, hg_⟩
      replace HV := Lib.hid (HV.out.off hg_ (by have := HNUM.out; omega))
      replace HT := Lib.hid (HT.out.grown hg_ (fun e => by injection e with e; have := HNUM.out; omega))
      replace HB := Lib.hid (put_below0 HBW.out HB.out (by have := HNUM.out; omega) hg_)
      replace HZW := Lib.hid (Nat.le_trans HZW.out hg_.size)
      replace HO := Lib.hid (own_sub HO.out (fun b hb hlt => hg_.block b hlt (fun e => by injection e with e; have := HNUM.out; omega)))
      replace HP := Lib.hid (own_sub HP.out (fun b hb hlt => hg_.block b hlt (fun e => by injection e with e; have := HNUM.out; omega)))
      clear HCL HY hg_
      have HY := Lib.hid hY_
      clear hY_
      try clear w_
      rename World => w_
      have q2 : IntKind.i64.wrap (ve : Int) = (ve : Int) := IntWalk.i64_in _ (by have := HE.out; omega)
      go_wp2_with (first | (refine wpl_store1 (o := ⟨none, .store _ _ _, _, _, _, _⟩) rfl rfl HT.out rfl rfl (by kernel_rfl) rfl rfl (by simp [txV]) ?_))
      intro w2_ hb2_ hg_ hsz2_
      have HT_ := Lib.hid (show Blk w2_ gt 28 (txV A n c A2 m c2 (vf : Int) (ve : Int)) from hb2_)
      have HV_ := Lib.hid (HV.out.off hg_ (by have := HNUM.out; omega)); have HY_ := Lib.hid (HY.out.off hg_ (by have := HNUM.out; omega) (by have := HNUM.out; omega)); have HB_ := Lib.hid (put_below0 HBW.out HB.out (by have := HNUM.out; omega) hg_); have HZW_ := Lib.hid (Nat.le_trans HZW.out hg_.size)
      have HO_ := Lib.hid (own_sub HO.out (fun b hb hlt => hg_.block b hlt (fun e => by injection e with e; have := HNUM.out; omega)))
      have HP_ := Lib.hid (own_sub HP.out (fun b hb hlt => hg_.block b hlt (fun e => by injection e with e; have := HNUM.out; omega)))
      clear hb2_ hg_ hsz2_ HV HT HY HB HZW HO HP
      have HV := HV_; have HT := HT_; have HY := HY_; have HB := HB_; have HZW := HZW_; have HO := HO_; have HP := HP_
      clear HV_ HT_ HY_ HB_ HZW_ HO_ HP_
      try clear w_
      rename World => w_
      clear q2
      obtain ⟨l7, e7⟩ := s7
      obtain ⟨Ay, cy, hy1, hy2, hy3, hy4, hy5⟩ := HY.out
      simp only at hy1 hy2 hy3 hy5
      have HQ := Lib.hid hy1
      clear hy1 hy2 hy3 hy4 hy5 HY
      have HRD := readY HST.out
      simp only at HRD
      rcases HRD with ⟨h1, h2⟩ | ⟨h1, h2, h3⟩ | ⟨h1, h2, h3, h4⟩
      · have HRE := Lib.hid h2
        have cy1 := HQ.out.at_ (i := 1) rfl
        have d1 : ((e7 : Int) == 0) = false := by simp; omega
        have d2 : ((e7 : Int) != 0) = true := by simp; omega
        clear h1 h2
        have HBx := Lib.hid (show Below w.heap.size w w_ by rw [← HBE.out]; exact HB.out)
        clear HB
        have HB := HBx
        clear HBx
        try go_wp2_with fail
        try go_wp2_with fail
        repeat' (first | (with_reducible refine wp_plan (id := 26) (fun a b => a.grownBy b (some g2)) [0,0,0,0,1,4,0] (.get 0 (.get 1 (.get 2 (.get 3 (.get 4 (.act 5 (.get 6 .done))))))) (by kernel_rfl) (by kernel_rfl) (fun a => grownBy_refl a _) (fun _ _ _ h k => grownBy_trans h k) ?_) | go_values | go_skip | go_guarded | go_step | go_upon | go_back)
        intro w_ hd_
        have hb_ := hd_.grow
        have HB_ := Lib.hid (HB.out.grow' hb_)
        clear HB
        have HB := HB_
        clear HB_
        have HV_ := Lib.hid (HV.out.grow hb_)
        clear HV
        have HV := HV_
        clear HV_
        have HQ_ := Lib.hid (HQ.out.grow hb_)
        clear HQ
        have HQ := HQ_
        clear HQ_
        clear hb_ hd_
        refine pl_calm rfl rfl (by exact wanted_none rfl) (fun w_ => by exact exec_build rfl T0.out w_) (fun K hK => ?_)
        go_simp
        refine hK _ _ ?_
        clear hK K
        repeat (first | (refine pl_calm rfl rfl (by first | exact wanted_none rfl | (go_simp; done) | rfl) (fun w_ => by first | (go_simp; rfl) | (go_simp; done) | rfl) (fun K hK => ?_); go_simp; refine hK _ _ ?_; clear hK K) | (refine pl_skip rfl (by first | (go_simp; done) | rfl) (fun K hK => ?_); go_simp; refine hK _ _ ?_; clear hK K) | (refine pl_skipa rfl (by first | (go_simp; done) | rfl) (fun K hK => ?_); go_simp; refine hK _ _ ?_; clear hK K))
        refine pl_read rfl rfl (by exact wanted_none rfl) (v := .int .i64 (e7 : Int)) (fun w3_ hf_ => by have c9 := (HQ.out.grown hf_ (fun e => by injection e with e; have := HNUM.out; omega)).at_ (i := 1) rfl; first | (go_simp; rfl) | (go_simp; done)) (fun K hK => ?_)
        go_simp
        refine hK _ _ ?_
        clear hK K
        refine pl_act rfl (by exact wanted_none rfl) (fun K hK => ?_)
        show wpList _ _ _ [⟨none, .store _ _ _, _, _, _, _⟩] _ _
        go_wp2_with (first | (with_reducible refine wpl_storeb (o := ⟨none, .store _ _ _, _, _, _, _⟩) rfl rfl row_tx HV.out.blk rfl rfl HV.out.len HCZ.out.len HCZ.out.one ?_))
        intro w2_ hb2_ hg2_ hsz2_
        go_wp2_with fail
        refine hK _ _ (fun _ => hg2_) ?_
        clear hK K
        have HB_ := Lib.hid (put_below0 HBW.out (by rw [HBE.out]; exact HB.out) HNUM.out.1 hg2_)
        have HV_ := Lib.hid (at_mk hb2_ HCZ.out.len)
        clear hb2_ hg2_ hsz2_ HB HV
        have HB := HB_; have HV := HV_
        clear HB_ HV_
        repeat (first | (refine pl_calm rfl rfl (by first | exact wanted_none rfl | (go_simp; done) | rfl) (fun w_ => by first | (go_simp; rfl) | (go_simp; done) | rfl) (fun K hK => ?_); go_simp; refine hK _ _ ?_; clear hK K) | (refine pl_skip rfl (by first | (go_simp; done) | rfl) (fun K hK => ?_); go_simp; refine hK _ _ ?_; clear hK K) | (refine pl_skipa rfl (by first | (go_simp; done) | rfl) (fun K hK => ?_); go_simp; refine hK _ _ ?_; clear hK K))
        refine pl_done ?_
        go_wp2_with fail
        refine ret_cell_tmp rfl row_tx HV.out.blk rfl HV.out.len rfl rfl ?_
        exact HERR.out _ _ HRE.out HB.out
      · have HRE := Lib.hid h3
        subst h1
        have cy0 := HQ.out.at_ (i := 0) rfl
        have cy1 : w_.cell? ⟨gy, 1, none⟩ = some (.int .i64 0) := HQ.out.at_ (i := 1) rfl
        have h4 : 0 < l7.length := by
          cases l7 with
          | nil => exact absurd rfl h2
          | cons a t => rw [List.length_cons]; omega
        obtain ⟨n7, hn7⟩ : ∃ q, q = l7.length := ⟨_, rfl⟩
        rw [← hn7] at h4 cy0 HQ
        have d3 : decide ((0 : Int) < (n7 : Int)) = true := by rw [decide_eq_true_eq]; omega
        have d4 : (0 < n7) = True := eq_true h4
        clear h2 h3 hn7
        go_wp2_with (first | (refine wpl_store1 (o := ⟨none, .store _ _ _, _, _, _, _⟩) rfl rfl HQ.out rfl rfl (by kernel_rfl) rfl rfl (by simp) ?_))
        intro w2_ hb2_ hg_ hsz2_
        have HQ_ := Lib.hid (show Blk w2_ gy 52 [.slice Ay n7 cy, .int .i64 3] from hb2_)
        have HV_ := Lib.hid (HV.out.off hg_ (by have := HNUM.out; omega)); have HB_ := Lib.hid (put_below0 HBW.out HB.out (by have := HNUM.out; omega) hg_)
        clear hb2_ hg_ hsz2_ HQ HV HB HT HO HP HZW cy0 cy1
        have HQ := HQ_; have HV := HV_; have HB := HB_
        clear HQ_ HV_ HB_
        try clear w_
        rename World => w_
        have cy1 := HQ.out.at_ (i := 1) rfl
        have HBx := Lib.hid (show Below w.heap.size w w_ by rw [← HBE.out]; exact HB.out)
        clear HB
        have HB := HBx
        clear HBx
        try go_wp2_with fail
        try go_wp2_with fail
        repeat' (first | (with_reducible refine wp_plan (id := 26) (fun a b => a.grownBy b (some g2)) [0,0,0,0,1,4,0] (.get 0 (.get 1 (.get 2 (.get 3 (.get 4 (.act 5 (.get 6 .done))))))) (by kernel_rfl) (by kernel_rfl) (fun a => grownBy_refl a _) (fun _ _ _ h k => grownBy_trans h k) ?_) | go_values | go_skip | go_guarded | go_step | go_upon | go_back)
        intro w_ hd_
        have hb_ := hd_.grow
        have HB_ := Lib.hid (HB.out.grow' hb_)
        clear HB
        have HB := HB_
        clear HB_
        have HV_ := Lib.hid (HV.out.grow hb_)
        clear HV
        have HV := HV_
        clear HV_
        have HQ_ := Lib.hid (HQ.out.grow hb_)
        clear HQ
        have HQ := HQ_
        clear HQ_
        clear hb_ hd_
        refine pl_calm rfl rfl (by exact wanted_none rfl) (fun w_ => by exact exec_build rfl T0.out w_) (fun K hK => ?_)
        go_simp
        refine hK _ _ ?_
        clear hK K
        repeat (first | (refine pl_calm rfl rfl (by first | exact wanted_none rfl | (go_simp; done) | rfl) (fun w_ => by first | (go_simp; rfl) | (go_simp; done) | rfl) (fun K hK => ?_); go_simp; refine hK _ _ ?_; clear hK K) | (refine pl_skip rfl (by first | (go_simp; done) | rfl) (fun K hK => ?_); go_simp; refine hK _ _ ?_; clear hK K) | (refine pl_skipa rfl (by first | (go_simp; done) | rfl) (fun K hK => ?_); go_simp; refine hK _ _ ?_; clear hK K))
        refine pl_read rfl rfl (by exact wanted_none rfl) (v := .int .i64 (3)) (fun w3_ hf_ => by have c9 := (HQ.out.grown hf_ (fun e => by injection e with e; have := HNUM.out; omega)).at_ (i := 1) rfl; first | (go_simp; rfl) | (go_simp; done)) (fun K hK => ?_)
        go_simp
        refine hK _ _ ?_
        clear hK K
        refine pl_act rfl (by exact wanted_none rfl) (fun K hK => ?_)
        show wpList _ _ _ [⟨none, .store _ _ _, _, _, _, _⟩] _ _
        go_wp2_with (first | (with_reducible refine wpl_storeb (o := ⟨none, .store _ _ _, _, _, _, _⟩) rfl rfl row_tx HV.out.blk rfl rfl HV.out.len HCZ.out.len HCZ.out.one ?_))
        intro w2_ hb2_ hg2_ hsz2_
        go_wp2_with fail
        refine hK _ _ (fun _ => hg2_) ?_
        clear hK K
        have HB_ := Lib.hid (put_below0 HBW.out (by rw [HBE.out]; exact HB.out) HNUM.out.1 hg2_)
        have HV_ := Lib.hid (at_mk hb2_ HCZ.out.len)
        clear hb2_ hg2_ hsz2_ HB HV
        have HB := HB_; have HV := HV_
        clear HB_ HV_
        repeat (first | (refine pl_calm rfl rfl (by first | exact wanted_none rfl | (go_simp; done) | rfl) (fun w_ => by first | (go_simp; rfl) | (go_simp; done) | rfl) (fun K hK => ?_); go_simp; refine hK _ _ ?_; clear hK K) | (refine pl_skip rfl (by first | (go_simp; done) | rfl) (fun K hK => ?_); go_simp; refine hK _ _ ?_; clear hK K) | (refine pl_skipa rfl (by first | (go_simp; done) | rfl) (fun K hK => ?_); go_simp; refine hK _ _ ?_; clear hK K))
        refine pl_done ?_
        go_wp2_with fail
        refine ret_cell_tmp rfl row_tx HV.out.blk rfl HV.out.len rfl rfl ?_
        exact HERR.out _ 3 HRE.out HB.out
      · have HTO := Lib.hid h3; have HRE := Lib.hid h4
        subst h1
        subst h2
        have cy0 : w_.cell? ⟨gy, 0, none⟩ = some (.slice Ay 0 cy) := HQ.out.at_ (i := 0) rfl
        have cy1 : w_.cell? ⟨gy, 1, none⟩ = some (.int .i64 0) := HQ.out.at_ (i := 1) rfl
        clear h3 h4
        have HI := Lib.hid (insAt_of HO.out HSC.out.1 HSC.out.2 HB.out (by have := HZW.out; have := HNUM.out; omega))
        have HU := Lib.hid (outsAt_of HP.out HSC2.out.1 HSC2.out.2)
        have HTC := Lib.hid (txV_cl (A := A) (n := n) (c := c) (A2 := A2) (n2 := m) (c2 := c2) (fee := (vf : Int)) (ex := (ve : Int)))
        have HCK := Lib.hid (rtcheck_any (l := ls) (os := os) (fee := (vf : Int)) (ex := (ve : Int)) w_ HI.out HU.out (by have := HN16.out; omega) (by have := HMM.out; omega) HTO.out.2.2.1 HTO.out.2.2.2)
        rw [← HIS.out] at HCK
        have HCP := Lib.hid (checkT_pos HTO.out)
        obtain ⟨ck, hck⟩ : ∃ q, q = checkT ⟨is, os, (vf : Int), (ve : Int)⟩ := ⟨_, rfl⟩
        have HCE := Lib.hid hck
        rw [← hck] at HCK HCP HRE
        clear hck
        obtain ⟨tv, htv⟩ : ∃ q, q = txV A n c A2 m c2 (vf : Int) (ve : Int) := ⟨_, rfl⟩
        have HTV := Lib.hid htv
        rw [← htv] at HT HTC HCK
        clear htv HI HU
        go_wp2_with (first | (with_reducible refine wpl_loadb (o := ⟨some 106, _, _, _, _, _⟩) rfl rfl row_tx HT.out rfl HTC.out.len ?_))
        refine HCK.out.mono ?_
        rintro e w2_ ⟨rfl, hb_⟩
        clear HCK cy0 cy1
        have HV_ := Lib.hid (HV.out.grow hb_); have HT_ := Lib.hid (HT.out.grow hb_); have HQ_ := Lib.hid (HQ.out.grow hb_); have HB_ := Lib.hid (HB.out.trans (hb_.mono (by have := HZW.out; have := HNUM.out; omega))); have HO_ := Lib.hid (own_below HO.out hb_); have HP_ := Lib.hid (own_below HP.out hb_); have HZW_ := Lib.hid (Nat.le_trans HZW.out hb_.size)
        clear hb_ HV HT HQ HB HO HP HZW
        have HV := HV_; have HT := HT_; have HQ := HQ_; have HB := HB_; have HO := HO_; have HP := HP_; have HZW := HZW_
        clear HV_ HT_ HQ_ HB_ HO_ HP_ HZW_
        try clear w_
        rename World => w_
        go_wp2_with (first | (refine wpl_store1 (o := ⟨none, .store _ _ _, _, _, _, _⟩) rfl rfl HQ.out rfl rfl (by kernel_rfl) rfl rfl (by simp) ?_))
        intro w2_ hb2_ hg_ hsz2_
        have HQ_ := Lib.hid (show Blk w2_ gy 52 [.slice Ay 0 cy, .int .i64 ck] from hb2_)
        have HV_ := Lib.hid (HV.out.off hg_ (by have := HNUM.out; omega)); have HT_ := Lib.hid (HT.out.grown hg_ (fun e => by injection e with e; have := HNUM.out; omega)); have HB_ := Lib.hid (put_below0 HBW.out HB.out (by have := HNUM.out; omega) hg_); have HO_ := Lib.hid (own_sub HO.out (fun b hb hlt => hg_.block b hlt (fun e => by injection e with e; have := HNUM.out; omega))); have HP_ := Lib.hid (own_sub HP.out (fun b hb hlt => hg_.block b hlt (fun e => by injection e with e; have := HNUM.out; omega))); have HZW_ := Lib.hid (Nat.le_trans HZW.out hg_.size)
        clear hb2_ hg_ hsz2_ HQ HV HT HB HO HP HZW
        have HQ := HQ_; have HV := HV_; have HT := HT_; have HB := HB_; have HO := HO_; have HP := HP_; have HZW := HZW_
        clear HQ_ HV_ HT_ HB_ HO_ HP_ HZW_
        try clear w_
        rename World => w_
        have cy1 := HQ.out.at_ (i := 1) rfl
        by_cases h0 : ck = 0
        · subst h0
          have HRE2 := Lib.hid (show readT l = .ok ⟨is, os, (vf : Int), (ve : Int)⟩ by have h := HRE.out; simpa using h)
          go_wp2_with (first | (with_reducible refine wpl_loadb (o := ⟨some 120, _, _, _, _, _⟩) rfl rfl row_tx HT.out rfl HTC.out.len ?_) | (with_reducible refine wpl_storeb (o := ⟨none, .store _ _ _, _, _, _, _⟩) rfl rfl row_tx HV.out.blk rfl rfl HV.out.len HTC.out.len HTC.out.one ?_))
          intro w2_ hb2_ hg_ hsz2_
          have HV_ := Lib.hid hb2_
          have HB_ := Lib.hid (put_below0 HBW.out HB.out HNUM.out.1 hg_); have HO_ := Lib.hid (own_sub HO.out (fun b hb hlt => hg_.block b hlt (fun e => by injection e with e; have := HNUM.out; omega))); have HP_ := Lib.hid (own_sub HP.out (fun b hb hlt => hg_.block b hlt (fun e => by injection e with e; have := HNUM.out; omega)))
          have HSZ_ := Lib.hid (Nat.le_trans HZW.out hg_.size)
          clear hb2_ hg_ hsz2_
          go_wp2_with fail
          refine ret_cell_tmp rfl row_tx HV_.out rfl HTC.out.len rfl rfl ?_
          have hfin := HOK.out _ ⟨is, os, (vf : Int), (ve : Int)⟩ HRE2.out A n c A2 m c2 ls (insAt_of HO_.out HSC.out.1 HSC.out.2 HB_.out (by have := HSZ_.out; have := HNUM.out; omega)) HIS.out.symm (outsAt_of HP_.out HSC2.out.1 HSC2.out.2) HB_.out
          simp only at hfin
          rw [← HTV.out] at hfin
          exact hfin
        · have d2 : (ck != 0) = true := by simpa using h0
          have HCN := Lib.hid (show (ck.toNat : Int) = ck by have := HCP.out; omega)
          have HRE2 := Lib.hid (show readT l = .error ck.toNat by have h := HRE.out; rw [if_pos h0] at h; exact h)
          have d1 : (ck == 0) = false := by simpa using h0
          clear h0
          have HBx := Lib.hid (show Below w.heap.size w w_ by rw [← HBE.out]; exact HB.out)
          clear HB
          have HB := HBx
          clear HBx
          try go_wp2_with fail
          try go_wp2_with fail
          repeat' (first | (with_reducible refine wp_plan (id := 26) (fun a b => a.grownBy b (some g2)) [0,0,0,0,1,4,0] (.get 0 (.get 1 (.get 2 (.get 3 (.get 4 (.act 5 (.get 6 .done))))))) (by kernel_rfl) (by kernel_rfl) (fun a => grownBy_refl a _) (fun _ _ _ h k => grownBy_trans h k) ?_) | go_values | go_skip | go_guarded | go_step | go_upon | go_back)
          intro w_ hd_
          have hb_ := hd_.grow
          have HB_ := Lib.hid (HB.out.grow' hb_)
          clear HB
          have HB := HB_
          clear HB_
          have HV_ := Lib.hid (HV.out.grow hb_)
          clear HV
          have HV := HV_
          clear HV_
          have HQ_ := Lib.hid (HQ.out.grow hb_)
          clear HQ
          have HQ := HQ_
          clear HQ_
          clear hb_ hd_
          refine pl_calm rfl rfl (by exact wanted_none rfl) (fun w_ => by exact exec_build rfl T0.out w_) (fun K hK => ?_)
          go_simp
          refine hK _ _ ?_
          clear hK K
          repeat (first | (refine pl_calm rfl rfl (by first | exact wanted_none rfl | (go_simp; done) | rfl) (fun w_ => by first | (go_simp; rfl) | (go_simp; done) | rfl) (fun K hK => ?_); go_simp; refine hK _ _ ?_; clear hK K) | (refine pl_skip rfl (by first | (go_simp; done) | rfl) (fun K hK => ?_); go_simp; refine hK _ _ ?_; clear hK K) | (refine pl_skipa rfl (by first | (go_simp; done) | rfl) (fun K hK => ?_); go_simp; refine hK _ _ ?_; clear hK K))
          refine pl_read rfl rfl (by exact wanted_none rfl) (v := .int .i64 (ck)) (fun w3_ hf_ => by have c9 := (HQ.out.grown hf_ (fun e => by injection e with e; have := HNUM.out; omega)).at_ (i := 1) rfl; first | (go_simp; rfl) | (go_simp; done)) (fun K hK => ?_)
          go_simp
          refine hK _ _ ?_
          clear hK K
          refine pl_act rfl (by exact wanted_none rfl) (fun K hK => ?_)
          show wpList _ _ _ [⟨none, .store _ _ _, _, _, _, _⟩] _ _
          go_wp2_with (first | (with_reducible refine wpl_storeb (o := ⟨none, .store _ _ _, _, _, _, _⟩) rfl rfl row_tx HV.out.blk rfl rfl HV.out.len HCZ.out.len HCZ.out.one ?_))
          intro w2_ hb2_ hg2_ hsz2_
          go_wp2_with fail
          refine hK _ _ (fun _ => hg2_) ?_
          clear hK K
          have HB_ := Lib.hid (put_below0 HBW.out (by rw [HBE.out]; exact HB.out) HNUM.out.1 hg2_)
          have HV_ := Lib.hid (at_mk hb2_ HCZ.out.len)
          clear hb2_ hg2_ hsz2_ HB HV
          have HB := HB_; have HV := HV_
          clear HB_ HV_
          repeat (first | (refine pl_calm rfl rfl (by first | exact wanted_none rfl | (go_simp; done) | rfl) (fun w_ => by first | (go_simp; rfl) | (go_simp; done) | rfl) (fun K hK => ?_); go_simp; refine hK _ _ ?_; clear hK K) | (refine pl_skip rfl (by first | (go_simp; done) | rfl) (fun K hK => ?_); go_simp; refine hK _ _ ?_; clear hK K) | (refine pl_skipa rfl (by first | (go_simp; done) | rfl) (fun K hK => ?_); go_simp; refine hK _ _ ?_; clear hK K))
          refine pl_done ?_
          go_wp2_with fail
          refine ret_cell_tmp rfl row_tx HV.out.blk rfl HV.out.len rfl rfl ?_
          rw [← HCN.out]; exact HERR.out _ _ HRE2.out HB.out
end Go.Proofs.Ytphmefhnffoafaa

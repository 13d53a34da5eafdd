/- The contract of tx.Check. -/
import Derived.Test.YtnnjjbkdjkjnpaaGreatDoorSpendBackRd14
set_option linter.unusedSimpArgs false
set_option linter.unusedVariables false
set_option maxRecDepth 100000
set_option maxHeartbeats 16000000
namespace Go.Proofs.YtnnjjbkdjkjnpaaGreatDoor
open Go.RowKit Go.Shelf
theorem OwnU.sl {w : World} {base n c : Nat} {A : Option Addr} {zs : List Value} (h : OwnU w base A n c zs) : Sl w w.heap.size 1 A n zs := Sl.of_own h
theorem tcheck_any {A : Option Addr} {n c : Nat} {A2 : Option Addr} {n2 c2 : Nat} {fee ex : Int} {l : List (Value × Inp)} {os : List Outp} (w : World) (hi : InsAt w A n c l) (ho : OutsAt w A2 n2 c2 os) (hn : n ≤ 100000) (hn2 : n2 ≤ 100000) (hf : U64 fee) (hex : I64 ex) :
  Calls Tryz.prog 40 #[.agg (txV A n c A2 n2 c2 fee ex).toArray] w fun e w' => e = .returned (.int .i64 (checkT ⟨l.map Prod.snd, os, fee, ex⟩)) ∧ Grow w w' := by
 have HI := kp hi; have HO := kp ho
 have HTC := kp (txV_cl (A := A) (n := n) (c := c) (A2 := A2) (n2 := n2) (c2 := c2) (fee := fee) (ex := ex))
 have HT2 := kp (show (txV A n c A2 n2 c2 fee ex)[2]? = some (.int .u64 fee) from rfl)
 have HAM := kp (fun w hi ho => amounts_any (A := A) (n := n) (c := c) (A2 := A2) (n2 := n2) (c2 := c2) (fee := fee) (ex := ex) (l := l) (os := os) w hi ho (by omega) (by omega))
 have HLG := kp (fun w hi => islong_any (A := A) (n := n) (c := c) (A2 := A2) (n2 := n2) (c2 := c2) (fee := fee) (ex := ex) (l := l) (os := os) w hi ho.2.2.1 (by omega) (by omega) hex)
 have HTW := kp (fun w hi => istwice_any (A := A) (n := n) (c := c) (A2 := A2) (n2 := n2) (c2 := c2) (fee := fee) (ex := ex) (l := l) (os := os) w hi (by omega))
 obtain ⟨t, ht⟩ : ∃ t, t = Txn.mk (l.map Prod.snd) os fee ex := ⟨_, rfl⟩
 obtain ⟨lg, hlg⟩ : ∃ q, q = longT t := ⟨_, rfl⟩
 obtain ⟨tw, htw⟩ : ∃ q, q = twiceT t := ⟨_, rfl⟩
 rw [← ht, ← hlg] at HLG
 rw [← ht, ← htw] at HTW
 have e1 : t.ins.map Inp.amount = amI l := by rw [ht]; simp [amI]
 have e2 : t.outs.map Outp.amount = amO os := by rw [ht]; rfl
 have e3 : t.fee = fee := by rw [ht]
 have HP1 := kp (show ∀ z ∈ amI l, 0 ≤ z from fun z hz => by obtain ⟨p, hp, rfl⟩ := List.mem_map.1 hz; exact (hi.2.1 p hp).2.2.2.1)
 have HP2 := kp (show ∀ z ∈ amO os ++ [fee], 0 ≤ z from fun z hz => by
  rcases List.mem_append.1 hz with h | h
  ·obtain ⟨p, hp, rfl⟩ := List.mem_map.1 h; exact (ho.2.1 p hp).2.1
  ·rw [List.mem_singleton.1 h]; exact hf.1)
 obtain ⟨z1, hz1⟩ : ∃ q, q = (amI l).contains 0 := ⟨_, rfl⟩
 obtain ⟨z2, hz2⟩ : ∃ q, q = (amO os).contains 0 := ⟨_, rfl⟩
 have HC1 := kp (fun (A : Option Addr) (c : Nat) w hs => contains64_any (A := A) (n := n) (c := c) (zs := amI l) (x := 0) w hs (by omega))
 have HC2 := kp (fun (A : Option Addr) (c : Nat) w hs => contains64_any (A := A) (n := n2) (c := c) (zs := amO os) (x := 0) w hs (by omega))
 have HA1 := kp (fun (A : Option Addr) (c : Nat) w hs => all_any A n c (amI l) w hs (by omega) HP1.out)
 have HA2 := kp (fun (A : Option Addr) (c : Nat) w hs => all_any A (n2 + 1) c (amO os ++ [fee]) w hs (by omega) HP2.out)
 rw [← hz1] at HC1
 rw [← hz2] at HC2
 obtain ⟨s1, hs1⟩ : ∃ q, q = (allE 0 (amI l)).1 := ⟨_, rfl⟩
 obtain ⟨r1, hr1⟩ : ∃ q, q = (allE 0 (amI l)).2 := ⟨_, rfl⟩
 obtain ⟨s2, hs2⟩ : ∃ q, q = (allE 0 (amO os ++ [fee])).1 := ⟨_, rfl⟩
 obtain ⟨r2, hr2⟩ : ∃ q, q = (allE 0 (amO os ++ [fee])).2 := ⟨_, rfl⟩
 rw [← hs1, ← hr1] at HA1
 rw [← hs2, ← hr2] at HA2
 have HCK := kp (show checkT t = if lg = true then 4 else if tw = true then 7 else if (z1 || z2) = true then 8 else if r1 ≠ 0 then r1 else if r2 ≠ 0 then r2 else if s1 ≠ s2 then 9 else 0 by
  unfold checkT zeroT
  rw [e1, e2, e3, ← hlg, ← htw, ← hz1, ← hz2, ← hs1, ← hr1, ← hs2, ← hr2])
 rw [← ht]
 obtain ⟨ck, hck⟩ : ∃ q, q = checkT t := ⟨_, rfl⟩
 rw [← hck] at HCK ⊢
 have HZ := kp (show ((amO os ++ [fee]).map (Value.int .u64)) = (amO os).map (Value.int .u64) ++ [.int .u64 fee] by simp)
 obtain ⟨tv, htv⟩ : ∃ q, q = txV A n c A2 n2 c2 fee ex := ⟨_, rfl⟩
 rw [← htv] at HTC HT2 HAM HLG HTW ⊢
 obtain ⟨xs1, hx1⟩ : ∃ q, q = (amI l).map (Value.int .u64) := ⟨_, rfl⟩
 obtain ⟨xs2, hx2⟩ : ∃ q, q = (amO os).map (Value.int .u64) := ⟨_, rfl⟩
 rw [← hx1, ← hx2] at HAM
 rw [← hx1] at HC1 HA1
 rw [← hx2] at HC2 HZ
 obtain ⟨xs3, hx3⟩ : ∃ q, q = (amO os ++ [fee]).map (Value.int .u64) := ⟨_, rfl⟩
 rw [← hx3] at HA2 HZ
 obtain ⟨w_, hw⟩ : ∃ x, x = w := ⟨_, rfl⟩
 have HB := kp (show Below w.heap.size w w_ by rw [hw]; exact Below.refl _ _)
 suffices H : Calls Tryz.prog 40 #[.agg tv.toArray] w_ fun e w' => e = .returned (.int .i64 ck) ∧ Grow w w' by rw [hw] at H; exact H
 clear hw hi ho ht hlg htw e1 e2 e3 hz1 hz2 hs1 hr1 hs2 hr2 hck htv hx1 hx2 hx3 hf hex
 go_enter Tryz.func40, Tryz.ntmps40
 go_wp2_with (first | (with_reducible refine wpl_box (o := ⟨some 1, _, _, _, _, _⟩) rfl rfl rfl ?_))
 intro w2_ hb2_ hb_ hsz2_
 have HX_ := kp (at_mk hb2_ HTC.out.len)
 clear hb2_ hsz2_
 have HG_ := kp HB.out.size
 replace HB := kp (HB.out.grow' hb_)
 generalize hg_ : w_.heap.size = g1 at HX_ HG_ ⊢
 clear hg_
 have HX_g := HG_
 clear HG_
 have HX := HX_
 clear hb_ HX_
 try clear w_
 rename World => w_
 go_wp2_with (with_reducible refine wlb 9 row_tx HX.out.blk HX.out.len ?_)
 refine (HAM.out _ (HI.out.grow HB.out) (HO.out.grow HB.out)).mono ?_
 rintro e w2_ ⟨A3, c3, A4, c4, rfl, hu1, hu2, hb_⟩
 have HU1 := kp hu1
 have HU2 := kp (show OwnU w2_ w_.heap.size A4 n2 c4 xs2 from hu2)
 have HGB := kp (show w.heap.size ≤ w_.heap.size ∧ g1 < w_.heap.size from ⟨HB.out.size, HX.out.lt⟩)
 obtain ⟨b4, hb4⟩ : ∃ q, q = w_.heap.size := ⟨_, rfl⟩
 have HSB := kp (show SzG w2_ w_.heap.size from hb_.size)
 rw [← hb4] at HU1 HU2 HGB HSB
 have HX1 := kp (HX.out.grow hb_)
 clear hu1 hu2 hb4
 clear HX
 have HX := HX1
 clear HX1
 replace HB := kp (HB.out.grow' hb_)
 clear hb_
 try clear w_
 rename World => w_
 go_wp2_with (with_reducible refine wlb 14 row_tx HX.out.blk HX.out.len ?_)
 refine (HLG.out _ (HI.out.grow HB.out)).mono ?_
 rintro e w_ ⟨rfl, hb_⟩
 replace HB := kp (HB.out.grow' hb_)
 replace HX := kp (HX.out.grow hb_)
 replace HU1 := kp (HU1.out.grow hb_)
 replace HU2 := kp (HU2.out.grow hb_)
 replace HSB := kp (HSB.out.grow hb_)
 clear hb_
 cases lg with
 | true =>
  go_wp2_with fail
  go_ret
  exact ⟨by rw [HCK.out]; rfl, HB.out⟩
 | false =>
  go_wp2_with (with_reducible refine wlb 17 row_tx HX.out.blk HX.out.len ?_)
  refine (HTW.out _ (HI.out.grow HB.out)).mono ?_
  rintro e w_ ⟨rfl, hb_⟩
  replace HB := kp (HB.out.grow' hb_)
  replace HX := kp (HX.out.grow hb_)
  replace HU1 := kp (HU1.out.grow hb_)
  replace HU2 := kp (HU2.out.grow hb_)
  replace HSB := kp (HSB.out.grow hb_)
  clear hb_
  cases tw with
  | true =>
   go_wp2_with fail
   go_ret
   exact ⟨by rw [HCK.out]; rfl, HB.out⟩
  | false =>
   go_wp2_with fail
   refine (HC1.out _ _ _ HU1.out.sl).mono ?_
   rintro e w2_ ⟨rfl, rfl⟩
   cases z1 with
   | true =>
    go_wp2_with fail
    go_ret
    exact ⟨by rw [HCK.out]; rfl, HB.out⟩
   | false =>
    go_wp2_with fail
    refine (HC2.out _ _ _ HU2.out.sl).mono ?_
    rintro e w2_ ⟨rfl, rfl⟩
    cases z2 with
    | true =>
     go_wp2_with fail
     go_ret
     exact ⟨by rw [HCK.out]; rfl, HB.out⟩
    | false =>
     go_wp2_with fail
     refine (HA1.out _ _ _ HU1.out.sl).mono ?_
     clear HU1
     rintro e w_ ⟨rfl, hb_⟩
     replace HB := kp (HB.out.grow' hb_)
     replace HX := kp (HX.out.grow hb_)
     replace HU2 := kp (HU2.out.grow hb_)
     replace HSB := kp (HSB.out.grow hb_)
     clear hb_
     by_cases h1 : r1 = 0
     ·have HC3 := kp (show ck = if r2 ≠ 0 then r2 else if s1 ≠ s2 then 9 else 0 by rw [HCK.out]; simp [h1])
      subst h1
      have c2 := HX.out.blk.at_ HT2.out
      have HSZ := kp (show b4 ≤ w_.heap.size from HSB.out)
      have HR3 := kp (show w_.ownsRow b4 25 1 (.slice A4 n2 c4) n2 xs2 from HU2.out)
      go_wp2_with (first | (at_builtin; refine wpl_app1 rfl rfl el_us HR3.out rfl (m := 1) rfl ?_ ?_ ?_ ?_ ?_ ?_))
      ·rfl
      ·rfl
      ·omega
      ·omega
      ·exact HSZ.out
      intro A5 c5 w4_ ho_ hg_ hA_
      have hne_ := own_from HR3.out
      have HB_ := kp (below_grown HB.out hg_ HB.out.size (fun x hx => by have := hne_ _ hx; have := HGB.out; omega))
      have HS5 := kp (show Sl w4_ w4_.heap.size 1 A5 (n2 + 1) xs3 by rw [HZ.out]; exact Sl.of_own ho_)
      clear ho_ hg_ hA_ hne_ HB HR3 HU2 HX c2
      go_wp2_with fail
      refine (HA2.out _ _ _ HS5.out).mono ?_
      rintro e w5_ ⟨rfl, hb_⟩
      have HB := kp (HB_.out.grow' hb_)
      clear hb_ HB_ HS5
      by_cases h2 : r2 = 0
      ·have HC4 := kp (show ck = if s1 ≠ s2 then 9 else 0 by rw [HC3.out]; simp [h2])
       subst h2
       by_cases h3 : s1 = s2
       ·have d3 : (s1 != s2) = false := by simpa using h3
        have HC5 := kp (show ck = 0 by rw [HC4.out]; simp [h3])
        clear h3
        go_wp2_with fail
        go_ret
        exact ⟨by rw [HC5.out]; rfl, HB.out⟩
       ·have d3 : (s1 != s2) = true := by simpa using h3
        have HC5 := kp (show ck = 9 by rw [HC4.out]; simp [h3])
        clear h3
        go_wp2_with fail
        go_ret
        exact ⟨by rw [HC5.out]; rfl, HB.out⟩
      ·have d2 : (r2 != 0) = true := by simpa using h2
       have HC4 := kp (show ck = r2 by rw [HC3.out]; simp [h2])
       clear h2
       go_wp2_with fail
       go_ret
       exact ⟨by rw [HC4.out]; rfl, HB.out⟩
     ·have d1 : (r1 != 0) = true := by simpa using h1
      have HC3 := kp (show ck = r1 by rw [HCK.out]; simp [h1])
      clear h1
      go_wp2_with fail
      go_ret
      exact ⟨by rw [HC3.out]; rfl, HB.out⟩
section
variable {P : Program} {ops : Array Oper} {am cl : List Nat} {sp : Nat → Sp} {w0 : World} {Q : Exit → Act → World → Prop} {us : List Nat} {L : List (Nat × (World → Prop))} {o : Oper} {i : Nat} {a : Act}
end
end Go.Proofs.YtnnjjbkdjkjnpaaGreatDoor
namespace Go.Proofs.YtnnjjbkdjkjnpaaGreatDoor
open Go.RowKit Go.Shelf
theorem ptext_any (g : Nat) (K : Nat → Prop) (xs : List UInt8) {A : Option Addr} {n c Bd : Nat} {bs : List UInt8} (w : World) (h : PenAt w K g xs) (hs : Sl w Bd 1 A n (bs.map B)) (hbd : ∀ k, k < Bd → K k) (hl : xs.length + n ≤ 900000) :
  Calls Tryz.prog 103 #[.pointer (some ⟨g, 0, none⟩), .slice A n c] w fun e w' => e = .returned (.tuple #[]) ∧ PenAt w' K g (xs ++ (numB n ++ bs)) ∧ Kept K w w' := by
 have HP := kp h
 have HS := kp hs
 have HBD := kp hbd
 have hbn : bs.length = n := by have := hs.len; simpa using this
 have HBN := kp hbn
 have HU := kp (numB_le (n := n) (by omega))
 have q1 := conv_u64' (n := n) (by omega)
 clear h hs hbd hbn
 go_enter Tryz.func103, Tryz.ntmps103
 go_wp2_with fail
 refine (num_any g n K xs _ HP.out (by omega) (by omega)).mono ?_
 rintro e w2_ ⟨rfl, hp_, hk_⟩
 have HK := kp hk_
 have HS2 := kp (HS.out.below (hk_.below HBD.out))
 obtain ⟨ys, hys⟩ : ∃ ys, ys = xs ++ numB n := ⟨_, rfl⟩
 have HYE := kp (show ys ++ bs = xs ++ (numB n ++ bs) by rw [hys, List.append_assoc])
 have HYL := kp (show ys.length ≤ xs.length + 9 by rw [hys, List.length_append]; have := HU.out; omega)
 rw [← hys] at hp_
 obtain ⟨Ap, cp, hq1, hq2, hq3, hq4⟩ := hp_
 have HPB := kp hq1
 have HPO := kp hq2
 have HPK := kp hq3
 have HPN := kp hq4
 have hcl := hq1.at_ (i := 0) rfl
 have hyl := HYL.out
 have HONE := kp (all_bytes bs)
 clear hk_ hq1 hq2 hq3 hq4 HS HP q1 hys
 go_wp2_with (first | (at_builtin; refine wpl_apps rfl rfl el_u8 HPO.out rfl HS2.out rfl HONE.out (by omega) (by omega) (Nat.zero_le _) ?_))
 intro A3 c3 w3_ ho_ hg_ hA_
 have hll : (ys ++ bs).length = ys.length + n := by rw [List.length_append, HBN.out]
 have HPB3 := kp (HPB.out.grown hg_ (fun e => (HPN.out e.symm).elim))
 have HAP := kp (pen_app (ys := ys ++ bs) (A' := A3) (c' := c3) HPB.out HPO.out HPK.out HPN.out (by rw [hll, List.map_append]; exact ho_) hg_ (fun b hb => hA_.elim (fun h => .inl (h.symm.trans hb)) (fun h => .inr (by obtain ⟨a, h1, h2⟩ := h; subst h1; have h3 : a.block = b := Option.some.inj hb; omega))))
 rw [hll] at HAP
 clear ho_ hg_ hA_ hcl hll
 have hcl := HPB3.out.at_ (i := 0) rfl
 have hfz := HPB3.out.frozen 0
 go_wp2_with fail
 refine bodyPost_end (results_none rfl _ _ _) rfl ?_
 exact ⟨rfl, by rw [← HYE.out]; exact HAP.out.1, HK.out.trans HAP.out.2⟩
def Kq (gp q : Nat) : Nat → Prop := fun k => k < gp ∨ k = q
def K0 (gp : Nat) : Nat → Prop := fun k => k < gp
def KB (gp : Nat) (w4 w : World) : Prop := Below gp w4 w ∧ gp ≤ w4.heap.size
theorem KB.sz {gp : Nat} {w4 w : World} (h : KB gp w4 w) : gp ≤ w.heap.size := Nat.le_trans h.2 h.1.size
theorem KB.grow {gp : Nat} {w4 w w2 : World} (h : KB gp w4 w) (k : Grow w w2) : KB gp w4 w2 := ⟨h.1.trans (k.mono h.sz), h.2⟩
theorem KB.kept {gp q : Nat} {w4 w w2 : World} (h : KB gp w4 w) (k : Kept (Kq gp q) w w2) : KB gp w4 w2 := ⟨h.1.trans (k.below (fun j hj => .inl hj)), h.2⟩
theorem PenAt.plus {w : World} {gp g q : Nat} {xs : List UInt8} {T : TypeId} {cs : List Value} (h : PenAt w (K0 gp) g xs) (hb : Blk w q T cs) (hT : T ≠ 5) (hq : q ≠ g) : PenAt w (Kq gp q) g xs := by
 obtain ⟨A, c, h1, h2, h3, h4⟩ := h
 refine ⟨A, c, h1, h2, fun k hk => ?_, h4⟩
 rcases hk with hk | rfl
 ·exact h3 k hk
 ·refine ⟨hb.lt, hq, fun e => ?_⟩
  rcases h2.2 with ⟨hv, _⟩ | ⟨b, cap, cur, hv, _, hh, _⟩
  ·injection hv with hA; subst hA; cases e
  ·injection hv with hA; subst hA
   have e2 : b = k := Option.some.inj e
   subst e2
   unfold Blk at hb
   rw [hb] at hh
   injection hh with hh
   injection hh with _ hh
   exact hT hh
theorem PenAt.minus {w : World} {gp g q : Nat} {xs : List UInt8} (h : PenAt w (Kq gp q) g xs) : PenAt w (K0 gp) g xs := h.less (fun k hk => .inl hk)
theorem At.kept {w w2 : World} {gp q n : Nat} {T : TypeId} {cs : List Value} (h : At w q T n cs) (k : Kept (Kq gp q) w w2) : At w2 q T n cs := ⟨k.blk h.1 (.inr rfl), h.2⟩
theorem putI_len {i : Inp} (h : i.ok) (h2 : i.secret.length ≤ 64) (h3 : 0 ≤ i.index ∧ i.index ≤ 15) : (putI i).length ≤ 130 := by
 unfold putI
 simp only [List.length_append]
 have a := numB_le (n := i.index.toNat) (by omega)
 have b := numB_le (n := i.amount.toNat) (by have := h.2.2; unfold U64 at this; omega)
 have c := numB_le (n := i.secret.length) (by omega)
 have d := h.1
 omega
theorem putO_len {o : Outp} (h : o.ok) : (putO o).length ≤ 50 := by
 unfold putO
 simp only [List.length_append]
 have b := numB_le (n := o.amount.toNat) (by have := h.2; unfold U64 at this; omega)
 have d := h.1
 omega
theorem fm_len {α : Type} (f : α → List UInt8) (m : Nat) : ∀ (l : List α), (∀ x ∈ l, (f x).length ≤ m) → (l.flatMap f).length ≤ l.length * m
 | [], _ => by simp
 | x :: l, h => by
  rw [List.flatMap_cons, List.length_append, List.length_cons, Nat.succ_mul]
  have h1 := h x (List.mem_cons_self ..)
  have h2 := fm_len f m l (fun y hy => h y (List.mem_cons_of_mem _ hy))
  omega
theorem fm_snoc {α : Type} (f : α → List UInt8) {l : List α} {k : Nat} {p : α} (h : l[k]? = some p) : (l.take (k + 1)).flatMap f = (l.take k).flatMap f ++ f p := by
 rw [take_snoc h]; simp
theorem fm_le {α : Type} (f : α → List UInt8) (m : Nat) {l : List α} (k : Nat) (h : ∀ x ∈ l, (f x).length ≤ m) : ((l.take k).flatMap f).length ≤ k * m := by
 have := fm_len f m (l.take k) (fun x hx => h x (List.mem_of_mem_take hx))
 have h2 : (l.take k).length ≤ k := by rw [List.length_take]; omega
 exact Nat.le_trans this (Nat.mul_le_mul_right m h2)
end Go.Proofs.YtnnjjbkdjkjnpaaGreatDoor

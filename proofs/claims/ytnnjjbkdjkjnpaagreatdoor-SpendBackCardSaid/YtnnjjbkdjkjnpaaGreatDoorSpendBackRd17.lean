/- Contracts of tx.Size, tx.Owner, and the document's Owner; the example of seisinlaw07. -/
import Derived.Test.YtnnjjbkdjkjnpaaGreatDoorSpendBackRd16
import Derived.Test.YtnnjjbkdjkjnpaaGreatDoorChecked
import Derived.Shelf.SlMaps.Clone
import Derived.Laws.FloatArith
set_option linter.unusedSimpArgs false
set_option linter.unusedVariables false
set_option maxRecDepth 100000
set_option maxHeartbeats 16000000
namespace Go.Proofs.YtnnjjbkdjkjnpaaGreatDoor
open Go.RowKit Go.Shelf
theorem towner_any {A : Option Addr} {n c : Nat} {bs : List UInt8} {zs : List Value} (hz : Dig zs (ownerB bs)) (w : World) (hs : Sl w w.heap.size 1 A n (bs.map B)) (hc : n ≤ c) (hn : n ≤ 100000) (ht : Tabs w) :
  Calls Tryz.prog 79 #[.slice A n c] w fun e w' => e = .returned (.agg zs.toArray) ∧ Grow w w' := by
 have HS := kp hs; have HT0 := kp ht; have HZ := kp hz
 have hbl : bs.length = n := by have := hs.len; simpa using this
 subst hbl
 have HC := kp hc
 obtain ⟨w_, hw⟩ : ∃ x, x = w := ⟨_, rfl⟩
 have HB := kp (show Below w.heap.size w w_ by rw [hw]; exact Below.refl _ _)
 suffices H : Calls Tryz.prog 79 #[.slice A bs.length c] w_ fun e w' => e = .returned (.agg zs.toArray) ∧ Grow w w' by rw [hw] at H; exact H
 clear hw hs ht hz hc
 go_enter Tryz.func79, Tryz.ntmps79
 go_wp2_with (first | (with_reducible refine wpl_alloc (o := ⟨some 2, _, _, _, _, _⟩) rfl rfl zero_id ?_))
 intro w2_ hb2_ hb_ hsz2_
 have HX_ := kp (at_mk hb2_ len_id)
 clear hb2_ hsz2_
 have HG_ := kp HB.out.size
 replace HB := kp (HB.out.grow' hb_)
 generalize hg_ : w_.heap.size = g2 at HX_ HG_ ⊢
 clear hg_
 have HV_g := HG_
 clear HG_
 have HV := HX_
 clear hb_ HX_
 try clear w_
 rename World => w_
 go_wp2_with fail
 generalize hw_ : World.alloc w_ _ = w4
 obtain ⟨hX, hb, hs⟩ := alloc_eq hw_
 have HX := kp hX
 have HV4 := kp (HV.out.grow hb)
 have HB4 := kp (HB.out.grow' hb)
 clear hX hb hs hw_ HV HB
 refine (punder_any (m := 9) HZ.out (parts1 HX.out (HS.out.grow HB4.out) HC.out) (by omega) (fun l hl => by simp only [List.mem_cons, List.not_mem_nil, or_false] at hl; rw [hl]; omega) (HT0.out.grow HB4.out)).mono ?_
 rintro e w5 ⟨rfl, hb5⟩
 have HV5 := kp (HV4.out.grow hb5)
 have HB5 := kp (HB4.out.grow' hb5)
 clear hb5 HV4 HB4
 go_wp2_with (with_reducible refine wsb row_id HV5.out.blk HV5.out.len HZ.out.len HZ.out.one ?_)
 intro w6 hb6 hg6 hs6
 have HB6 := kp hb6
 have HBB := kp (put_below HB5.out HV_g.out hg6)
 clear hb6 hg6 hs6
 go_wp2_with fail
 refine ret_cell rfl row_id HB6.out rfl HZ.out.len rfl ?_
 exact ⟨rfl, HBB.out⟩
theorem rtowner_any {A : Option Addr} {n c : Nat} {bs : List UInt8} {zs : List Value} (hz : Dig zs (ownerB bs)) (w : World) (hs : Sl w w.heap.size 1 A n (bs.map B)) (hn : n ≤ 100000) :
  Calls Tryz.prog 33 #[.slice A n c] w fun e w' => e = .returned (.agg zs.toArray) ∧ Grow w w' := by
 have HS := kp hs; have HZ := kp hz
 have hbl : bs.length = n := by have := hs.len; simpa using this
 have HN := kp hbl
 obtain ⟨w_, hw⟩ : ∃ x, x = w := ⟨_, rfl⟩
 have HB := kp (show Below w.heap.size w w_ by rw [hw]; exact Below.refl _ _)
 suffices H : Calls Tryz.prog 33 #[.slice A n c] w_ fun e w' => e = .returned (.agg zs.toArray) ∧ Grow w w' by rw [hw] at H; exact H
 clear hw hs hz hbl
 go_enter Tryz.func33, Tryz.ntmps33
 go_wp2_with (first | (with_reducible refine wpl_alloc (o := ⟨some 2, _, _, _, _, _⟩) rfl rfl zero_id ?_))
 intro w2_ hb2_ hb_ hsz2_
 have HX_ := kp (at_mk hb2_ len_id)
 clear hb2_ hsz2_
 have HG_ := kp HB.out.size
 replace HB := kp (HB.out.grow' hb_)
 generalize hg_ : w_.heap.size = g2 at HX_ HG_ ⊢
 clear hg_
 have HV_g := HG_
 clear HG_
 have HV := HX_
 clear hb_ HX_
 try clear w_
 rename World => w_
 go_wp2_with fail
 generalize hw_ : World.alloc w_ _ = w1_
 obtain ⟨hX_, hb1, hs_⟩ := alloc_eq hw_
 have HO := kp (own_blk (base := w_.heap.size) hX_ (n := 1) rfl (Nat.le_refl _) (by simp [maxLen]))
 have HG1 := kp hb1
 clear hw_ hX_ hb1 hs_
 refine (long_any _ _ _ bs _ (HS.out.grow (HB.out.grow' HG1.out)) (by omega)).mono ?_
 rintro e w3_ ⟨A5, c5, rfl, ho_, hb_⟩
 have HLG := kp (Sl.of_own ho_)
 have HA := kp (all_bytes (beBytes n 4 ++ bs))
 have HO3 := kp (own_below HO.out hb_)
 have HG3 := kp (Grow.trans _ _ _ HG1.out hb_)
 clear ho_ hb_ HO HG1
 go_wp2_with (at_builtin; refine wpl_apps rfl rfl el_u8 HO3.out rfl HLG.out rfl HA.out (by omega) (by omega) HG3.out.size ?_)
 intro A6 c6 w4 ho hg hA
 have hb4 : Grow w_ w4 := app_below HG3.out HO3.out hg
 have HX := kp (show Sl w4 w4.heap.size 1 A6 (1 + (4 + n)) ((underB 9 [bs]).map B) by
  have h := Sl.of_own ho
  rw [under_eq 9 bs n HN.out]
  try simp only [List.map_append, List.map_cons, List.map_nil, List.cons_append, List.nil_append, List.append_assoc] at h
  simp only [List.map_append, List.map_cons, List.map_nil, List.cons_append, List.nil_append, List.append_assoc]
  exact h)
 have HB_ := kp (HB.out.grow' hb4)
 have HV_ := kp (HV.out.grow hb4)
 clear HB HV ho hg hA HO3 HG3 HLG HA hb4
 go_wp2_with fail
 refine (dof_any _ _ _ HZ.out _ HX.out (by omega)).mono ?_
 rintro e w5 ⟨rfl, hb5⟩
 have HV5 := kp (HV_.out.grow hb5)
 have HB5 := kp (HB_.out.grow' hb5)
 clear hb5 HV_ HB_
 go_wp2_with (with_reducible refine wsb row_id HV5.out.blk HV5.out.len HZ.out.len HZ.out.one ?_)
 intro w6 hb6 hg6 hs6
 have HB6 := kp hb6
 have HBB := kp (put_below HB5.out HV_g.out hg6)
 clear hb6 hg6 hs6
 go_wp2_with fail
 refine ret_cell rfl row_id HB6.out rfl HZ.out.len rfl ?_
 exact ⟨rfl, HBB.out⟩
theorem longI_of {t : Txn} (h : checkT t = 0) : longT t = false := by
 unfold checkT at h
 cases hl : longT t with
 | true => rw [hl, if_pos rfl] at h; cases h
 | false => rfl
theorem right_of {t : Txn} (h : checkT t = 0) : t.ins.length ≤ 16 ∧ t.outs.length ≤ 16 ∧ (0 ≤ t.expiry ∧ t.expiry ≤ 1099511627776) ∧ ∀ i ∈ t.ins, i.secret.length ≤ 64 ∧ 0 ≤ i.index ∧ i.index ≤ 15 := by
 have h1 := longI_of h
 unfold longT shortT at h1
 simp only [Bool.or_eq_false_iff, Bool.not_eq_false', Bool.and_eq_true, inB_iff] at h1
 obtain ⟨⟨⟨h2, h3⟩, h4⟩, h5⟩ := h1
 refine ⟨by omega, by omega, h4, fun i hi => ?_⟩
 have h6 := List.any_eq_false.1 h5 i hi
 unfold longI at h6
 simp only [Bool.or_eq_true, decide_eq_true_eq, Bool.not_eq_true', not_or, Bool.not_eq_false, inB_iff] at h6
 omega
theorem putI_le {i : Inp} (h1 : i.tx.length = 32) (h2 : i.secret.length ≤ 64) (h3 : 0 ≤ i.index ∧ i.index ≤ 15) (h4 : U64 i.amount) : (putI i).length ≤ 123 := by
 have e1 := numB_le (n := i.index.toNat) (by omega)
 have e2 := numB_le (n := i.amount.toNat) (by have := h4.2; omega)
 have e3 := numB_le (n := i.secret.length) (by omega)
 unfold putI
 simp only [List.length_append]
 omega
theorem putO_le {o : Outp} (h : o.ok) : (putO o).length ≤ 41 := by
 have e2 := numB_le (n := o.amount.toNat) (by have := h.2.2; omega)
 unfold putO
 simp only [List.length_append, h.1]
 omega
theorem flat_le {α : Type} {f : α → List UInt8} {m : Nat} : ∀ {l : List α}, (∀ x ∈ l, (f x).length ≤ m) → (l.flatMap f).length ≤ l.length * m
 | [], _ => by simp
 | x :: l, h => by
  have := flat_le (f := f) (m := m) (l := l) (fun y hy => h y (List.mem_cons_of_mem _ hy))
  have h2 := h x (List.mem_cons_self ..)
  rw [List.flatMap_cons, List.length_append, List.length_cons, Nat.add_mul]
  omega
theorem putTB_le {t : Txn} (hk : t.ok) (h : checkT t = 0) : (putTB t).length ≤ 3000 := by
 obtain ⟨h1, h2, h3, h4⟩ := right_of h
 have e1 := flat_le (f := putI) (m := 123) (l := t.ins) (fun i hi => putI_le (hk.1 i hi).1 (h4 i hi).1 (h4 i hi).2 (hk.1 i hi).2.2)
 have e2 := flat_le (f := putO) (m := 41) (l := t.outs) (fun o ho => putO_le (hk.2.1 o ho))
 have e3 := numB_le (n := t.ins.length) (by omega)
 have e4 := numB_le (n := t.outs.length) (by omega)
 have e5 := numB_le (n := t.fee.toNat) (by have := hk.2.2.1.2; omega)
 have e6 := numB_le (n := t.expiry.toNat) (by omega)
 unfold putTB
 simp only [List.length_append]
 omega
theorem tid_any {A : Option Addr} {n c : Nat} {A2 : Option Addr} {n2 c2 : Nat} {fee ex : Int} {l : List (Value × Inp)} {os : List Outp} {zs : List Value} (hz : Dig zs (tidB ⟨l.map Prod.snd, os, fee, ex⟩)) (w : World) (hi : InsAt w A n c l) (ho : OutsAt w A2 n2 c2 os) (hn : n ≤ 100000) (hn2 : n2 ≤ 100000) (hf : U64 fee) (hex : I64 ex) (ht : Tabs w) :
  Calls Tryz.prog 42 #[.agg (txV A n c A2 n2 c2 fee ex).toArray] w fun e w' => e = .returned (.agg zs.toArray) ∧ Grow w w' := by
 have HI := kp hi; have HO := kp ho; have HT0 := kp ht; have HZ := kp hz
 have HTC := kp (txV_cl (A := A) (n := n) (c := c) (A2 := A2) (n2 := n2) (c2 := c2) (fee := fee) (ex := ex))
 have HP := kp (fun w hi ho => tput_any (A := A) (n := n) (c := c) (A2 := A2) (n2 := n2) (c2 := c2) (fee := fee) (ex := ex) (l := l) (os := os) w hi ho hn hn2 hf hex)
 have HK := kp (show (Txn.mk (l.map Prod.snd) os fee ex).ok from ⟨fun i h => by obtain ⟨p, hp, rfl⟩ := List.mem_map.1 h; exact (hi.2.1 p hp).2, ho.2.1, hf, hex⟩)
 obtain ⟨t, htt⟩ : ∃ t, t = Txn.mk (l.map Prod.snd) os fee ex := ⟨_, rfl⟩
 rw [← htt] at HP HK HZ
 obtain ⟨ck, hck⟩ : ∃ q, q = checkT t := ⟨_, rfl⟩
 have HCK := kp hck
 rw [← hck] at HP
 have HTF := kp (show tformB t = if ck = 0 then putTB t else [] by rw [hck]; rfl)
 have HTI := kp (show tidB t = if ck = 0 then sha (underB 8 [putTB t]) else zeroD by rw [hck]; rfl)
 obtain ⟨tf, htf⟩ : ∃ q, q = tformB t := ⟨_, rfl⟩
 rw [← htf] at HP HTF
 obtain ⟨tv, htv⟩ : ∃ q, q = txV A n c A2 n2 c2 fee ex := ⟨_, rfl⟩
 rw [← htv] at HTC HP ⊢
 obtain ⟨w_, hw⟩ : ∃ x, x = w := ⟨_, rfl⟩
 have HB := kp (show Below w.heap.size w w_ by rw [hw]; exact Below.refl _ _)
 suffices H : Calls Tryz.prog 42 #[.agg tv.toArray] w_ fun e w' => e = .returned (.agg zs.toArray) ∧ Grow w w' by rw [hw] at H; exact H
 clear hw hi ho htv htf hf hex htt hck hz ht
 go_enter Tryz.func42, Tryz.ntmps42
 go_wp2_with (first | (with_reducible refine wpl_box (o := ⟨some 1, _, _, _, _, _⟩) rfl rfl rfl ?_))
 intro w2_ hb2_ hb_ hsz2_
 have HX_ := kp (at_mk hb2_ HTC.out.len)
 clear hb2_ hsz2_
 have HG_ := kp HB.out.size
 replace HB := kp (HB.out.grow' hb_)
 generalize hg_ : w_.heap.size = g1 at HX_ HG_ ⊢
 clear hg_
 have HX_g := HG_
 clear HG_
 have HX := HX_
 clear hb_ HX_
 try clear w_
 rename World => w_
 go_wp2_with (first | (with_reducible refine wpl_alloc (o := ⟨some 2, _, _, _, _, _⟩) rfl rfl zero_id ?_))
 intro w2_ hb2_ hb_ hsz2_
 have HX_ := kp (at_mk hb2_ len_id)
 clear hb2_ hsz2_
 have HG_ := kp HB.out.size
 replace HB := kp (HB.out.grow' hb_)
 replace HX := kp (HX.out.grow hb_)
 generalize hg_ : w_.heap.size = g2 at HX_ HG_ ⊢
 clear hg_
 have HV_g := HG_
 clear HG_
 have HV := HX_
 clear hb_ HX_
 try clear w_
 rename World => w_
 go_wp2_with (with_reducible refine wlb 6 row_tx HX.out.blk HX.out.len ?_)
 refine (HP.out _ (HI.out.grow HB.out) (HO.out.grow HB.out)).mono ?_
 rintro e w2_ ⟨A', c', rfl, hs, hc, hb_⟩
 have HS := kp hs; have HC := kp hc
 replace HV := kp (HV.out.grow hb_)
 replace HB := kp (HB.out.grow' hb_)
 clear hs hc hb_ HX HP
 try clear w_
 rename World => w_
 by_cases h0 : ck = 0
 ·have HTE := kp (show tf = putTB t by rw [HTF.out, if_pos h0])
  have HZ1 := kp (show Dig zs (sha (underB 8 [tf])) by have h := HZ.out; rw [HTI.out, if_pos h0] at h; rw [HTE.out]; exact h)
  have HLE := kp (show tf.length ≤ 3000 by rw [HTE.out]; exact putTB_le HK.out (by rw [← HCK.out, h0]))
  subst h0
  go_wp2_with fail
  generalize hw_ : World.alloc w_ _ = w4
  obtain ⟨hX, hb, hs⟩ := alloc_eq hw_
  have HX := kp hX
  have HV4 := kp (HV.out.grow hb)
  have HB4 := kp (HB.out.grow' hb)
  have HS4 := kp (HS.out.grow hb)
  clear hX hb hs hw_ HV HB HS
  refine (punder_any (m := 8) HZ1.out (parts1 HX.out HS4.out HC.out) (by omega) (fun l hl => by simp only [List.mem_cons, List.not_mem_nil, or_false] at hl; rw [hl]; exact Nat.le_trans HLE.out (by omega)) (HT0.out.grow HB4.out)).mono ?_
  rintro e w5 ⟨rfl, hb5⟩
  have HV5 := kp (HV4.out.grow hb5)
  have HB5 := kp (HB4.out.grow' hb5)
  clear hb5 HV4 HB4
  go_wp2_with (with_reducible refine wsb row_id HV5.out.blk HV5.out.len HZ1.out.len HZ1.out.one ?_)
  intro w6 hb6 hg6 hs6
  have HB6 := kp hb6
  have HBB := kp (put_below HB5.out HV_g.out hg6)
  clear hb6 hg6 hs6
  go_wp2_with fail
  refine ret_cell rfl row_id HB6.out rfl HZ1.out.len rfl ?_
  exact ⟨rfl, HBB.out⟩
 ·have HZ0 := kp (show zs = zeroD.map B by have h := HZ.out.1; rw [HTI.out, if_neg h0] at h; exact h)
  have d0 : (ck != 0) = true := by simpa using h0
  have T0 := kp built_id0
  rw [← HZ0.out] at T0
  clear h0
  go_wp2_with (first | (refine wpl_build (o := ⟨some 12, _, _, _, _, _⟩) rfl rfl T0.out ?_) | (with_reducible refine wsb row_id HV.out.blk HV.out.len HZ.out.len HZ.out.one ?_))
  intro w4 hb4 hg4 hs4
  have HB4 := kp hb4
  have HBB := kp (put_below HB.out HV_g.out hg4)
  clear hb4 hg4 hs4
  go_wp2_with fail
  refine ret_cell rfl row_id HB4.out rfl HZ.out.len rfl ?_
  exact ⟨rfl, HBB.out⟩
theorem rtid_any {A : Option Addr} {n c : Nat} {A2 : Option Addr} {n2 c2 : Nat} {fee ex : Int} {l : List (Value × Inp)} {os : List Outp} {zs : List Value} (hck : checkT ⟨l.map Prod.snd, os, fee, ex⟩ = 0) (hz : Dig zs (tidB ⟨l.map Prod.snd, os, fee, ex⟩)) (w : World) (hi : InsAt w A n c l) (ho : OutsAt w A2 n2 c2 os) (hf : U64 fee) (hex : I64 ex) :
  Calls Tryz.prog 22 #[.agg (txV A n c A2 n2 c2 fee ex).toArray] w fun e w' => e = .returned (.agg zs.toArray) ∧ Grow w w' := by
 obtain ⟨r1, r2, r3, r4⟩ := right_of hck
 have HI := kp hi; have HO := kp ho
 have HTC := kp (txV_cl (A := A) (n := n) (c := c) (A2 := A2) (n2 := n2) (c2 := c2) (fee := fee) (ex := ex))
 have HP := kp (fun w hi ho => rtput_any (A := A) (n := n) (c := c) (A2 := A2) (n2 := n2) (c2 := c2) (fee := fee) (ex := ex) (l := l) (os := os) w hi ho (by simpa [hi.2.2.1] using r1) (by simpa [ho.2.2.1] using r2) hf r3 (fun p hp => r4 p.2 (List.mem_map_of_mem hp)))
 have HK := kp (show (Txn.mk (l.map Prod.snd) os fee ex).ok from ⟨fun i h => by obtain ⟨p, hp, rfl⟩ := List.mem_map.1 h; exact (hi.2.1 p hp).2, ho.2.1, hf, hex⟩)
 obtain ⟨t, htt⟩ : ∃ t, t = Txn.mk (l.map Prod.snd) os fee ex := ⟨_, rfl⟩
 rw [← htt] at HP HK hck hz
 have HLE := kp (putTB_le HK.out hck)
 have HZ := kp (show Dig zs (sha (underB 8 [putTB t])) by have h := hz; unfold tidB at h; rw [if_pos hck] at h; exact h)
 obtain ⟨tf, htf⟩ : ∃ q, q = putTB t := ⟨_, rfl⟩
 rw [← htf] at HP HLE HZ
 obtain ⟨m, hm⟩ : ∃ q, q = tf.length := ⟨_, rfl⟩
 have HN := kp hm.symm
 rw [← hm] at HP HLE
 have hm3 : m ≤ 3000 := HLE.out
 obtain ⟨tv, htv⟩ : ∃ q, q = txV A n c A2 n2 c2 fee ex := ⟨_, rfl⟩
 rw [← htv] at HTC HP ⊢
 obtain ⟨w_, hw⟩ : ∃ x, x = w := ⟨_, rfl⟩
 have HB := kp (show Below w.heap.size w w_ by rw [hw]; exact Below.refl _ _)
 suffices H : Calls Tryz.prog 22 #[.agg tv.toArray] w_ fun e w' => e = .returned (.agg zs.toArray) ∧ Grow w w' by rw [hw] at H; exact H
 clear hw hi ho htv htf hf hex htt hck hz hm r1 r2 r3 r4
 go_enter Tryz.func22, Tryz.ntmps22
 go_wp2_with (first | (with_reducible refine wpl_box (o := ⟨some 1, _, _, _, _, _⟩) rfl rfl rfl ?_))
 intro w2_ hb2_ hb_ hsz2_
 have HX_ := kp (at_mk hb2_ HTC.out.len)
 clear hb2_ hsz2_
 have HG_ := kp HB.out.size
 replace HB := kp (HB.out.grow' hb_)
 generalize hg_ : w_.heap.size = g1 at HX_ HG_ ⊢
 clear hg_
 have HX_g := HG_
 clear HG_
 have HX := HX_
 clear hb_ HX_
 try clear w_
 rename World => w_
 go_wp2_with (first | (with_reducible refine wpl_alloc (o := ⟨some 2, _, _, _, _, _⟩) rfl rfl zero_id ?_))
 intro w2_ hb2_ hb_ hsz2_
 have HX_ := kp (at_mk hb2_ len_id)
 clear hb2_ hsz2_
 have HG_ := kp HB.out.size
 replace HB := kp (HB.out.grow' hb_)
 replace HX := kp (HX.out.grow hb_)
 generalize hg_ : w_.heap.size = g2 at HX_ HG_ ⊢
 clear hg_
 have HV_g := HG_
 clear HG_
 have HV := HX_
 clear hb_ HX_
 try clear w_
 rename World => w_
 go_wp2_with (with_reducible refine wst 4 ?_)
 refine stop_go ?_
 generalize hw_ : World.alloc w_ _ = w1_
 obtain ⟨hX_, hb1, hs_⟩ := alloc_eq hw_
 have HW := kp (own_blk (base := w_.heap.size) hX_ (n := 1) rfl (Nat.le_refl _) (by simp [maxLen]))
 have HG1 := kp hb1
 have HX1 := kp (HX.out.grow hb1)
 clear hw_ hX_ hb1 hs_ HX
 go_wp2_with (with_reducible refine wlb 4 row_tx HX1.out.blk HX1.out.len ?_)
 refine (HP.out _ (HI.out.grow (HB.out.grow' HG1.out)) (HO.out.grow (HB.out.grow' HG1.out))).mono ?_
 rintro e w2_ ⟨A', c', rfl, hs, hc, hb_⟩
 have HS := kp hs
 have HW2 := kp (own_below HW.out hb_)
 have HG2 := kp (Grow.trans _ _ _ HG1.out hb_)
 clear hs hc hb_ HW HG1 HX1 HP
 go_wp2_with fail
 refine (long_any _ _ _ tf _ HS.out (by omega)).mono ?_
 rintro e w3_ ⟨A5, c5, rfl, ho_, hb_⟩
 have HLG := kp (Sl.of_own ho_)
 have HA := kp (all_bytes (beBytes m 4 ++ tf))
 have HO3 := kp (own_below HW2.out hb_)
 have HG3 := kp (Grow.trans _ _ _ HG2.out hb_)
 clear ho_ hb_ HW2 HG2 HS
 go_wp2_with (at_builtin; refine wpl_apps rfl rfl el_u8 HO3.out rfl HLG.out rfl HA.out (by omega) (by omega) HG3.out.size ?_)
 intro A6 c6 w4 ho hg hA
 have hb4 : Grow w_ w4 := app_below HG3.out HO3.out hg
 have HX := kp (show Sl w4 w4.heap.size 1 A6 (1 + (4 + m)) ((underB 8 [tf]).map B) by
  have h := Sl.of_own ho
  rw [under_eq 8 tf m HN.out]
  try simp only [List.map_append, List.map_cons, List.map_nil, List.cons_append, List.nil_append, List.append_assoc] at h
  simp only [List.map_append, List.map_cons, List.map_nil, List.cons_append, List.nil_append, List.append_assoc]
  exact h)
 have HB_ := kp (HB.out.grow' hb4)
 have HV_ := kp (HV.out.grow hb4)
 clear HB HV ho hg hA HO3 HG3 HLG HA hb4
 go_wp2_with fail
 refine (dof_any _ _ _ HZ.out _ HX.out (by omega)).mono ?_
 rintro e w5 ⟨rfl, hb5⟩
 have HV5 := kp (HV_.out.grow hb5)
 have HB5 := kp (HB_.out.grow' hb5)
 clear hb5 HV_ HB_
 go_wp2_with (with_reducible refine wsb row_id HV5.out.blk HV5.out.len HZ.out.len HZ.out.one ?_)
 intro w6 hb6 hg6 hs6
 have HB6 := kp hb6
 have HBB := kp (put_below HB5.out HV_g.out hg6)
 clear hb6 hg6 hs6
 go_wp2_with fail
 refine ret_cell rfl row_id HB6.out rfl HZ.out.len rfl ?_
 exact ⟨rfl, HBB.out⟩
def greatT (t : Txn) : Bool := decide (20 < t.ins.length) || decide (20 < t.outs.length) || t.ins.any (fun i => decide (100 < i.secret.length))
theorem rtgreat_any {A : Option Addr} {n c : Nat} {A2 : Option Addr} {n2 c2 : Nat} {fee ex : Int} {l : List (Value × Inp)} {os : List Outp} (w : World) (hi : InsAt w A n c l) (ho : os.length = n2) (hn : n ≤ 9223372036854775807) (hn2 : n2 ≤ 9223372036854775807) :
  Calls Tryz.prog 7 #[.agg (txV A n c A2 n2 c2 fee ex).toArray] w fun e w' => e = .returned (.int .i64 (if greatT ⟨l.map Prod.snd, os, fee, ex⟩ then 1 else 0)) ∧ Grow w w' := by
 have HI := kp hi
 have HTC := kp (txV_cl (A := A) (n := n) (c := c) (A2 := A2) (n2 := n2) (c2 := c2) (fee := fee) (ex := ex))
 have HT0 := kp (show (txV A n c A2 n2 c2 fee ex)[0]? = some (.slice A n c) from rfl)
 have HT1 := kp (show (txV A n c A2 n2 c2 fee ex)[1]? = some (.slice A2 n2 c2) from rfl)
 obtain ⟨gr, hgr⟩ : ∃ q, q = greatT ⟨l.map Prod.snd, os, fee, ex⟩ := ⟨_, rfl⟩
 obtain ⟨ins, hins⟩ : ∃ q, q = l.map Prod.snd := ⟨_, rfl⟩
 have HINS := kp hins
 have HIL := kp (show ins.length = n by rw [hins, List.length_map]; exact hi.2.2.1)
 have HGR := kp (show gr = (decide (20 < n) || decide (20 < n2) || ins.any (fun i => decide (100 < i.secret.length))) by rw [hgr, hins]; unfold greatT; simp only [List.length_map]; rw [hi.2.2.1, ho])
 rw [← hgr]
 obtain ⟨gz, hgz⟩ : ∃ z : Int, z = if gr then 1 else 0 := ⟨_, rfl⟩
 have HGZ := kp hgz
 rw [← hgz]
 obtain ⟨tv, htv⟩ : ∃ q, q = txV A n c A2 n2 c2 fee ex := ⟨_, rfl⟩
 rw [← htv] at HTC HT0 HT1 ⊢
 obtain ⟨w_, hw⟩ : ∃ x, x = w := ⟨_, rfl⟩
 have HB := kp (show Below w.heap.size w w_ by rw [hw]; exact Below.refl _ _)
 suffices H : Calls Tryz.prog 7 #[.agg tv.toArray] w_ fun e w' => e = .returned (.int .i64 gz) ∧ Grow w w' by rw [hw] at H; exact H
 clear hw hi ho htv hgr hins hgz
 go_enter Tryz.func7, Tryz.ntmps7
 go_wp2_with (first | (with_reducible refine wpl_box (o := ⟨some 1, _, _, _, _, _⟩) rfl rfl rfl ?_))
 intro w2_ hb2_ hb_ hsz2_
 have HX_ := kp (at_mk hb2_ HTC.out.len)
 clear hb2_ hsz2_
 have HG_ := kp HB.out.size
 replace HB := kp (HB.out.grow' hb_)
 generalize hg_ : w_.heap.size = g1 at HX_ HG_ ⊢
 clear hg_
 have HX_g := HG_
 clear HG_
 have HX := HX_
 clear hb_ HX_
 try clear w_
 rename World => w_
 have c0 := HX.out.blk.at_ HT0.out
 have c1 := HX.out.blk.at_ HT1.out
 by_cases h1 : n ≤ 20
 ·by_cases h2 : n2 ≤ 20
  ·have b1 : ¬ (20 < (n : Int)) := by omega
   have b2 : ¬ (20 < (n2 : Int)) := by omega
   have HGE := kp (show gr = ins.any (fun i => decide (100 < i.secret.length)) by rw [HGR.out, decide_eq_false (by omega), decide_eq_false (by omega)]; rfl)
   go_wp2_with fail
   go_loopw [3] (fun iv wr => ∃ k : Nat, k ≤ n ∧ iv = .int .i64 k ∧ Hid ((ins.take k).any (fun i => decide (100 < i.secret.length)) = false) ∧ wr = w_) (fun iv _ => n - (intOf iv).toNat)
   case atStart => exact ⟨0, by omega, rfl, kp (by simp), rfl⟩
   case round =>
    obtain ⟨k, hk, rfl, hany, rfl⟩ := hrel
    by_cases hlt : k < n
    ·obtain ⟨b, off, p, rfl, hp, hok, hc⟩ := HI.out.at_ hlt
     obtain ⟨⟨As, cs, es, _, _⟩, hio⟩ := hok
     have c34 := bcell HB.out (hc 34 _ (in_at (v := p.1) hio).2.2)
     rw [es] at c34
     have HSN := kp (any_take (fun i : Inp => decide (100 < i.secret.length)) (l := ins) (k := k) (p := p.2) (by rw [HINS.out, List.getElem?_map, hp]; rfl))
     have HME := kp (show p.2 ∈ ins by rw [HINS.out]; exact List.mem_map_of_mem (List.mem_of_getElem? hp))
     obtain ⟨sl, hsl⟩ : ∃ q, q = p.2.secret.length := ⟨_, rfl⟩
     have HSL := kp hsl
     rw [← hsl] at c34
     have v1 : IntKind.i64.wrap ((k : Int) + 1) = (k : Int) + 1 := IntWalk.i64_in _ (by omega)
     clear hp hc hio es hsl
     by_cases h100 : sl ≤ 100
     ·have b3 : ¬ (100 < (sl : Int)) := by omega
      have HNX := kp (show (ins.take (k + 1)).any (fun i => decide (100 < i.secret.length)) = false by rw [HSN.out, hany.out, ← HSL.out, decide_eq_false (by omega)]; rfl)
      go_wp2_with fail
      go_roundw
      all_goals clear v1
      case rel => exact ⟨k + 1, by omega, by go_num, HNX, by first | trivial | rfl⟩
      case measure => simp [intOf]; omega
     ·have b3 : (100 < (sl : Int)) := by omega
      have HG1 := kp (show gr = true by rw [HGE.out]; exact List.any_eq_true.2 ⟨_, HME.out, by rw [← HSL.out]; simp; omega⟩)
      clear v1
      go_wp2_with fail
      go_ret
      exact ⟨by rw [HGZ.out, HG1.out]; rfl, HB.out⟩
    ·obtain rfl : k = n := by omega
     have HG1 := kp (show gr = false by rw [HGE.out]; have h := hany.out; rw [List.take_of_length_le (by rw [HIL.out]; exact Nat.le_refl _)] at h; exact h)
     go_wp2_with fail
     go_ret
     exact ⟨by rw [HGZ.out, HG1.out]; rfl, HB.out⟩
  ·have b1 : ¬ (20 < (n : Int)) := by omega
   have b2 : (20 < (n2 : Int)) := by omega
   have HG1 := kp (show gr = true by rw [HGR.out, decide_eq_true (show 20 < n2 by omega)]; simp)
   go_wp2_with fail
   go_ret
   exact ⟨by rw [HGZ.out, HG1.out]; rfl, HB.out⟩
 ·have b1 : (20 < (n : Int)) := by omega
  have HG1 := kp (show gr = true by rw [HGR.out, decide_eq_true (show 20 < n by omega)]; simp)
  go_wp2_with fail
  go_ret
  exact ⟨by rw [HGZ.out, HG1.out]; rfl, HB.out⟩
open Go.RowKit Go.Maps Go.Shelf
theorem cclone_any (b : Nat) (es : Array MapEntry) (clock : Nat) (w : World) (hb : w.heap[b]? = some (.map es clock)) :
  Calls Tryz.prog 74 #[.map (some b)] w fun e w' => e = .returned (.map (some w.heap.size)) ∧ w' = w.alloc (.map es clock) := by
 have hq := fun w => run_eql_map_nil_sl (P := Tryz.prog) w 88 _ _ (some b) Tryz.underlying88
 go_enter Tryz.func74, Tryz.ntmps74
 go_wp2
 rw [run_callFunc_extern Tryz.func102 (by kernel_rfl) (by kernel_rfl) (by kernel_rfl) (e := Extern.MapsClone.clone) (by kernel_rfl), run_maps_clone_sl w 88 hb]
 simp only [Result.andThen]
 rw [Oper.upon_value]
 go_wp2
 rw [run_typeAssert_map_sl _ 88 20 _ _ _ Tryz.underlying88]
 simp only [Result.andThen]
 rw [Oper.upon_value]
 go_wp2
 go_ret
 exact ⟨rfl, rfl⟩
open Ieee
def V (r : Nat) : Nat := if r < 2^52 then r else (2^52 + r % 2^52) * 2 ^ (r / 2^52 - 1)
def rung (x : Nat) : Nat := x % 2^63
def inf : Nat := 2047 * 2^52
def nanB (x : Nat) : Bool := decide (inf < rung x)
def negB (x : Nat) : Bool := decide (2^63 ≤ x)
def sv (x : Nat) : Int := if negB x then -(V (rung x) : Int) else (V (rung x) : Int)
inductive RdF (x : Nat) : Datum → Prop where
 | num (m : Nat) (k : Nat) (hr : rung x < inf) (hv : m * 2 ^ k = V (rung x)) : RdF x (.number (negB x) m (double.leastPlace + (k : Nat)))
 | inf (hr : rung x = inf) : RdF x (.infinity (negB x))
 | nan (hr : inf < rung x) (t : Nat) : RdF x (.nan (negB x) t)
def ltF (x y : Nat) : Bool := !(nanB x || nanB y) && decide (sv x < sv y)
def eqF (x y : Nat) : Bool := !(nanB x || nanB y) && decide (sv x = sv y)
section
variable (x y : Nat) (hx : x < 2^64) (hy : y < 2^64)
include hx hy
end
def keyF (x : Nat) : Nat := if nanB x then 0 else if 2^63 ≤ x then 1 + (2^64 - 1 - x) else 1 + (x + 2^63)
def cmpN (x y : Nat) : Int := if x < y then -1 else if y < x then 1 else 0
def cmpI (x y : Int) : Int := if x < y then -1 else if y < x then 1 else 0
def cmpK (x y : Nat) : Int := cmpN (keyF x) (keyF y)
def sgnF (x : Nat) : Int := if eqF x 0 then (if negB x then -1 else 1) else 0
def cmpF (x y : Nat) : Int := if nanB x then (if nanB y then 0 else -1) else if nanB y then 1 else if ltF x y then -1 else if ltF y x then 1 else 0
attribute [irreducible] V rung inf nanB negB sv ltF eqF keyF sgnF cmpF cmpK
end Go.Proofs.YtnnjjbkdjkjnpaaGreatDoor
namespace Go.Proofs.YtnnjjbkdjkjnpaaGreatDoor
open Go.RowKit
theorem isnan_i (x : Int) (w : World) : Calls Tryz.prog 126 #[.int .i64 x] w fun e w' => e = .returned (.bool false) ∧ w = w' := by
 go_enter Tryz.func126, Tryz.ntmps126
 go_wp2
 go_ret
 exact ⟨by simp, rfl⟩
theorem cmpi_any (x y : Int) (w : World) : Calls Tryz.prog 114 #[.int .i64 x, .int .i64 y] w fun e w' => e = .returned (.int .i64 (cmpI x y)) ∧ w = w' := by
 unfold cmpI
 by_cases h1 : x < y
 ·rw [if_pos h1]
  go_enter Tryz.func114, Tryz.ntmps114
  go_wp2_with (go_at_call 126; refine (isnan_i _ _).mono ?_; rintro e w' ⟨rfl, rfl⟩)
  go_ret
  exact ⟨rfl, rfl⟩
 ·rw [if_neg h1]
  by_cases h2 : y < x
  ·rw [if_pos h2]
   go_enter Tryz.func114, Tryz.ntmps114
   go_wp2_with (go_at_call 126; refine (isnan_i _ _).mono ?_; rintro e w' ⟨rfl, rfl⟩)
   go_ret
   exact ⟨rfl, rfl⟩
  ·rw [if_neg h2]
   go_enter Tryz.func114, Tryz.ntmps114
   go_wp2_with (go_at_call 126; refine (isnan_i _ _).mono ?_; rintro e w' ⟨rfl, rfl⟩)
   go_ret
   exact ⟨rfl, rfl⟩
theorem or_two (x y : Int) (w : World) :
  Calls Tryz.prog 112 #[.slice (some ⟨w.heap.size, 0, none⟩) 2 2] (w.alloc (.cells #[.int .i64 x, .int .i64 y] 3)) fun e w' => e = .returned (.int .i64 (if x = 0 then y else x)) ∧ w.alloc (.cells #[.int .i64 x, .int .i64 y] 3) = w' := by
 obtain ⟨g, hg⟩ : ∃ g, w.heap.size = g := ⟨_, rfl⟩
 obtain ⟨V, hV⟩ : ∃ V, w.alloc (.cells #[.int .i64 x, .int .i64 y] 3) = V := ⟨_, rfl⟩
 have c0 : V.cell? ⟨g, 0, none⟩ = some (.int .i64 x) := by rw [← hV, ← hg]; simp
 have c1 : V.cell? ⟨g, 1, none⟩ = some (.int .i64 y) := by rw [← hV, ← hg]; simp
 rw [hg, hV]
 clear hg hV
 by_cases hx : x = 0
 ·subst hx
  rw [if_pos rfl]
  by_cases hy : y = 0
  ·subst hy
   go_enter Tryz.func112, Tryz.ntmps112
   go_wp2
   go_loop [8] (fun i => ∃ k : Nat, k ≤ 2 ∧ i = .int .i64 k) (fun i => 2 - (intOf i).toNat)
   case atStart => exact ⟨0, by omega, rfl⟩
   case round =>
    obtain ⟨k, hk, rfl⟩ := hrel
    match k, hk with
    | 0, _ =>
     go_wp2
     go_round
     case rel => exact ⟨1, by omega, by go_num⟩
     case measure => simp [intOf]
    | 1, _ =>
     go_wp2
     go_round
     case rel => exact ⟨2, by omega, by go_num⟩
     case measure => simp [intOf]
    | 2, _ =>
     go_wp2
     go_ret
     exact ⟨rfl, rfl⟩
  ·have hb : (y != 0) = true := by simpa using hy
   go_enter Tryz.func112, Tryz.ntmps112
   go_wp2
   go_loop [8] (fun i => ∃ k : Nat, k ≤ 1 ∧ i = .int .i64 k) (fun i => 2 - (intOf i).toNat)
   case atStart => exact ⟨0, by omega, rfl⟩
   case round =>
    obtain ⟨k, hk, rfl⟩ := hrel
    match k, hk with
    | 0, _ =>
     go_wp2
     go_round
     case rel => exact ⟨1, by omega, by go_num⟩
     case measure => simp [intOf]
    | 1, _ =>
     go_wp2
     go_ret
     exact ⟨rfl, rfl⟩
 ·rw [if_neg hx]
  have hb : (x != 0) = true := by simpa using hx
  clear hx
  go_enter Tryz.func112, Tryz.ntmps112
  go_wp2
  go_loop [8] (fun i => i = .int .i64 0) (fun i => 2 - (intOf i).toNat)
  case atStart => rfl
  case round =>
   subst hrel
   go_wp2
   go_ret
   exact ⟨rfl, rfl⟩
theorem u64_in (n : Int) (h : 0 ≤ n ∧ n ≤ 18446744073709551615) : IntKind.u64.wrap n = n := by
 simp only [IntKind.wrap, IntKind.signed, IntKind.bits, Bool.false_and, Bool.false_eq_true, if_false]
 omega
theorem intBits_or (k : IntKind) (x y : Int) : Op.intBits .or k x y = pure (.int k (k.wrap ((BitVec.ofInt k.bits x ||| BitVec.ofInt k.bits y).toNat : Nat))) := rfl
end Go.Proofs.YtnnjjbkdjkjnpaaGreatDoor

/- Contracts of tx.Id, the document's Id, and its Great. -/
import Derived.Test.YtphmefhnffoafaaDoorTxSameB10
set_option linter.unusedSimpArgs false
/- Contracts of tx.Id, the document's Id, and its Great. -/
namespace Go.Proofs.YtphmefhnffoafaaDoor
open Go.RowKit Go.Shelf
set_option linter.unusedVariables false
theorem longI_of {t : Txn} (h : checkT t = 0) : longT t = false := by
  unfold checkT at h
  cases hl : longT t with
  | true => rw [hl, if_pos rfl] at h; cases h
  | false => rfl
/-- What a right transaction is. -/
theorem right_of {t : Txn} (h : checkT t = 0) : t.ins.length ≤ 16 ∧ t.outs.length ≤ 16 ∧ (0 ≤ t.expiry ∧ t.expiry ≤ 1099511627776) ∧ ∀ i ∈ t.ins, i.secret.length ≤ 64 ∧ 0 ≤ i.index ∧ i.index ≤ 15 := by
  have h1 := longI_of h
  unfold longT shortT at h1
  simp only [Bool.or_eq_false_iff, Bool.not_eq_false', Bool.and_eq_true, inB_iff] at h1
  obtain ⟨⟨⟨h2, h3⟩, h4⟩, h5⟩ := h1
  refine ⟨by omega, by omega, h4, fun i hi => ?_⟩
  have h6 := List.any_eq_false.1 h5 i hi
  unfold longI at h6
  simp only [Bool.or_eq_true, decide_eq_true_eq, Bool.not_eq_true', not_or, Bool.not_eq_false, inB_iff] at h6
  omega
theorem putI_le {i : Inp} (h1 : i.tx.length = 32) (h2 : i.secret.length ≤ 64) (h3 : 0 ≤ i.index ∧ i.index ≤ 15) (h4 : U64 i.amount) : (putI i).length ≤ 123 := by
  have e1 := numB_le (n := i.index.toNat) (by omega)
  have e2 := numB_le (n := i.amount.toNat) (by have := h4.2; omega)
  have e3 := numB_le (n := i.secret.length) (by omega)
  unfold putI
  simp only [List.length_append]
  omega
theorem putO_le {o : Outp} (h : o.ok) : (putO o).length ≤ 41 := by
  have e2 := numB_le (n := o.amount.toNat) (by have := h.2.2; omega)
  unfold putO
  simp only [List.length_append, h.1]
  omega
theorem flat_le {α : Type} {f : α → List UInt8} {m : Nat} : ∀ {l : List α}, (∀ x ∈ l, (f x).length ≤ m) → (l.flatMap f).length ≤ l.length * m
  | [], _ => by simp
  | x :: l, h => by
    have := flat_le (f := f) (m := m) (l := l) (fun y hy => h y (List.mem_cons_of_mem _ hy))
    have h2 := h x (List.mem_cons_self ..)
    rw [List.flatMap_cons, List.length_append, List.length_cons, Nat.add_mul]
    omega
theorem putTB_le {t : Txn} (hk : t.ok) (h : checkT t = 0) : (putTB t).length ≤ 3000 := by
  obtain ⟨h1, h2, h3, h4⟩ := right_of h
  have e1 := flat_le (f := putI) (m := 123) (l := t.ins) (fun i hi => putI_le (hk.1 i hi).1 (h4 i hi).1 (h4 i hi).2 (hk.1 i hi).2.2)
  have e2 := flat_le (f := putO) (m := 41) (l := t.outs) (fun o ho => putO_le (hk.2.1 o ho))
  have e3 := numB_le (n := t.ins.length) (by omega)
  have e4 := numB_le (n := t.outs.length) (by omega)
  have e5 := numB_le (n := t.fee.toNat) (by have := hk.2.2.1.2; omega)
  have e6 := numB_le (n := t.expiry.toNat) (by omega)
  unfold putTB
  simp only [List.length_append]
  omega
set_option maxRecDepth 100000 in
set_option maxHeartbeats 4000000 in
theorem tid_any {A : Option Addr} {n c : Nat} {A2 : Option Addr} {n2 c2 : Nat} {fee ex : Int} {l : List (Value × Inp)} {os : List Outp} {zs : List Value} (hz : Dig zs (tidB ⟨l.map Prod.snd, os, fee, ex⟩)) (w : World) (hi : InsAt w A n c l) (ho : OutsAt w A2 n2 c2 os) (hn : n ≤ 100000) (hn2 : n2 ≤ 100000) (hf : U64 fee) (hex : I64 ex) (ht : Tabs w) :
    Calls Tryd.prog 34 #[.agg (txV A n c A2 n2 c2 fee ex).toArray] w fun e w' => e = .returned (.agg zs.toArray) ∧ Grow w w' := by
  have HI := Lib.hid hi; have HO := Lib.hid ho; have HT0 := Lib.hid ht; have HZ := Lib.hid hz
  have HTC := Lib.hid (txV_cl (A := A) (n := n) (c := c) (A2 := A2) (n2 := n2) (c2 := c2) (fee := fee) (ex := ex))
  have HP := Lib.hid (fun w hi ho => tput_any (A := A) (n := n) (c := c) (A2 := A2) (n2 := n2) (c2 := c2) (fee := fee) (ex := ex) (l := l) (os := os) w hi ho hn hn2 hf hex)
  have HK := Lib.hid (show (Txn.mk (l.map Prod.snd) os fee ex).ok from ⟨fun i h => by obtain ⟨p, hp, rfl⟩ := List.mem_map.1 h; exact (hi.2.1 p hp).2, ho.2.1, hf, hex⟩)
  obtain ⟨t, htt⟩ : ∃ t, t = Txn.mk (l.map Prod.snd) os fee ex := ⟨_, rfl⟩
  rw [← htt] at HP HK HZ
  obtain ⟨ck, hck⟩ : ∃ q, q = checkT t := ⟨_, rfl⟩
  have HCK := Lib.hid hck
  rw [← hck] at HP
  have HTF := Lib.hid (show tformB t = if ck = 0 then putTB t else [] by rw [hck]; rfl)
  have HTI := Lib.hid (show tidB t = if ck = 0 then sha (underB 8 [putTB t]) else zeroD by rw [hck]; rfl)
  obtain ⟨tf, htf⟩ : ∃ q, q = tformB t := ⟨_, rfl⟩
  rw [← htf] at HP HTF
  obtain ⟨tv, htv⟩ : ∃ q, q = txV A n c A2 n2 c2 fee ex := ⟨_, rfl⟩
  rw [← htv] at HTC HP ⊢
  obtain ⟨w_, hw⟩ : ∃ x, x = w := ⟨_, rfl⟩
  have HB := Lib.hid (show Below w.heap.size w w_ by rw [hw]; exact Below.refl _ _)
  suffices H : Calls Tryd.prog 34 #[.agg tv.toArray] w_ fun e w' => e = .returned (.agg zs.toArray) ∧ Grow w w' by rw [hw] at H; exact H
  clear hw hi ho htv htf hf hex htt hck hz ht
  go_enter Tryd.func34, Tryd.ntmps34
  go_wp2_with (first | (with_reducible refine wpl_box (o := ⟨some 1, _, _, _, _, _⟩) rfl rfl rfl ?_))
  intro w2_ hb2_ hb_ hsz2_
  have HX_ := Lib.hid (at_mk hb2_ HTC.out.len)
  clear hb2_ hsz2_
  have HG_ := Lib.hid HB.out.size
  have HB_ := Lib.hid (HB.out.grow' hb_)
  clear HB
  have HB := HB_
  clear HB_
  generalize hg_ : w_.heap.size = g1 at HX_ HG_ ⊢
  clear hg_
  have HX_g := HG_
  clear HG_
  have HX := HX_
  clear hb_ HX_
  try clear w_
  rename World => w_
  go_wp2_with (first | (with_reducible refine wpl_alloc (o := ⟨some 2, _, _, _, _, _⟩) rfl rfl zero_id ?_))
  intro w2_ hb2_ hb_ hsz2_
  have HX_ := Lib.hid (at_mk hb2_ len_id)
  clear hb2_ hsz2_
  have HG_ := Lib.hid HB.out.size
  have HB_ := Lib.hid (HB.out.grow' hb_)
  clear HB
  have HB := HB_
  clear HB_
  have HX_ := Lib.hid (HX.out.grow hb_)
  clear HX
  have HX := HX_
  clear HX_
  generalize hg_ : w_.heap.size = g2 at HX_ HG_ ⊢
  clear hg_
  have HV_g := HG_
  clear HG_
  have HV := HX_
  clear hb_ HX_
  try clear w_
  rename World => w_
  go_wp2_with (first | (with_reducible refine wpl_loadb (o := ⟨some 6, _, _, _, _, _⟩) rfl rfl row_tx HX.out.blk rfl HX.out.len ?_))
  refine (HP.out _ (HI.out.grow HB.out) (HO.out.grow HB.out)).mono ?_
  rintro e w2_ ⟨A', c', rfl, hs, hc, hb_⟩
  have HS := Lib.hid hs; have HC := Lib.hid hc
  have HV_ := Lib.hid (HV.out.grow hb_)
  have HB_ := Lib.hid (HB.out.grow' hb_)
  clear hs hc hb_ HV HB HX HP
  have HV := HV_; have HB := HB_
  clear HV_ HB_
  try clear w_
  rename World => w_
  by_cases h0 : ck = 0
  · have HTE := Lib.hid (show tf = putTB t by rw [HTF.out, if_pos h0])
    have HZ1 := Lib.hid (show Dig zs (sha (underB 8 [tf])) by have h := HZ.out; rw [HTI.out, if_pos h0] at h; rw [HTE.out]; exact h)
    have HLE := Lib.hid (show tf.length ≤ 3000 by rw [HTE.out]; exact putTB_le HK.out (by rw [← HCK.out, h0]))
    subst h0
    go_wp2_with fail
    generalize hw_ : World.alloc w_ _ = w4
    obtain ⟨hX, hb, hs⟩ := alloc_eq hw_
    have HX := Lib.hid hX
    have HV4 := Lib.hid (HV.out.grow hb)
    have HB4 := Lib.hid (HB.out.grow' hb)
    have HS4 := Lib.hid (HS.out.grow hb)
    clear hX hb hs hw_ HV HB HS
    refine (punder_any (m := 8) HZ1.out (parts1 HX.out HS4.out HC.out) (by omega) (fun l hl => by simp only [List.mem_cons, List.not_mem_nil, or_false] at hl; rw [hl]; exact Nat.le_trans HLE.out (by omega)) (HT0.out.grow HB4.out)).mono ?_
    rintro e w5 ⟨rfl, hb5⟩
    have HV5 := Lib.hid (HV4.out.grow hb5)
    have HB5 := Lib.hid (HB4.out.grow' hb5)
    clear hb5 HV4 HB4
    go_wp2_with (first | (with_reducible refine wpl_storeb (o := ⟨none, .store _ _ _, _, _, _, _⟩) rfl rfl row_id HV5.out.blk rfl rfl HV5.out.len HZ1.out.len HZ1.out.one ?_))
    intro w6 hb6 hg6 hs6
    have HB6 := Lib.hid hb6
    have HBB := Lib.hid (put_below HB5.out HV_g.out hg6)
    clear hb6 hg6 hs6
    go_wp2_with fail
    refine ret_cell rfl row_id HB6.out rfl HZ1.out.len rfl ?_
    exact ⟨rfl, HBB.out⟩
  · have HZ0 := Lib.hid (show zs = zeroD.map B by have h := HZ.out.1; rw [HTI.out, if_neg h0] at h; exact h)
    have d0 : (ck != 0) = true := by simpa using h0
    have T0 := Lib.hid built_id0
    rw [← HZ0.out] at T0
    clear h0
    go_wp2_with (first | (refine wpl_build (o := ⟨some 12, _, _, _, _, _⟩) rfl rfl T0.out ?_) | (with_reducible refine wpl_storeb (o := ⟨none, .store _ _ _, _, _, _, _⟩) rfl rfl row_id HV.out.blk rfl rfl HV.out.len HZ.out.len HZ.out.one ?_))
    intro w4 hb4 hg4 hs4
    have HB4 := Lib.hid hb4
    have HBB := Lib.hid (put_below HB.out HV_g.out hg4)
    clear hb4 hg4 hs4
    go_wp2_with fail
    refine ret_cell rfl row_id HB4.out rfl HZ.out.len rfl ?_
    exact ⟨rfl, HBB.out⟩
set_option maxRecDepth 100000 in
set_option maxHeartbeats 4000000 in
theorem rtid_any {A : Option Addr} {n c : Nat} {A2 : Option Addr} {n2 c2 : Nat} {fee ex : Int} {l : List (Value × Inp)} {os : List Outp} {zs : List Value} (hck : checkT ⟨l.map Prod.snd, os, fee, ex⟩ = 0) (hz : Dig zs (tidB ⟨l.map Prod.snd, os, fee, ex⟩)) (w : World) (hi : InsAt w A n c l) (ho : OutsAt w A2 n2 c2 os) (hf : U64 fee) (hex : I64 ex) :
    Calls Tryd.prog 32 #[.agg (txV A n c A2 n2 c2 fee ex).toArray] w fun e w' => e = .returned (.agg zs.toArray) ∧ Grow w w' := by
  obtain ⟨r1, r2, r3, r4⟩ := right_of hck
  have HI := Lib.hid hi; have HO := Lib.hid ho
  have HTC := Lib.hid (txV_cl (A := A) (n := n) (c := c) (A2 := A2) (n2 := n2) (c2 := c2) (fee := fee) (ex := ex))
  have HP := Lib.hid (fun w hi ho => rtput_any (A := A) (n := n) (c := c) (A2 := A2) (n2 := n2) (c2 := c2) (fee := fee) (ex := ex) (l := l) (os := os) w hi ho (by simpa [hi.2.2.1] using r1) (by simpa [ho.2.2.1] using r2) hf r3 (fun p hp => r4 p.2 (List.mem_map_of_mem hp)))
  have HK := Lib.hid (show (Txn.mk (l.map Prod.snd) os fee ex).ok from ⟨fun i h => by obtain ⟨p, hp, rfl⟩ := List.mem_map.1 h; exact (hi.2.1 p hp).2, ho.2.1, hf, hex⟩)
  obtain ⟨t, htt⟩ : ∃ t, t = Txn.mk (l.map Prod.snd) os fee ex := ⟨_, rfl⟩
  rw [← htt] at HP HK hck hz
  have HLE := Lib.hid (putTB_le HK.out hck)
  have HZ := Lib.hid (show Dig zs (sha (underB 8 [putTB t])) by have h := hz; unfold tidB at h; rw [if_pos hck] at h; exact h)
  obtain ⟨tf, htf⟩ : ∃ q, q = putTB t := ⟨_, rfl⟩
  rw [← htf] at HP HLE HZ
  obtain ⟨m, hm⟩ : ∃ q, q = tf.length := ⟨_, rfl⟩
  have HN := Lib.hid hm.symm
  rw [← hm] at HP HLE
  have hm3 : m ≤ 3000 := HLE.out
  obtain ⟨tv, htv⟩ : ∃ q, q = txV A n c A2 n2 c2 fee ex := ⟨_, rfl⟩
  rw [← htv] at HTC HP ⊢
  obtain ⟨w_, hw⟩ : ∃ x, x = w := ⟨_, rfl⟩
  have HB := Lib.hid (show Below w.heap.size w w_ by rw [hw]; exact Below.refl _ _)
  suffices H : Calls Tryd.prog 32 #[.agg tv.toArray] w_ fun e w' => e = .returned (.agg zs.toArray) ∧ Grow w w' by rw [hw] at H; exact H
  clear hw hi ho htv htf hf hex htt hck hz hm r1 r2 r3 r4
  go_enter Tryd.func32, Tryd.ntmps32
  go_wp2_with (first | (with_reducible refine wpl_box (o := ⟨some 1, _, _, _, _, _⟩) rfl rfl rfl ?_))
  intro w2_ hb2_ hb_ hsz2_
  have HX_ := Lib.hid (at_mk hb2_ HTC.out.len)
  clear hb2_ hsz2_
  have HG_ := Lib.hid HB.out.size
  have HB_ := Lib.hid (HB.out.grow' hb_)
  clear HB
  have HB := HB_
  clear HB_
  generalize hg_ : w_.heap.size = g1 at HX_ HG_ ⊢
  clear hg_
  have HX_g := HG_
  clear HG_
  have HX := HX_
  clear hb_ HX_
  try clear w_
  rename World => w_
  go_wp2_with (first | (with_reducible refine wpl_alloc (o := ⟨some 2, _, _, _, _, _⟩) rfl rfl zero_id ?_))
  intro w2_ hb2_ hb_ hsz2_
  have HX_ := Lib.hid (at_mk hb2_ len_id)
  clear hb2_ hsz2_
  have HG_ := Lib.hid HB.out.size
  have HB_ := Lib.hid (HB.out.grow' hb_)
  clear HB
  have HB := HB_
  clear HB_
  have HX_ := Lib.hid (HX.out.grow hb_)
  clear HX
  have HX := HX_
  clear HX_
  generalize hg_ : w_.heap.size = g2 at HX_ HG_ ⊢
  clear hg_
  have HV_g := HG_
  clear HG_
  have HV := HX_
  clear hb_ HX_
  try clear w_
  rename World => w_
  go_wp2_with (first | (with_reducible refine wpl_stop (o := ⟨some 4, _, _, _, _, _⟩) ?_))
  refine stop_go ?_
  generalize hw_ : World.alloc w_ _ = w1_
  obtain ⟨hX_, hb1, hs_⟩ := alloc_eq hw_
  have HW := Lib.hid (own_blk (base := w_.heap.size) hX_ (n := 1) rfl (Nat.le_refl _) (by simp [maxLen]))
  have HG1 := Lib.hid hb1
  have HX1 := Lib.hid (HX.out.grow hb1)
  clear hw_ hX_ hb1 hs_ HX
  go_wp2_with (first | (with_reducible refine wpl_loadb (o := ⟨some 4, _, _, _, _, _⟩) rfl rfl row_tx HX1.out.blk rfl HX1.out.len ?_))
  refine (HP.out _ (HI.out.grow (HB.out.grow' HG1.out)) (HO.out.grow (HB.out.grow' HG1.out))).mono ?_
  rintro e w2_ ⟨A', c', rfl, hs, hc, hb_⟩
  have HS := Lib.hid hs
  have HW2 := Lib.hid (own_below HW.out hb_)
  have HG2 := Lib.hid (Grow.trans _ _ _ HG1.out hb_)
  clear hs hc hb_ HW HG1 HX1 HP
  go_wp2_with fail
  refine (long_any _ _ _ tf _ HS.out (by omega)).mono ?_
  rintro e w3_ ⟨A5, c5, rfl, ho_, hb_⟩
  have HLG := Lib.hid (Sl.of_own ho_)
  have HA := Lib.hid (all_bytes (beBytes m 4 ++ tf))
  have HO3 := Lib.hid (own_below HW2.out hb_)
  have HG3 := Lib.hid (Grow.trans _ _ _ HG2.out hb_)
  clear ho_ hb_ HW2 HG2 HS
  go_wp2_with (at_builtin; refine wpl_apps rfl rfl el_u8 HO3.out rfl HLG.out rfl HA.out (by omega) (by omega) HG3.out.size ?_)
  intro A6 c6 w4 ho hg hA
  have hb4 : Grow w_ w4 := app_below HG3.out HO3.out hg
  have HX := Lib.hid (show Sl w4 w4.heap.size 1 A6 (1 + (4 + m)) ((underB 8 [tf]).map B) by
    have h := Sl.of_own ho
    rw [under_eq 8 tf m HN.out]
    try simp only [List.map_append, List.map_cons, List.map_nil, List.cons_append, List.nil_append, List.append_assoc] at h
    simp only [List.map_append, List.map_cons, List.map_nil, List.cons_append, List.nil_append, List.append_assoc]
    exact h)
  have HB_ := Lib.hid (HB.out.grow' hb4)
  have HV_ := Lib.hid (HV.out.grow hb4)
  clear HB HV ho hg hA HO3 HG3 HLG HA hb4
  go_wp2_with fail
  refine (dof_any _ _ _ HZ.out _ HX.out (by omega)).mono ?_
  rintro e w5 ⟨rfl, hb5⟩
  have HV5 := Lib.hid (HV_.out.grow hb5)
  have HB5 := Lib.hid (HB_.out.grow' hb5)
  clear hb5 HV_ HB_
  go_wp2_with (first | (with_reducible refine wpl_storeb (o := ⟨none, .store _ _ _, _, _, _, _⟩) rfl rfl row_id HV5.out.blk rfl rfl HV5.out.len HZ.out.len HZ.out.one ?_))
  intro w6 hb6 hg6 hs6
  have HB6 := Lib.hid hb6
  have HBB := Lib.hid (put_below HB5.out HV_g.out hg6)
  clear hb6 hg6 hs6
  go_wp2_with fail
  refine ret_cell rfl row_id HB6.out rfl HZ.out.len rfl ?_
  exact ⟨rfl, HBB.out⟩
/-- Is there more than is looked at? -/
def greatT (t : Txn) : Bool := decide (20 < t.ins.length) || decide (20 < t.outs.length) || t.ins.any (fun i => decide (100 < i.secret.length))
set_option maxRecDepth 100000 in
set_option maxHeartbeats 4000000 in
theorem rtgreat_any {A : Option Addr} {n c : Nat} {A2 : Option Addr} {n2 c2 : Nat} {fee ex : Int} {l : List (Value × Inp)} {os : List Outp} (w : World) (hi : InsAt w A n c l) (ho : os.length = n2) (hn : n ≤ 9223372036854775807) (hn2 : n2 ≤ 9223372036854775807) :
    Calls Tryd.prog 28 #[.agg (txV A n c A2 n2 c2 fee ex).toArray] w fun e w' => e = .returned (.int .i64 (if greatT ⟨l.map Prod.snd, os, fee, ex⟩ then 1 else 0)) ∧ Grow w w' := by
  have HI := Lib.hid hi
  have HTC := Lib.hid (txV_cl (A := A) (n := n) (c := c) (A2 := A2) (n2 := n2) (c2 := c2) (fee := fee) (ex := ex))
  have HT0 := Lib.hid (show (txV A n c A2 n2 c2 fee ex)[0]? = some (.slice A n c) from rfl)
  have HT1 := Lib.hid (show (txV A n c A2 n2 c2 fee ex)[1]? = some (.slice A2 n2 c2) from rfl)
  obtain ⟨gr, hgr⟩ : ∃ q, q = greatT ⟨l.map Prod.snd, os, fee, ex⟩ := ⟨_, rfl⟩
  obtain ⟨ins, hins⟩ : ∃ q, q = l.map Prod.snd := ⟨_, rfl⟩
  have HINS := Lib.hid hins
  have HIL := Lib.hid (show ins.length = n by rw [hins, List.length_map]; exact hi.2.2.1)
  have HGR := Lib.hid (show gr = (decide (20 < n) || decide (20 < n2) || ins.any (fun i => decide (100 < i.secret.length))) by rw [hgr, hins]; unfold greatT; simp only [List.length_map]; rw [hi.2.2.1, ho])
  rw [← hgr]
  obtain ⟨gz, hgz⟩ : ∃ z : Int, z = if gr then 1 else 0 := ⟨_, rfl⟩
  have HGZ := Lib.hid hgz
  rw [← hgz]
  obtain ⟨tv, htv⟩ : ∃ q, q = txV A n c A2 n2 c2 fee ex := ⟨_, rfl⟩
  rw [← htv] at HTC HT0 HT1 ⊢
  obtain ⟨w_, hw⟩ : ∃ x, x = w := ⟨_, rfl⟩
  have HB := Lib.hid (show Below w.heap.size w w_ by rw [hw]; exact Below.refl _ _)
  suffices H : Calls Tryd.prog 28 #[.agg tv.toArray] w_ fun e w' => e = .returned (.int .i64 gz) ∧ Grow w w' by rw [hw] at H; exact H
  clear hw hi ho htv hgr hins hgz
  go_enter Tryd.func28, Tryd.ntmps28
  go_wp2_with (first | (with_reducible refine wpl_box (o := ⟨some 1, _, _, _, _, _⟩) rfl rfl rfl ?_))
  intro w2_ hb2_ hb_ hsz2_
  have HX_ := Lib.hid (at_mk hb2_ HTC.out.len)
  clear hb2_ hsz2_
  have HG_ := Lib.hid HB.out.size
  have HB_ := Lib.hid (HB.out.grow' hb_)
  clear HB
  have HB := HB_
  clear HB_
  generalize hg_ : w_.heap.size = g1 at HX_ HG_ ⊢
  clear hg_
  have HX_g := HG_
  clear HG_
  have HX := HX_
  clear hb_ HX_
  try clear w_
  rename World => w_
  have c0 := HX.out.blk.at_ HT0.out
  have c1 := HX.out.blk.at_ HT1.out
  by_cases h1 : n ≤ 20
  · by_cases h2 : n2 ≤ 20
    · have b1 : ¬ (20 < (n : Int)) := by omega
      have b2 : ¬ (20 < (n2 : Int)) := by omega
      have HGE := Lib.hid (show gr = ins.any (fun i => decide (100 < i.secret.length)) by rw [HGR.out, decide_eq_false (by omega), decide_eq_false (by omega)]; rfl)
      go_wp2_with fail
      go_loopw [3] (fun iv wr => ∃ k : Nat, k ≤ n ∧ iv = .int .i64 k ∧ Hid ((ins.take k).any (fun i => decide (100 < i.secret.length)) = false) ∧ wr = w_) (fun iv _ => n - (intOf iv).toNat)
      case atStart => exact ⟨0, by omega, rfl, Lib.hid (by simp), rfl⟩
      case round =>
        obtain ⟨k, hk, rfl, hany, rfl⟩ := hrel
        by_cases hlt : k < n
        · obtain ⟨b, off, p, rfl, hp, hok, hc⟩ := HI.out.at_ hlt
          obtain ⟨⟨As, cs, es, _, _⟩, hio⟩ := hok
          have c34 := bcell HB.out (hc 34 _ (in_at (v := p.1) hio).2.2)
          rw [es] at c34
          have HSN := Lib.hid (any_take (fun i : Inp => decide (100 < i.secret.length)) (l := ins) (k := k) (p := p.2) (by rw [HINS.out, List.getElem?_map, hp]; rfl))
          have HME := Lib.hid (show p.2 ∈ ins by rw [HINS.out]; exact List.mem_map_of_mem (List.mem_of_getElem? hp))
          obtain ⟨sl, hsl⟩ : ∃ q, q = p.2.secret.length := ⟨_, rfl⟩
          have HSL := Lib.hid hsl
          rw [← hsl] at c34
          have v1 : IntKind.i64.wrap ((k : Int) + 1) = (k : Int) + 1 := IntWalk.i64_in _ (by omega)
          clear hp hc hio es hsl
          by_cases h100 : sl ≤ 100
          · have b3 : ¬ (100 < (sl : Int)) := by omega
            have HNX := Lib.hid (show (ins.take (k + 1)).any (fun i => decide (100 < i.secret.length)) = false by rw [HSN.out, hany.out, ← HSL.out, decide_eq_false (by omega)]; rfl)
            go_wp2_with fail
            go_roundw
            all_goals clear v1
            case rel => exact ⟨k + 1, by omega, by go_num, HNX, by first | trivial | rfl⟩
            case measure => simp [intOf]; omega
          · have b3 : (100 < (sl : Int)) := by omega
            have HG1 := Lib.hid (show gr = true by rw [HGE.out]; exact List.any_eq_true.2 ⟨_, HME.out, by rw [← HSL.out]; simp; omega⟩)
            clear v1
            go_wp2_with fail
            go_ret
            exact ⟨by rw [HGZ.out, HG1.out]; rfl, HB.out⟩
        · obtain rfl : k = n := by omega
          have HG1 := Lib.hid (show gr = false by rw [HGE.out]; have h := hany.out; rw [List.take_of_length_le (by rw [HIL.out]; exact Nat.le_refl _)] at h; exact h)
          go_wp2_with fail
          go_ret
          exact ⟨by rw [HGZ.out, HG1.out]; rfl, HB.out⟩
    · have b1 : ¬ (20 < (n : Int)) := by omega
      have b2 : (20 < (n2 : Int)) := by omega
      have HG1 := Lib.hid (show gr = true by rw [HGR.out, decide_eq_true (show 20 < n2 by omega)]; simp)
      go_wp2_with fail
      go_ret
      exact ⟨by rw [HGZ.out, HG1.out]; rfl, HB.out⟩
  · have b1 : (20 < (n : Int)) := by omega
    have HG1 := Lib.hid (show gr = true by rw [HGR.out, decide_eq_true (show 20 < n by omega)]; simp)
    go_wp2_with fail
    go_ret
    exact ⟨by rw [HGZ.out, HG1.out]; rfl, HB.out⟩
end Go.Proofs.YtphmefhnffoafaaDoor

/- The example of seisinlaw07. -/
namespace Go.Proofs.YtphmefhnffoafaaDoor
open Go.RowKit Go.Shelf
set_option linter.unusedVariables false
section
variable {P : Program} {ops : Array Oper} {rest : List Oper} {o : Oper} {a : Act} {w : World} {Q : Exit → Act → World → Prop}
theorem wpl_buildg (hw : Region.wanted o (yielded ops a.tmps) = true) {t : TypeId} {parts : Array (Nat × Operand)} (ho : o.op = .build t parts) {cells : List Value} (h : P.built t (parts.toList.map fun (i, x) => (i, a.eval x)) = some cells.toArray)
    (hk : wpList P ops Q rest (a.put o.dst (.agg cells.toArray)) w) : wpList P ops Q (o :: rest) a w := by
  refine wpl_wanted hw fun K hK => ?_
  unfold Oper.wp
  rw [exec_build ho h w]
  exact hK _ _ hk
end
theorem zero_tx : (Tryd.prog.info? 50).map (·.zero) = some (some (.agg (txV none 0 0 none 0 0 0 0).toArray)) := by kernel_rfl
theorem len_tx : (txV none 0 0 none 0 0 0 0).length = 4 := rfl
theorem built_tx0 (parts : List (Nat × Value)) : Tryd.prog.built 50 parts = Instr.fill (fun i => (#[(0, 1), (1, 1), (2, 1), (3, 1)] : Array (Nat × Nat))[i]?) (txV none 0 0 none 0 0 0 0).toArray parts := by kernel_rfl
theorem bt_tx3 {A A2 : Option Addr} {n c n2 c2 : Nat} {fee : Int} : Tryd.prog.built 50 [(0, .slice A n c), (1, .slice A2 n2 c2), (2, .int .u64 fee)] = some (txV A n c A2 n2 c2 fee 0).toArray := by
  rw [built_tx0, fill_cons (off := 0) (s := 1) (cs := [.slice A n c]) rfl rfl rfl (by simp [txV]), fill_cons (off := 1) (s := 1) (cs := [.slice A2 n2 c2]) rfl rfl rfl (by simp [txV, splice]), fill_cons (off := 2) (s := 1) (cs := [.int .u64 fee]) rfl rfl rfl (by simp [txV, splice]), fill_nil]; rfl
theorem bt_tx0 : Tryd.prog.built 50 [] = some (txV none 0 0 none 0 0 0 0).toArray := by rw [built_tx0]; rfl
def inp7 : Inp := ⟨zeroD, 0, 5, []⟩
def out7 : Outp := ⟨zeroD, 4⟩
theorem chk7 : checkT ⟨[inp7], [out7], 1, 0⟩ = 0 := by decide
theorem chk0 : checkT ⟨[], [], 0, 0⟩ = 4 := by decide
theorem numB_len1 {n : Nat} (h0 : n ≠ 0) (h : n < 256) : (numB n).length = 2 := by
  rw [numB_eq, List.length_append, List.length_reverse, leB_pos h0, show n / 256 = 0 by omega, leB_zero]; rfl
theorem numB_len0 : (numB 0).length = 1 := by rw [numB_eq, leB_zero]; rfl
theorem len7 : (tformB ⟨[inp7], [out7], 1, 0⟩).length = 77 := by
  unfold tformB
  rw [if_pos chk7]
  unfold putTB
  simp only [List.flatMap_cons, List.flatMap_nil, List.append_nil, List.length_append, List.length_cons, List.length_nil, putI, putO, inp7, out7, zeroD, List.length_replicate]
  rw [show (0 : Int).toNat = 0 from rfl, show (5 : Int).toNat = 5 from rfl, show (4 : Int).toNat = 4 from rfl, show (1 : Int).toNat = 1 from rfl, show 0 + 1 = 1 from rfl, numB_len0, numB_len1 (n := 1) (by omega) (by omega), numB_len1 (n := 5) (by omega) (by omega), numB_len1 (n := 4) (by omega) (by omega)]
theorem len7' : ((tformB ⟨[inp7], [out7], 1, 0⟩).length : Int) = 77 := by rw [len7]; rfl
theorem insAt_nil {w : World} : InsAt w none 0 0 [] := ⟨Sl.nil, by simp, rfl, Nat.le_refl _⟩
theorem outsAt_nil {w : World} : OutsAt w none 0 0 [] := ⟨Sl.nil, by simp, rfl, Nat.le_refl _⟩
set_option maxRecDepth 100000 in
set_option maxHeartbeats 2000000 in
theorem awake7_any (w : World) : Calls Tryd.prog 25 #[] w fun e w' => e = .returned (.bool true) ∧ Grow w w' := by
  have HCK := Lib.hid (fun (A A2 : Option Addr) w hi ho => tcheck_any (A := A) (n := 1) (c := 1) (A2 := A2) (n2 := 1) (c2 := 1) (fee := 1) (ex := 0) (l := [(nilS, inp7)]) (os := [out7]) w hi ho (by omega) (by omega) (by simp [U64]) (by simp [I64]))
  have HSZ := Lib.hid (fun (A A2 : Option Addr) w hi ho => tsize_any (A := A) (n := 1) (c := 1) (A2 := A2) (n2 := 1) (c2 := 1) (fee := 1) (ex := 0) (l := [(nilS, inp7)]) (os := [out7]) w hi ho (by omega) (by omega) (by simp [U64]) (by simp [I64]))
  have HC0 := Lib.hid (fun w => tcheck_any (A := none) (n := 0) (c := 0) (A2 := none) (n2 := 0) (c2 := 0) (fee := 0) (ex := 0) (l := []) (os := []) w insAt_nil outsAt_nil (by omega) (by omega) (by simp [U64]) (by simp [I64]))
  simp only [List.map_cons, List.map_nil, chk7, len7', chk0] at HCK HSZ HC0
  have T0 := Lib.hid bt_tx0
  have T3 := Lib.hid (fun (A A2 : Option Addr) => bt_tx3 (A := A) (A2 := A2) (n := 1) (c := 1) (n2 := 1) (c2 := 1) (fee := 1))
  have HB := Lib.hid (Below.refl w.heap.size w)
  go_enter Tryd.func25, Tryd.ntmps25
  go_wp2_with (first | (with_reducible refine wpl_stop (o := ⟨some 6, _, _, _, _, _⟩) ?_))
  refine stop_go ?_
  generalize hw1 : World.alloc w _ = w1
  generalize hw2 : World.alloc w1 _ = w2
  obtain ⟨hX1, hb1, hs1⟩ := alloc_eq hw1
  obtain ⟨hX2, hb2, hs2⟩ := alloc_eq hw2
  rw [hs1] at hX2
  have HII := Lib.hid (show InsAt w2 (some ⟨w.heap.size, 0, none⟩) 1 1 [(nilS, inp7)] from ⟨by have h := Blk.sl (sz := 35) (n := 1) (hX1.grow hb2) rfl; exact h, fun p hp => by rw [List.mem_singleton.1 hp]; exact ⟨⟨none, 0, rfl, Nat.le_refl _, Sl.nil⟩, by simp [inp7, Inp.ok, zeroD, I64, U64]⟩, rfl, Nat.le_refl _⟩)
  have HOO := Lib.hid (show OutsAt w2 (some ⟨w.heap.size + 1, 0, none⟩) 1 1 [out7] from ⟨by have h := Blk.sl (sz := 33) (n := 1) hX2 rfl; exact h, fun p hp => by rw [List.mem_singleton.1 hp]; simp [out7, Outp.ok, zeroD, U64], rfl, Nat.le_refl _⟩)
  have HB_ := Lib.hid (HB.out.grow' (Grow.trans _ _ _ hb1 hb2))
  clear hw1 hw2 hX1 hX2 hb1 hb2 hs1 hs2 HB
  have HB := HB_
  clear HB_
  have HT3 := Lib.hid (T3.out (some ⟨w.heap.size, 0, none⟩) (some ⟨w.heap.size + 1, 0, none⟩))
  have HTC := Lib.hid (txV_cl (A := some ⟨w.heap.size, 0, none⟩) (n := 1) (c := 1) (A2 := some ⟨w.heap.size + 1, 0, none⟩) (n2 := 1) (c2 := 1) (fee := 1) (ex := 0))
  have HCK1 := Lib.hid (HCK.out (some ⟨w.heap.size, 0, none⟩) (some ⟨w.heap.size + 1, 0, none⟩))
  have HSZ1 := Lib.hid (HSZ.out (some ⟨w.heap.size, 0, none⟩) (some ⟨w.heap.size + 1, 0, none⟩))
  obtain ⟨tv, htv⟩ : ∃ q, q = txV (some ⟨w.heap.size, 0, none⟩) 1 1 (some ⟨w.heap.size + 1, 0, none⟩) 1 1 1 0 := ⟨_, rfl⟩
  rw [← htv] at HT3 HTC HCK1 HSZ1
  obtain ⟨zv, hzv⟩ : ∃ q, q = txV none 0 0 none 0 0 0 0 := ⟨_, rfl⟩
  rw [← hzv] at T0 HC0
  clear htv hzv T3 HCK HSZ
  refine wpl_build rfl rfl HT3.out ?_
  rename World => w_
  go_wp2_with (first | (with_reducible refine wpl_alloc (o := ⟨some 1, _, _, _, _, _⟩) rfl rfl zero_tx ?_))
  intro w1_ hb1_ hbw1_ hsz1_
  have HB1_ := Lib.hid (at_mk hb1_ len_tx)
  have HBW1_ := Lib.hid hbw1_
  have HZ1_ := Lib.hid hsz1_
  clear hb1_ hbw1_ hsz1_
  go_wp2_with (first | (with_reducible refine wpl_storeb (o := ⟨none, .store _ _ _, _, _, _, _⟩) rfl rfl row_tx HB1_.out.blk rfl rfl HB1_.out.len HTC.out.len HTC.out.one ?_))
  intro w2_ hb2_ hg2_ hsz2_
  have hb_ := var_grow HBW1_.out HZ1_.out hg2_
  have HX_ := Lib.hid (at_mk hb2_ HTC.out.len)
  clear hb2_ hg2_ hsz2_ HB1_ HBW1_ HZ1_
  have HB_ := Lib.hid (HB.out.grow' hb_)
  clear HB
  have HB := HB_
  clear HB_
  have HII_ := Lib.hid (HII.out.grow hb_)
  clear HII
  have HII := HII_
  clear HII_
  have HOO_ := Lib.hid (HOO.out.grow hb_)
  clear HOO
  have HOO := HOO_
  clear HOO_
  generalize hg_ : w_.heap.size = g1 at HX_ ⊢
  clear hg_
  have HX := HX_
  clear hb_ HX_
  clear w1_
  try clear w_
  rename World => w_
  go_wp2_with (first | (with_reducible refine wpl_loadb (o := ⟨some 7, _, _, _, _, _⟩) rfl rfl row_tx HX.out.blk rfl HX.out.len ?_))
  refine (HCK1.out _ HII.out HOO.out).mono ?_
  rintro e w_ ⟨rfl, hb_⟩
  have HB_ := Lib.hid (HB.out.grow' hb_)
  clear HB
  have HB := HB_
  clear HB_
  have HX_ := Lib.hid (HX.out.grow hb_)
  clear HX
  have HX := HX_
  clear HX_
  have HII_ := Lib.hid (HII.out.grow hb_)
  clear HII
  have HII := HII_
  clear HII_
  have HOO_ := Lib.hid (HOO.out.grow hb_)
  clear HOO
  have HOO := HOO_
  clear HOO_
  clear hb_
  go_wp2_with (first | (with_reducible refine wpl_stop (o := ⟨some 11, _, _, _, _, _⟩) ?_))
  refine stop_go ?_
  refine wpl_buildg (by first | rfl | (go_simp; done) | fail) rfl T0.out ?_
  go_wp2_with fail
  refine (HC0.out _).mono ?_
  rintro e w_ ⟨rfl, hb_⟩
  have HB_ := Lib.hid (HB.out.grow' hb_)
  clear HB
  have HB := HB_
  clear HB_
  have HX_ := Lib.hid (HX.out.grow hb_)
  clear HX
  have HX := HX_
  clear HX_
  have HII_ := Lib.hid (HII.out.grow hb_)
  clear HII
  have HII := HII_
  clear HII_
  have HOO_ := Lib.hid (HOO.out.grow hb_)
  clear HOO
  have HOO := HOO_
  clear HOO_
  clear hb_
  go_wp2_with (first | (with_reducible refine wpl_loadb (o := ⟨some 16, _, _, _, _, _⟩) rfl rfl row_tx HX.out.blk rfl HX.out.len ?_) | (with_reducible refine wpl_loadw (o := ⟨some 16, _, _, _, _, _⟩) (by first | rfl | (go_simp; done) | fail) rfl row_tx HX.out.blk rfl HX.out.len ?_))
  refine (HSZ1.out _ HII.out HOO.out).mono ?_
  rintro e w_ ⟨rfl, hb_⟩
  have HB_ := Lib.hid (HB.out.grow' hb_)
  clear HB
  have HB := HB_
  clear HB_
  have HX_ := Lib.hid (HX.out.grow hb_)
  clear HX
  have HX := HX_
  clear HX_
  clear hb_
  go_wp2_with fail
  go_ret
  exact ⟨rfl, HB.out⟩
end Go.Proofs.YtphmefhnffoafaaDoor

/- The contract of spend.Lock. -/
import Derived.Test.YtnnjjbkdjkjnpaaGreatDoorSpendBackRd32
set_option linter.unusedSimpArgs false
set_option linter.unusedVariables false
set_option maxRecDepth 100000
set_option maxHeartbeats 16000000
namespace Go.Proofs.YtnnjjbkdjkjnpaaGreatDoor
open Go.RowKit Go.Shelf
theorem NatsAt.touchK {w w' : World} {g b lo : Nat} {A : Option Addr} {ks : List Nat} {L : LocksL} {s : Int} (h : NatsAt w lo A ks) (hc : LocksAt w g b L s) (ht : Touched [g, b] w w') : NatsAt w' lo A ks :=
 h.off (fun q hq hn => by
  obtain ⟨q', off, x, h1, h2, h3⟩ := h.first hn
  rw [h1] at hq
  obtain rfl : q' = q := Option.some.inj hq
  refine ht.block q' h2 ?_
  simp only [List.mem_cons, List.not_mem_nil, or_false, not_or]
  constructor
  ·rintro rfl
   have h5 := hc.blk.cell off
   rw [h3] at h5
   match off, h5 with
   | 0, h5 => cases h5
   | 1, h5 => cases h5
   | k + 2, h5 => cases h5
  ·rintro rfl
   obtain ⟨es, clock, h6, _⟩ := hc.map
   obtain ⟨o, h7, h8⟩ := cells_of_cell h3
   rw [h6] at h7; cases h7; cases h8) ht.size
theorem Touched.wide {w w' : World} {l m : List Nat} (h : Touched l w w') (hl : ∀ x ∈ l, x ∈ m) : Touched m w w' := ⟨h.os, h.tape, h.output, h.size, fun k hk hne => h.block k hk (fun hh => hne (hl k hh))⟩
theorem putK_after {w : World} {g b : Nat} {X L : LocksL} {s : Int} {p : PtK} {c : LockV} (hr : RelK X L s) (hp : PtOK p) (hc : LockOK c)
  (h1 : putQ L s p c.1 = 0 → LocksAt w g b (L ++ [(p, (c.1, c.2))]) (addE s c.1.2).1) (h2 : putQ L s p c.1 ≠ 0 → LocksAt w g b L s) : ∃ L' s', LocksAt w g b L' s' ∧ RelK (rputK X p c).1 L' s' := by
 by_cases h0 : putQ L s p c.1 = 0
 ·exact ⟨_, _, h1 h0, hr.put hp hc h0⟩
 ·exact ⟨L, s, h2 h0, by rw [rputK_same (by rw [hr.code p c hc]; exact h0)]; exact hr⟩
theorem inputs_ok' {X : CoinsL} {Y : LocksL} {t : Txn} {n me : Int} (h : (inputsR X Y t n me).2 = 0) : checkT t = 0 ∧ hereI t n me ≠ [] := by
 by_cases h1 : checkT t = 0
 ·refine ⟨h1, fun h2 => ?_⟩
  unfold inputsR at h; rw [if_neg (by omega), if_pos h2] at h; simp at h
 ·exfalso; unfold inputsR at h; rw [if_pos h1] at h; exact h1 h
theorem lock_any {tv : List Value} {t : Txn} (n me : Int) {X L : CoinsL} {Y K : LocksL} {s s2 : Int} {g b g2 b2 : Nat} (w : World) (h : TxKeep w [g, b, g2, b2] tv t) (ht : Tabs w) (hc : CoinsAt w g b L s) (hrc : RelC X L s) (hk : LocksAt w g2 b2 K s2) (hrk : RelK Y K s2) (hne : g2 ∉ [g, b] ∧ b2 ∉ [g, b] ∧ g ∉ [g2, b2] ∧ b ∉ [g2, b2]) :
  Calls Tryz.prog 17 #[.agg tv.toArray, .int .i64 n, .int .i64 me, .pointer (some ⟨g, 0, none⟩), .pointer (some ⟨g2, 0, none⟩)] w fun e w' => e = .returned (.tuple #[.int .u64 (lockR X Y t n me).2.1, .int .i64 (lockR X Y t n me).2.2]) ∧ (∃ L' s', CoinsAt w' g b L' s' ∧ RelC (lockR X Y t n me).1.1 L' s') ∧ (∃ K' s', LocksAt w' g2 b2 K' s' ∧ RelK (lockR X Y t n me).1.2 K' s') ∧ Touched [g, b, g2, b2] w w' := by
 have HTC := kp h.now.cl
 have HIP := kp (fun w' (k : Grow w w') => inputs_any n me w' (h.now.grow k) (hc.call k) hrc (hk.call k) hrk (ht.grow k))
 have HAT := kp (fun w' (k : Grow w w') => at_any n me w' (h.now.grow k) (ht.grow k))
 have HID := kp (fun w' (k : Grow w w') => (h.now.grow k).id (tid_dig t) (ht.grow k))
 have HZ := kp (tid_dig t)
 have HCN := kp hc; have HRC := kp hrc; have HTX := kp h; have HKN := kp hk; have HRK := kp hrk; have HNE := kp hne
 have HLX := kp hrk.lenX
 have hmx := hrk.max; have hnn := hrk.nn; have hl64 := hrk.len
 have HAK := kp hrk.amt
 obtain ⟨A, c, l, hv0, hi, hl, hn⟩ := h.now.ins
 have HV0 := kp hv0
 have HKL := kp (fun k (hk : k ∈ hereI t n me) => hereI_lt hk)
 have hk16 := hereI_len t n me
 have HIE := kp (fun he => inputs_err (X := X) (Y := Y) (t := t) (n := n) (me := me) he)
 have HIO := kp (fun he => inputs_ok' (X := X) (Y := Y) (t := t) (n := n) (me := me) he)
 have HTL := kp (fun hck => tid_len (t := t) hck)
 obtain ⟨LR, hLR⟩ : ∃ q, q = lockR X Y t n me := ⟨_, rfl⟩
 have HLR := kp (show LR = if (inputsR X Y t n me).2 ≠ 0 then ((X, Y), 0, (inputsR X Y t n me).2) else if 64 < Y.length + (hereI t n me).length then ((X, Y), 0, 18)
  else if 4611686018427387904 - amtK Y < (inputsR X Y t n me).1 then ((X, Y), 0, 6) else (locksR (tidB t) t.ins (hereI t n me) X Y, (inputsR X Y t n me).1, 0) from hLR)
 rw [HLX.out, HAK.out] at HLR
 rw [← hLR]
 obtain ⟨ks, hks⟩ : ∃ q, q = hereI t n me := ⟨_, rfl⟩
 obtain ⟨ko, hko⟩ : ∃ q, q = hereO t n me := ⟨_, rfl⟩
 rw [← hks] at HKL HAT hk16 HLR
 rw [← hko] at HAT
 obtain ⟨R, hR⟩ : ∃ R, R = inputsR X Y t n me := ⟨_, rfl⟩
 rw [← hR] at HIP HIE HIO HLR
 obtain ⟨tid, htid⟩ : ∃ q, q = tidB t := ⟨_, rfl⟩
 rw [← htid] at HZ HID HLR HTL
 obtain ⟨zs, hzs⟩ : ∃ z, z = tid.map B := ⟨_, rfl⟩
 have HZS := kp hzs
 rw [← hzs] at HZ HID
 obtain ⟨w_, hw⟩ : ∃ x, x = w := ⟨_, rfl⟩
 have HB := kp (show Below w.heap.size w w_ by rw [hw]; exact Below.refl _ _)
 suffices H : Calls Tryz.prog 17 #[.agg tv.toArray, .int .i64 n, .int .i64 me, .pointer (some ⟨g, 0, none⟩), .pointer (some ⟨g2, 0, none⟩)] w_ (fun e w' => e = .returned (.tuple #[.int .u64 LR.2.1, .int .i64 LR.2.2]) ∧ (∃ L' s', CoinsAt w' g b L' s' ∧ RelC LR.1.1 L' s') ∧ (∃ K' s', LocksAt w' g2 b2 K' s' ∧ RelK LR.1.2 K' s') ∧ Touched [g, b, g2, b2] w w') by rw [hw] at H; exact H
 clear hw h hc hrc hk hrk ht hv0 hi hl hR hks hko hLR htid hzs hne
 have HNO := kp (fun w' (k : Grow w w') (er : Int) (hm : LR = ((X, Y), 0, er)) => show (∃ L' s', CoinsAt w' g b L' s' ∧ RelC LR.1.1 L' s') ∧ (∃ K' s', LocksAt w' g2 b2 K' s' ∧ RelK LR.1.2 K' s') ∧ Touched [g, b, g2, b2] w w' from ⟨⟨L, s, HCN.out.call k, by rw [hm]; exact HRC.out⟩, ⟨K, s2, HKN.out.call k, by rw [hm]; exact HRK.out⟩, Touched.of_below k⟩)
 go_enter Tryz.func17, Tryz.ntmps17
 go_wp2_with (first | (with_reducible refine wpl_box (o := ⟨some 5, _, _, _, _, _⟩) rfl rfl rfl ?_))
 intro w2_ hb2_ hb_ hsz2_
 have HX_ := kp (at_mk hb2_ HTC.out.len)
 clear hb2_ hsz2_
 have HG_ := kp HB.out.size
 replace HB := kp (HB.out.grow' hb_)
 generalize hg_ : w_.heap.size = g1 at HX_ HG_ ⊢
 clear hg_
 have HX_g := HG_
 clear HG_
 have HX := HX_
 clear hb_ HX_
 try clear w_
 rename World => w_
 go_wp2_with (with_reducible refine wlb 22 row_tx HX.out.blk HX.out.len ?_)
 refine (HIP.out _ HB.out).mono ?_
 rintro e w_ ⟨rfl, hb_⟩
 replace HB := kp (HB.out.grow' hb_)
 replace HX := kp (HX.out.grow hb_)
 clear hb_
 obtain ⟨ra, rb⟩ := R
 by_cases hr : rb = 0
 case neg =>
  have z1 : (rb != 0) = true := by simpa using hr
  have HE := kp (show LR = ((X, Y), 0, rb) by rw [HLR.out, if_pos hr])
  go_wp2_with fail
  go_ret2
  exact ⟨by rw [HE.out]; rfl, HNO.out _ HB.out _ HE.out⟩
 case pos =>
  have HLR1 := kp (show LR = if 64 < K.length + ks.length then ((X, Y), 0, 18) else if 4611686018427387904 - s2 < ra then ((X, Y), 0, 6) else (locksR tid t.ins ks X Y, ra, 0) by rw [HLR.out, if_neg (fun h => h hr)])
  have HIO1 := kp (HIO.out hr)
  have HTL1 := kp (HTL.out HIO1.out.1)
  subst hr
  have z1 : ((0 : Int) != 0) = false := by decide
  clear HLR HIE HIO HTL
  go_wp2_with (with_reducible refine wlb 34 row_tx HX.out.blk HX.out.len ?_)
  refine (HAT.out _ HB.out).mono ?_
  rintro e w2_ ⟨A3, c3, A4, c4, rfl, ha, _, hb_⟩
  have HK := kp (ha.less HB.out.size)
  replace HX := kp (HX.out.grow hb_); replace HB := kp (HB.out.grow' hb_)
  clear ha hb_
  try clear w_
  rename World => w_
  go_wp2_with fail
  refine (klen_any g2 b2 K s2 w_ (HKN.out.call HB.out)).mono ?_
  rintro e w9_ ⟨rfl, rfl⟩
  by_cases h18 : 64 < K.length + ks.length
  case pos =>
   have HE := kp (show LR = ((X, Y), 0, 18) by rw [HLR1.out, if_pos h18])
   have h18i : (64 : Int) < (K.length : Int) + (ks.length : Int) := by omega
   go_wp2_with fail
   go_ret2
   exact ⟨by rw [HE.out]; rfl, HNO.out _ HB.out _ HE.out⟩
  case neg =>
   have HLR2 := kp (show LR = if 4611686018427387904 - s2 < ra then ((X, Y), 0, 6) else (locksR tid t.ins ks X Y, ra, 0) by rw [HLR1.out, if_neg h18])
   have h18i : ¬ ((64 : Int) < (K.length : Int) + (ks.length : Int)) := by omega
   have q1 : IntKind.u64.wrap (4611686018427387904 - s2) = 4611686018427387904 - s2 := by rw [IntKind.wrap_u64]; omega
   clear HLR1
   go_wp2_with fail
   refine (ksum_any g2 b2 K s2 _ (HKN.out.call HB.out)).mono ?_
   rintro e w9_ ⟨rfl, rfl⟩
   by_cases h6 : 4611686018427387904 - s2 < ra
   case pos =>
    have HE := kp (show LR = ((X, Y), 0, 6) by rw [HLR2.out, if_pos h6])
    go_wp2_with fail
    go_ret2
    exact ⟨by rw [HE.out]; rfl, HNO.out _ HB.out _ HE.out⟩
   case neg =>
    have HE := kp (show LR = (locksR tid t.ins (ks.drop 0) X Y, ra, 0) by rw [HLR2.out, if_neg h6, List.drop_zero])
    clear HLR2
    go_wp2_with (with_reducible refine wlb 51 row_tx HX.out.blk HX.out.len ?_)
    refine (HID.out _ HB.out).mono ?_
    rintro e w_ ⟨rfl, hb_⟩
    replace HB := kp (HB.out.grow' hb_)
    replace HX := kp (HX.out.grow hb_)
    replace HK := kp (HK.out.grow hb_)
    clear hb_
    go_wp2_with (first | (with_reducible refine wpl_alloc (o := ⟨some 16, _, _, _, _, _⟩) rfl rfl zero_id ?_))
    intro w1_ hb1_ hbw1_ hsz1_
    have HB1_ := kp (at_mk hb1_ len_id)
    have HBW1_ := kp hbw1_
    have HZ1_ := kp hsz1_
    clear hb1_ hbw1_ hsz1_
    go_wp2_with (with_reducible refine wsb row_id HB1_.out.blk HB1_.out.len HZ.out.len HZ.out.one ?_)
    intro w2_ hb2_ hg2_ hsz2_
    have hb_ := var_grow HBW1_.out HZ1_.out hg2_
    have HX_ := kp (at_mk hb2_ HZ.out.len)
    clear hb2_ hg2_ hsz2_ HB1_ HBW1_ HZ1_
    replace HB := kp (HB.out.grow' hb_)
    replace HX := kp (HX.out.grow hb_)
    replace HK := kp (HK.out.grow hb_)
    generalize hg_ : w_.heap.size = gI at HX_ ⊢
    clear hg_
    have HI := HX_
    clear hb_ HX_
    clear w1_
    try clear w_
    rename World => w_
    obtain ⟨RF, hRF⟩ : ∃ q, q = locksR tid t.ins (ks.drop 0) X Y := ⟨_, rfl⟩
    rw [← hRF] at HE
    have HI0 := kp (show At w_ g1 27 4 tv ∧ At w_ gI 46 32 zs ∧ NatsAt w_ w.heap.size A3 ks ∧ CoinsAt w_ g b L s ∧ RelC X L s ∧ LocksAt w_ g2 b2 K s2 ∧ RelK Y K s2 ∧ Touched [g, b, g2, b2] w w_ ∧ locksR tid t.ins (ks.drop 0) X Y = RF from ⟨HX.out, HI.out, HK.out, HCN.out.call HB.out, HRC.out, HKN.out.call HB.out, HRK.out, Touched.of_below HB.out, hRF.symm⟩)
    clear HX HI HK HB HCN HRC HKN HRK HAT HIP HID hRF HNO
    go_wp2_with fail
    go_loopw [55] (fun iv wr => ∃ (k : Nat), k ≤ ks.length ∧ iv = .int .i64 k ∧ Hid (∃ Z M s V N s2, At wr g1 27 4 tv ∧ At wr gI 46 32 zs ∧ NatsAt wr w.heap.size A3 ks ∧ CoinsAt wr g b M s ∧ RelC Z M s ∧ LocksAt wr g2 b2 N s2 ∧ RelK V N s2 ∧ Touched [g, b, g2, b2] w wr ∧ locksR tid t.ins (ks.drop k) Z V = RF)) (fun iv _ => ks.length - (intOf iv).toNat)
    case atStart => exact ⟨0, Nat.zero_le _, rfl, kp ⟨X, L, s, Y, K, s2, HI0.out⟩⟩
    case round =>
     obtain ⟨k, hk, rfl, hI⟩ := hrel
     clear HI0
     obtain ⟨Z, M, s, V, N, s2, hx_, hi_, hn_, hm_, hr_, hv_, hrv_, ht_, hf_⟩ := hI.out
     have HX := kp hx_; have HI := kp hi_; have HK := kp hn_; have HM := kp hm_; have HR := kp hr_; have HN := kp hv_; have HRV := kp hrv_; have HTO := kp ht_; have HF := kp hf_
     clear hI hx_ hi_ hn_ hm_ hr_ hv_ hrv_ ht_ hf_
     rename World => w_
     by_cases hlt : k < ks.length
     ·obtain ⟨b5, o5, j, rfl, hj, c5⟩ := HK.out.at_ hlt
      have hjl := HKL.out j (List.mem_of_getElem? hj)
      obtain ⟨l2, hii, hl2⟩ := (HTX.out _ HTO.out).insAt HV0.out
      obtain ⟨bi, oi, p, rfl, hp, hok, hcc⟩ := hii.at_ hjl
      have hbi : bi < w_.heap.size := by
       have h33 := hcc 32 _ (in_at (v := p.1) hok.2).1
       exact World.block_lt_of_cell? w_ _ h33
      have hp2 : t.ins[j]? = some p.2 := by rw [← hl2, List.getElem?_map, hp]; rfl
      have HST := kp (show locksR tid t.ins (ks.drop (k + 1)) (cutC Z p.2.pt) (rputK V p.2.pt ((lookC Z p.2.pt).getD noCoin, tid)).1 = RF by rw [← HF.out]; exact (locksR_step hj hp2).symm)
      have HPO := kp (in_ok hok.2)
      have HPC := kp (ptV_cl HPO.out)
      have HMP := kp (show ∀ i u, (ptV p.2.pt)[i]? = some u → w_.cell? ⟨bi, oi + j * 35 + i, none⟩ = some u from fun i u hu => hcc i u (in_pt p.1 p.2 hu))
      have HTK := kp (show Calls Tryz.prog 39 #[.pointer (some ⟨g, 0, none⟩), ptA p.2.pt] w_ fun e w' => e = .returned (.tuple #[coinA ((lookC Z p.2.pt).getD noCoin), .bool (lookC Z p.2.pt).isSome]) ∧ Touched [g, b] w_ w' ∧ CoinsAt w' g b (dropC M p.2.pt) (s - ((lookC M p.2.pt).getD noCoin).2) by
       rw [HR.out.look]; exact take_any g b M s p.2.pt w_ HM.out HPO.out (by have := HR.out.max; omega) (HR.out.amtp p.2.pt).2)
      have HR2 := kp (HR.out.take p.2.pt)
      have HCO := kp (HR.out.coinOK p.2.pt)
      have HCC := kp (coinV_cl HCO.out)
      have HLK := kp (show LockOK ((lookC Z p.2.pt).getD noCoin, tid) from ⟨HCO.out, HTL1.out⟩)
      have HKP := kp (fun w' (h' : LocksAt w' g2 b2 N s2) => kput_any g2 b2 N s2 p.2.pt tid ((lookC Z p.2.pt).getD noCoin) w' h' HPO.out HTL1.out HCO.out HRV.out.nn HRV.out.max)
      rw [← HZS.out] at HKP
      have HAF := kp (fun w' h1 h2 => putK_after (w := w') (g := g2) (b := b2) HRV.out HPO.out HLK.out h1 h2)
      unfold ptA at HTK HKP
      unfold coinA at HTK HKP
      obtain ⟨es, hes⟩ : ∃ c, c = ptV p.2.pt := ⟨_, rfl⟩
      rw [← hes] at HPC HMP HTK HKP
      obtain ⟨pp, hpp⟩ : ∃ c, c = p.2.pt := ⟨_, rfl⟩
      rw [← hpp] at HST HTK HR2 HCC HKP HAF
      obtain ⟨co, hco⟩ : ∃ c, c = (lookC Z pp).getD noCoin := ⟨_, rfl⟩
      rw [← hco] at HST HTK HCC HKP HAF
      obtain ⟨cv, hcv⟩ : ∃ c, c = coinV co := ⟨_, rfl⟩
      rw [← hcv] at HTK HCC HKP
      generalize (lookC Z pp).isSome = lk at HTK
      have HBI := kp hbi
      have HNI := kp (show bi ∉ [g, b] from fun hm => by
       have h33 := HMP.out 32 _ (by rw [hes]; exact ptV_ix HPO.out.1)
       have h34 := HMP.out 0 _ (by rw [hes]; exact ptV_at HPO.out.1 (k := 0) (by omega))
       simp only [List.mem_cons, List.not_mem_nil, or_false] at hm
       rcases hm with rfl | rfl
       ·have h5 := HM.out.blk.cell (oi + j * 35 + 32)
        rw [h33] at h5
        have : ([Value.map (some b), Value.int .u64 s])[oi + j * 35 + 32]? = none := List.getElem?_eq_none (by simp)
        rw [this] at h5; cases h5
       ·obtain ⟨es', clock, h6, _⟩ := HM.out.map
        obtain ⟨o, h7, h8⟩ := cells_of_cell h33
        rw [h6] at h7; cases h7; cases h8)
      have c0 := HX.out.blk.at_ HV0.out
      have q2 : ((j : Int) < (t.ins.length : Int)) := by omega
      clear hj hp hok hcc hp2 hii hl2 HF HPO HR HCO HLK hes hpp hco hcv hbi
      go_wp2_with (with_reducible refine wlm 66 row_point HMP.out HPC.out.len ?_)
      refine HTK.out.mono ?_
      rintro e w2_ ⟨rfl, ht_, hm_⟩
      have HM2 := kp hm_
      have HNX := kp (HX.out.ne_coins HM.out (by decide)); have HNJ := kp (HI.out.ne_coins HM.out (by decide))
      replace HK := kp (HK.out.touchC HM.out ht_)
      replace HMP := kp (show ∀ i u, es[i]? = some u → w2_.cell? ⟨bi, oi + j * 35 + i, none⟩ = some u from fun i u hu => (World.cell?_of_block (w := w_) (ht_.block bi HBI.out HNI.out)).trans (HMP.out i u hu))
      replace HBI := kp (show bi < w2_.heap.size from Nat.lt_of_lt_of_le HBI.out ht_.size)
      replace HX := kp (HX.out.touchd ht_ HNX.out); replace HI := kp (HI.out.touchd ht_ HNJ.out); replace HN := kp (HN.out.touchd ht_ HNE.out.1 HNE.out.2.1)
      replace HTO := kp (HTO.out.trans (ht_.wide (fun x hx => by simp only [List.mem_cons, List.not_mem_nil, or_false] at hx ⊢; rcases hx with rfl | rfl <;> simp)))
      clear ht_ hm_ HTK c0 c5 HM HNX HNJ HNI
      try clear w_
      rename World => w_
      obtain ⟨wq, hwq⟩ : ∃ q, q = w_ := ⟨_, rfl⟩
      have HB := kp (show Below wq.heap.size wq w_ by rw [hwq]; exact Below.refl _ _)
      replace HMP := kp (show ∀ w', Below wq.heap.size wq w' → ∀ i u, es[i]? = some u → w'.cell? ⟨bi, oi + j * 35 + i, none⟩ = some u from fun w' hb i u hu => bcell hb (by rw [hwq]; exact HMP.out i u hu))
      replace HBI := kp (show bi < wq.heap.size by rw [hwq]; exact HBI.out)
      clear hwq
      go_wp2_with (first | (with_reducible refine wpl_alloc (o := ⟨some 19, _, _, _, _, _⟩) rfl rfl zero_coin ?_))
      intro w1_ hb1_ hbw1_ hsz1_
      have HB1_ := kp (at_mk hb1_ len_coin)
      have HBW1_ := kp hbw1_
      have HZ1_ := kp hsz1_
      clear hb1_ hbw1_ hsz1_
      go_wp2_with (with_reducible refine wsb row_coin HB1_.out.blk HB1_.out.len HCC.out.len HCC.out.one ?_)
      intro w2_ hb2_ hg2_ hsz2_
      have hb_ := var_grow HBW1_.out HZ1_.out hg2_
      have HX_ := kp (at_mk hb2_ HCC.out.len)
      clear hb2_ hg2_ hsz2_ HB1_ HBW1_ HZ1_
      replace HB := kp (HB.out.grow' hb_)
      replace HX := kp (HX.out.grow hb_)
      replace HI := kp (HI.out.grow hb_)
      replace HK := kp (HK.out.grow hb_)
      replace HN := kp (HN.out.grow hb_)
      replace HM2 := kp (HM2.out.grow hb_)
      replace HTO := kp (HTO.out.grow hb_)
      generalize hg_ : w_.heap.size = gW at HX_ ⊢
      clear hg_
      have HW := HX_
      clear hb_ HX_
      clear w1_
      try clear w_
      rename World => w_
      go_wp2_with fail
      try go_wp2_with fail
      repeat' (first | (with_reducible refine wp_plan (id := 14) Grow [0,0,2,0,0,0,2,2,2,3] (.get 0 (.get 1 (.get 2 (.get 3 (.get 4 (.get 5 (.get 6 (.get 7 (.get 8 (.act 9 .done)))))))))) (by kernel_rfl) (by kernel_rfl) Grow.refl Grow.trans ?_) | go_values | go_skip | go_guarded | go_step | go_upon | go_back)
      intro w_ hd_
      have hb_ := hd_.grow
      replace HB := kp (HB.out.grow' hb_)
      replace HX := kp (HX.out.grow hb_)
      replace HI := kp (HI.out.grow hb_)
      replace HK := kp (HK.out.grow hb_)
      replace HN := kp (HN.out.grow hb_)
      replace HM2 := kp (HM2.out.grow hb_)
      replace HTO := kp (HTO.out.grow hb_)
      replace HW := kp (HW.out.grow hb_)
      clear hb_ hd_
      have HMQ := kp (HMP.out _ HB.out); have HBQ := kp (Nat.lt_of_lt_of_le HBI.out HB.out.size)
      have c0 := HX.out.blk.at_ HV0.out
      repeat (first | (refine pl_calm rfl rfl (by first | exact wanted_none rfl | (go_simp; done) | rfl) (fun w_ => by first | (go_simp; rfl) | (go_simp; done) | rfl) (fun K hK => ?_); go_simp; refine hK _ _ ?_; clear hK K) | (refine pl_skip rfl (by first | (go_simp; done) | rfl) (fun K hK => ?_); go_simp; refine hK _ _ ?_; clear hK K) | (refine pl_skipa rfl (by first | (go_simp; done) | rfl) (fun K hK => ?_); go_simp; refine hK _ _ ?_; clear hK K) | (refine pl_load rfl rfl (by first | exact wanted_none rfl | (go_simp; done) | rfl) rfl (by first | rfl | (go_simp; rfl)) (by kernel_rfl) (by first | exact c0) (fun K hK => ?_); go_simp; refine hK _ _ ?_; clear hK K) | (refine pl_loadnow rfl rfl (by first | exact wanted_none rfl | (go_simp; done) | rfl) rfl (by first | rfl | (go_simp; rfl)) (by kernel_rfl) (by first | exact c0) (fun K hK => ?_); go_simp; refine hK _ _ ?_; clear hK K))
      refine pl_loadm rfl (by decide) (by exact wanted_none rfl) rfl row_point HMQ.out HBQ.out (by first | rfl | (go_simp; done) | rfl) HPC.out.len (fun K hK => ?_)
      go_simp
      refine hK _ _ ?_
      clear hK K
      repeat (first | (refine pl_loadb rfl rfl (by first | exact wanted_none rfl | (go_simp; done) | rfl) rfl row_id HI.out.blk (by first | rfl | (go_simp; done) | rfl) HI.out.len (fun K hK => ?_); go_simp; refine hK _ _ ?_; clear hK K) | (refine pl_loadbnow rfl rfl (by first | exact wanted_none rfl | (go_simp; done) | rfl) rfl row_id HI.out.blk (by first | rfl | (go_simp; done) | rfl) HI.out.len (fun K hK => ?_); go_simp; refine hK _ _ ?_; clear hK K) | (refine pl_loadb rfl rfl (by first | exact wanted_none rfl | (go_simp; done) | rfl) rfl row_coin HW.out.blk (by first | rfl | (go_simp; done) | rfl) HW.out.len (fun K hK => ?_); go_simp; refine hK _ _ ?_; clear hK K) | (refine pl_loadbnow rfl rfl (by first | exact wanted_none rfl | (go_simp; done) | rfl) rfl row_coin HW.out.blk (by first | rfl | (go_simp; done) | rfl) HW.out.len (fun K hK => ?_); go_simp; refine hK _ _ ?_; clear hK K) | (refine pl_calm rfl rfl (by first | exact wanted_none rfl | (go_simp; done) | rfl) (fun w_ => by first | (go_simp; rfl) | (go_simp; done) | rfl) (fun K hK => ?_); go_simp; refine hK _ _ ?_; clear hK K) | (refine pl_skip rfl (by first | (go_simp; done) | rfl) (fun K hK => ?_); go_simp; refine hK _ _ ?_; clear hK K) | (refine pl_skipa rfl (by first | (go_simp; done) | rfl) (fun K hK => ?_); go_simp; refine hK _ _ ?_; clear hK K))
      clear c0 HMQ HBQ HMP HBI
      refine pl_act rfl (by first | exact wanted_none rfl | (go_simp; done) | rfl) (fun K hK => ?_)
      go_wp2_with fail
      refine Calls.mono (show Calls Tryz.prog 34 _ w_ _ from HKP.out w_ HN.out) ?_
      rintro e w2_ ⟨rfl, ht_, h1_, h2_⟩
      have HAF2 := kp (HAF.out w2_ h1_ h2_)
      have HNX := kp (HX.out.ne_locks HN.out (by decide)); have HNJ := kp (HI.out.ne_locks HN.out (by decide))
      replace HK := kp (HK.out.touchK HN.out ht_)
      replace HX := kp (HX.out.touchd ht_ HNX.out); replace HI := kp (HI.out.touchd ht_ HNJ.out); replace HM2 := kp (HM2.out.touchd ht_ HNE.out.2.2.1 HNE.out.2.2.2)
      replace HTO := kp (HTO.out.trans (ht_.wide (fun x hx => by simp only [List.mem_cons, List.not_mem_nil, or_false] at hx ⊢; rcases hx with rfl | rfl <;> simp)))
      go_wp2_with fail
      refine hK _ _ (fun h => by cases h) ?_
      clear hK K ht_ h1_ h2_ HNX HNJ HN HW HB HKP HAF
      obtain ⟨N', s'', hn_, hrn_⟩ := HAF2.out
      have HNF := kp hn_; have HRF := kp hrn_
      clear hn_ hrn_ HAF2
      repeat ((first | refine plc (fun K hK => ?_) | refine pl_skip rfl (by first | (go_simp; done) | rfl) (fun K hK => ?_) | refine pl_skipa rfl (by first | (go_simp; done) | rfl) (fun K hK => ?_)); go_simp; refine hK _ _ ?_; clear hK K)
      refine pl_done ?_
      go_wp2_with fail
      go_roundw
      case rel => exact ⟨k + 1, by omega, by go_num, kp ⟨_, _, _, _, _, _, HX.out, HI.out, HK.out, HM2.out, HR2.out, HNF.out, HRF.out, HTO.out, HST.out⟩⟩
      case measure => simp [intOf]; omega
     ·obtain rfl : k = ks.length := by omega
      have HE2 := kp (show RF = (Z, V) by rw [← HF.out, List.drop_length]; rfl)
      go_wp2_with fail
      go_ret2
      exact ⟨by rw [HE.out]; rfl, ⟨M, s, HM.out, by rw [HE.out, HE2.out]; exact HR.out⟩, ⟨N, s2, HN.out, by rw [HE.out, HE2.out]; exact HRV.out⟩, HTO.out⟩
theorem backsR_step {H : LocksL} {k : Nat} {e : PtK × LockV} {X : CoinsL} (hk : H[k]? = some e) : backsR (H.drop k) X = if (rputC X e.1 e.2.1).2 ≠ 0 then (X, (rputC X e.1 e.2.1).2) else backsR (H.drop (k + 1)) (rputC X e.1 e.2.1).1 := by
 obtain ⟨hl, he⟩ := List.getElem?_eq_some_iff.1 hk
 rw [List.drop_eq_getElem_cons hl, he]; rfl
theorem PtsAt.touchdC {w w' : World} {g b lo : Nat} {A : Option Addr} {l : List PtK} {L : CoinsL} {s : Int} (h : PtsAt w lo A l) (hc : CoinsAt w g b L s) (ht : Touched [g, b] w w') : PtsAt w' lo A l := by
 refine ⟨⟨⟨h.1.1.1, fun hn => ?_⟩, h.1.2⟩, h.2⟩
 obtain ⟨q, off, hA, hq, hcell⟩ := h.1.1.2 hn
 have hl : 33 ≤ (l.flatMap ptV).length := by rw [h.1.1.1]; omega
 refine ⟨q, off, hA, Nat.lt_of_lt_of_le hq ht.size, fun j u hu => (World.cell?_of_block (w := w) (ht.block q hq ?_)).trans (hcell j u hu)⟩
 obtain ⟨u2, hu2⟩ : ∃ u, (l.flatMap ptV)[2]? = some u := ⟨_, List.getElem?_eq_getElem (by omega)⟩
 have h2 := hcell 2 u2 hu2
 simp only [List.mem_cons, List.not_mem_nil, or_false, not_or]
 constructor
 ·rintro rfl
  rw [hc.blk.cell (off + 2)] at h2
  have h3 : ([Value.map (some b), Value.int .u64 s])[off + 2]? = none := List.getElem?_eq_none (by simp)
  rw [h3] at h2; cases h2
 ·rintro rfl
  obtain ⟨es, clock, h3, _⟩ := hc.map
  obtain ⟨o, h5, h6⟩ := cells_of_cell h2
  rw [h3] at h5; cases h5; cases h6
theorem sback_any {id : List UInt8} (hi : id.length = 32) {X L : CoinsL} {Y K : LocksL} {s s2 : Int} {g b g2 b2 : Nat} (w : World) (hc : CoinsAt w g b L s) (hrc : RelC X L s) (hk : LocksAt w g2 b2 K s2) (hrk : RelK Y K s2) (hne : g2 ∉ [g, b] ∧ b2 ∉ [g, b] ∧ g ∉ [g2, b2] ∧ b ∉ [g2, b2]) :
  Calls Tryz.prog 18 #[.agg (id.map B).toArray, .pointer (some ⟨g, 0, none⟩), .pointer (some ⟨g2, 0, none⟩)] w fun e w' => e = .returned (.tuple #[.int .u64 (backR X Y id).2.1, .int .i64 (backR X Y id).2.2]) ∧ (∃ b' L' s', CoinsAt w' g b' L' s' ∧ RelC (backR X Y id).1.1 L' s' ∧ (b' = b ∨ w.heap.size ≤ b')) ∧ (∃ K' s', LocksAt w' g2 b2 K' s' ∧ RelK (backR X Y id).1.2 K' s') ∧ Touched [g, g2, b2] w w' := by
 have HIC := kp (aidV_cl hi)
 have HOF := kp (fun w' (k : Grow w w') => kof_pts hrk hi w' (hk.call k))
 have HCP := kp (fun w' (k : Grow w w') => ccopy_any g b L s w' (hc.call k))
 have HFR := kp (fun w' K' s' (h' : LocksAt w' g2 b2 K' s') (hr' : RelK Y K' s') => free_any hi w' h' hr')
 have HCN := kp hc; have HRC := kp hrc; have HKN := kp hk; have HRK := kp hrk; have HNE := kp hne
 have HGL := kp (show g < w.heap.size ∧ b < w.heap.size ∧ g2 < w.heap.size ∧ b2 < w.heap.size from ⟨hc.ltg, hc.ltb, hk.ltg, hk.ltb⟩)
 have hd : (Y.map (·.1)).Nodup := (hrk.perm.map (·.1)).nodup_iff.2 hrk.ok.2
 have HLK := kp (fun k e (he : (heldK Y id)[k]? = some e) => show lookL Y e.1 = some e.2 ∧ AtOKK e from ⟨lookL_mem ((List.mem_filter.1 (List.mem_of_getElem? he)).1) hd, hrk.okX e (List.mem_filter.1 (List.mem_of_getElem? he)).1⟩)
 have HPS := kp (show ofK Y id = (heldK Y id).map (·.1) from rfl)
 have hps64 : (heldK Y id).length ≤ 64 := by
  have h1 : (heldK Y id).length ≤ Y.length := List.length_filter_le _ _
  have := hrk.len; have := hrk.lenX; omega
 have HKG := kp (fun w' (k : Grow w w') p (hp : PtOK p) => show Calls Tryz.prog 44 #[.pointer (some ⟨g2, 0, none⟩), ptA p] w' fun e w'' => e = .returned (.tuple #[.agg (((lookL Y p).getD noLock).2.map B).toArray, coinA ((lookL Y p).getD noLock).1, .bool (lookL Y p).isSome]) ∧ Grow w' w'' by
  rw [hrk.look]; exact kget_any g2 b2 K s2 p w' (hk.call k) hp)
 obtain ⟨BR, hBR⟩ : ∃ q, q = backR X Y id := ⟨_, rfl⟩
 have HBR := kp (show BR = if heldK Y id = [] then ((X, Y), 0, 13) else if (backsR (heldK Y id) X).2 ≠ 0 then ((X, Y), 0, (backsR (heldK Y id) X).2) else (((backsR (heldK Y id) X).1, restK Y id), freeR Y id, 0) from hBR)
 rw [← hBR]
 obtain ⟨H, hH⟩ : ∃ q, q = heldK Y id := ⟨_, rfl⟩
 rw [← hH] at HLK HPS hps64 HBR
 rw [HPS.out] at HOF
 obtain ⟨ps, hps⟩ : ∃ q, q = H.map (·.1) := ⟨_, rfl⟩
 have HPSL := kp (show ps.length = H.length by rw [hps, List.length_map])
 have HPSG := kp (fun k (e : PtK × LockV) (he : H[k]? = some e) => show ps[k]? = some e.1 by rw [hps, List.getElem?_map, he]; rfl)
 rw [← hps] at HOF
 obtain ⟨fr, hfr⟩ : ∃ q, q = freeR Y id := ⟨_, rfl⟩
 rw [← hfr] at HFR HBR
 obtain ⟨xs, hxs⟩ : ∃ x, x = id.map B := ⟨_, rfl⟩
 rw [← hxs] at HIC HOF HFR ⊢
 obtain ⟨w_, hw⟩ : ∃ x, x = w := ⟨_, rfl⟩
 have HB := kp (show Below w.heap.size w w_ by rw [hw]; exact Below.refl _ _)
 suffices HX : Calls Tryz.prog 18 #[.agg xs.toArray, .pointer (some ⟨g, 0, none⟩), .pointer (some ⟨g2, 0, none⟩)] w_ (fun e w' => e = .returned (.tuple #[.int .u64 BR.2.1, .int .i64 BR.2.2]) ∧ (∃ b' L' s', CoinsAt w' g b' L' s' ∧ RelC BR.1.1 L' s' ∧ (b' = b ∨ w.heap.size ≤ b')) ∧ (∃ K' s', LocksAt w' g2 b2 K' s' ∧ RelK BR.1.2 K' s') ∧ Touched [g, g2, b2] w w') by rw [hw] at HX; exact HX
 clear hw hc hrc hk hrk hne hBR hH hps hfr hxs hi hd HPS
 have HNO := kp (fun w' (k : Grow w w') (er : Int) (hm : BR = ((X, Y), 0, er)) => show (∃ b' L' s', CoinsAt w' g b' L' s' ∧ RelC BR.1.1 L' s' ∧ (b' = b ∨ w.heap.size ≤ b')) ∧ (∃ K' s', LocksAt w' g2 b2 K' s' ∧ RelK BR.1.2 K' s') ∧ Touched [g, g2, b2] w w' from ⟨⟨b, L, s, HCN.out.call k, by rw [hm]; exact HRC.out, .inl rfl⟩, ⟨K, s2, HKN.out.call k, by rw [hm]; exact HRK.out⟩, Touched.of_below k⟩)
 go_enter Tryz.func18, Tryz.ntmps18
 go_wp2_with (first | (with_reducible refine wpl_box (o := ⟨some 3, _, _, _, _, _⟩) rfl rfl rfl ?_))
 intro w2_ hb2_ hb_ hsz2_
 have HX_ := kp (at_mk hb2_ HIC.out.len)
 clear hb2_ hsz2_
 have HG_ := kp HB.out.size
 replace HB := kp (HB.out.grow' hb_)
 generalize hg_ : w_.heap.size = g5 at HX_ HG_ ⊢
 clear hg_
 have HX_g := HG_
 clear HG_
 have HX := HX_
 clear hb_ HX_
 try clear w_
 rename World => w_
 go_wp2_with (with_reducible refine wlb 23 row_id HX.out.blk HX.out.len ?_)
 refine (HOF.out _ HB.out).mono ?_
 rintro e w2_ ⟨A3, c3, rfl, hp_, hb_⟩
 have HP := kp (hp_.less HB.out.size)
 replace HX := kp (HX.out.grow hb_); replace HB := kp (HB.out.grow' hb_)
 clear hp_ hb_ HOF
 try clear w_
 rename World => w_
 by_cases hz : H = []
 case pos =>
  have HE := kp (show BR = ((X, Y), 0, 13) by rw [HBR.out, if_pos hz])
  have z1 : ((ps.length : Int) == 0) = true := by rw [HPSL.out, hz]; rfl
  go_wp2_with fail
  go_ret2
  exact ⟨by rw [HE.out]; rfl, HNO.out _ HB.out _ HE.out⟩
 case neg =>
  have HBR1 := kp (show BR = if (backsR (H.drop 0) X).2 ≠ 0 then ((X, Y), 0, (backsR (H.drop 0) X).2) else (((backsR (H.drop 0) X).1, restK Y id), fr, 0) by rw [HBR.out, if_neg hz, List.drop_zero])
  have z1 : ((ps.length : Int) == 0) = false := by
   have : H.length ≠ 0 := fun h => hz (List.length_eq_zero_iff.1 h)
   have h2 := HPSL.out
   rw [beq_eq_false_iff_ne]; omega
  clear HBR hz
  go_wp2_with fail
  refine (HCP.out _ HB.out).mono ?_
  rintro e w2_ ⟨g3, b3, rfl, hc_, hg3_, hb3_, hb_⟩
  have HG3 := kp (show w.heap.size ≤ g3 ∧ w.heap.size ≤ b3 by have := HB.out.size; omega)
  obtain ⟨R, hR⟩ : ∃ q, q = backsR (H.drop 0) X := ⟨_, rfl⟩
  rw [← hR] at HBR1
  have HI0 := kp (show At w2_ g5 46 32 xs ∧ PtsAt w2_ w.heap.size A3 ps ∧ CoinsAt w2_ g3 b3 L s ∧ RelC X L s ∧ Below w.heap.size w w2_ ∧ backsR (H.drop 0) X = R from ⟨HX.out.grow hb_, HP.out.grow hb_, hc_, HRC.out, HB.out.grow' hb_, hR.symm⟩)
  clear hc_ hg3_ hb3_ hb_ hR HX HP HB HCP
  try clear w_
  rename World => w_
  have hpsl := HPSL.out
  go_wp2_with fail
  go_loopw [32] (fun iv wr => ∃ (k : Nat), k ≤ ps.length ∧ iv = .int .i64 k ∧ Hid (∃ Z M s', At wr g5 46 32 xs ∧ PtsAt wr w.heap.size A3 ps ∧ CoinsAt wr g3 b3 M s' ∧ RelC Z M s' ∧ Below w.heap.size w wr ∧ backsR (H.drop k) Z = R)) (fun iv _ => ps.length - (intOf iv).toNat)
  case atStart => exact ⟨0, Nat.zero_le _, rfl, kp ⟨X, L, s, HI0.out⟩⟩
  case round =>
   obtain ⟨k, hk, rfl, hI⟩ := hrel
   clear HI0
   obtain ⟨Z, M, s', hx_, hp_, hc_, hr_, hb_, hs_⟩ := hI.out
   have HX := kp hx_; have HP := kp hp_; have HC := kp hc_; have HR := kp hr_; have HB := kp hb_; have HS := kp hs_
   clear hI hx_ hp_ hc_ hr_ hb_ hs_
   rename World => w_
   by_cases hlt : k < ps.length
   ·obtain ⟨e, he⟩ : ∃ e, H[k]? = some e := ⟨_, List.getElem?_eq_getElem (by omega)⟩
    obtain ⟨b5, o5, p, rfl, hb5, hp, hpo, hcc⟩ := HP.out.1.at_ hlt
    have hpe : p = e.1 := by have h1 := HPSG.out k e he; rw [hp] at h1; exact Option.some.inj h1
    obtain ⟨hlk, hok⟩ := HLK.out k e he
    have HST := kp (show R = if (rputC Z p e.2.1).2 ≠ 0 then (Z, (rputC Z p e.2.1).2) else backsR (H.drop (k + 1)) (rputC Z p e.2.1).1 by rw [← HS.out, hpe]; exact backsR_step he)
    have HPC := kp (ptV_cl hpo)
    have HCC := kp hcc
    have HKQ := kp (HKG.out w_ HB.out p hpo)
    have HKQ' := HKQ
    have HPU := kp (fun w' (h' : CoinsAt w' g3 b3 M s') => put_any g3 b3 M s' p e.2.1 w' h' hpo hok.2.1 HR.out.nn HR.out.max)
    rw [HR.out.code _ _ hok.2.1] at HST
    have HRP := kp (fun h0 => HR.out.put hpo hok.2.1 h0)
    have HGQ := kp (fun w' (kk : Grow w w') => show Calls Tryz.prog 44 #[.pointer (some ⟨g2, 0, none⟩), .agg (ptV p).toArray] w' fun e' w'' => e' = .returned (.tuple #[.agg (e.2.2.map B).toArray, .agg (coinV e.2.1).toArray, .bool true]) ∧ Grow w' w'' by
     have h1 := HKG.out w' kk p hpo
     rw [hpe, hlk] at h1
     rw [hpe]; exact h1)
    have HVC := kp (coinV_cl hok.2.1); have HVI := kp (aidV_cl hok.2.2)
    unfold ptA coinA at HPU
    obtain ⟨es, hes⟩ : ∃ c, c = ptV p := ⟨_, rfl⟩
    rw [← hes] at HPC HCC HPU HGQ
    obtain ⟨co, hco⟩ : ∃ c, c = e.2.1 := ⟨_, rfl⟩
    rw [← hco] at HST HPU HRP HVC HGQ
    obtain ⟨vs, hvs⟩ : ∃ c, c = coinV co := ⟨_, rfl⟩
    rw [← hvs] at HPU HVC HGQ
    obtain ⟨is, his⟩ : ∃ c, c = e.2.2.map B := ⟨_, rfl⟩
    rw [← his] at HVI HGQ
    obtain ⟨er, her⟩ : ∃ q, q = putR M s' p co := ⟨_, rfl⟩
    rw [← her] at HST HPU HRP
    clear he hb5 hp hpo hcc hpe hlk hok HS HR hes hco hvs his her HKQ HKQ'
    go_wp2_with (first | (with_reducible refine wlm 35 row_point HCC.out HPC.out.len ?_) | (with_reducible refine wpl_alloc (o := ⟨some 11, _, _, _, _, _⟩) rfl rfl zero_point ?_))
    intro w1_ hb1_ hbw1_ hsz1_
    have HB1_ := kp (at_mk hb1_ len_point)
    have HBW1_ := kp hbw1_
    have HZ1_ := kp hsz1_
    clear hb1_ hbw1_ hsz1_
    go_wp2_with (with_reducible refine wsb row_point HB1_.out.blk HB1_.out.len HPC.out.len HPC.out.one ?_)
    intro w2_ hb2_ hg2_ hsz2_
    have HG_ := kp HB.out.size
    have hb_ := var_grow HBW1_.out HZ1_.out hg2_
    have HX_ := kp (at_mk hb2_ HPC.out.len)
    clear hb2_ hg2_ hsz2_ HB1_ HBW1_ HZ1_
    replace HB := kp (HB.out.grow' hb_)
    replace HX := kp (HX.out.grow hb_)
    replace HP := kp (HP.out.grow hb_)
    replace HC := kp (HC.out.grow hb_)
    generalize hg_ : w_.heap.size = gV at HX_ HG_ ⊢
    clear hg_
    have HV := HX_
    clear hb_ HX_
    clear w1_
    try clear w_
    rename World => w_
    have HV_g := HG_
    clear HG_
    clear HCC
    go_wp2_with (with_reducible refine wlb 38 row_point HV.out.blk HV.out.len ?_)
    refine (HGQ.out w_ HB.out).mono ?_
    rintro e w_ ⟨rfl, hb_⟩
    replace HB := kp (HB.out.grow' hb_)
    replace HX := kp (HX.out.grow hb_)
    replace HP := kp (HP.out.grow hb_)
    replace HC := kp (HC.out.grow hb_)
    replace HV := kp (HV.out.grow hb_)
    clear hb_
    obtain ⟨wq, hwq⟩ : ∃ q, q = w_ := ⟨_, rfl⟩
    rw [← hwq] at HB HX HP HC HV
    have HB1 := HB
    clear HB
    have HB := kp (show Below wq.heap.size wq w_ by rw [hwq]; exact Below.refl _ _)
    clear hwq
    go_wp2_with (first | (with_reducible refine wpl_alloc (o := ⟨some 12, _, _, _, _, _⟩) rfl rfl zero_id ?_))
    intro w2_ hb2_ hb_ hsz2_
    have HX_ := kp (at_mk hb2_ len_id)
    clear hb2_ hsz2_
    have HG_ := kp HB.out.size
    replace HB := kp (HB.out.grow' hb_)
    generalize hg_ : w_.heap.size = g7 at HX_ HG_ ⊢
    clear hg_
    have H7_g := HG_
    clear HG_
    have H7 := HX_
    clear hb_ HX_
    try clear w_
    rename World => w_
    go_wp2_with (first | (with_reducible refine wpl_alloc (o := ⟨some 13, _, _, _, _, _⟩) rfl rfl zero_coin ?_))
    intro w2_ hb2_ hb_ hsz2_
    have HX_ := kp (at_mk hb2_ len_coin)
    clear hb2_ hsz2_
    have HG_ := kp HB.out.size
    have H8_H7 := kp (Nat.ne_of_lt H7.out.lt)
    replace HB := kp (HB.out.grow' hb_)
    replace H7 := kp (H7.out.grow hb_)
    generalize hg_ : w_.heap.size = g8 at HX_ HG_ H8_H7 ⊢
    clear hg_
    have H8_g := HG_
    clear HG_
    have H8 := HX_
    clear hb_ HX_
    try clear w_
    rename World => w_
    have HN7 := kp (H8_H7.out.symm)
    go_wp2_with (with_reducible refine wsb row_id H7.out.blk H7.out.len HVI.out.len HVI.out.one ?_)
    intro w2_ hb2_ hg2_ hsz2_
    replace HB := kp (put_below HB.out H7_g.out hg2_)
    replace H7 := kp (at_mk hb2_ HVI.out.len)
    replace H8 := kp (At.off H8.out hg2_ HN7.out)
    clear hb2_ hg2_ hsz2_
    try clear w_
    rename World => w_
    go_wp2_with (with_reducible refine wsb row_coin H8.out.blk H8.out.len HVC.out.len HVC.out.one ?_)
    intro w2_ hb2_ hg2_ hsz2_
    replace HB := kp (put_below HB.out H8_g.out hg2_)
    replace H8 := kp (at_mk hb2_ HVC.out.len)
    replace H7 := kp (At.off H7.out hg2_ H8_H7.out)
    clear hb2_ hg2_ hsz2_
    try clear w_
    rename World => w_
    replace HX := kp (HX.out.grow HB.out); replace HP := kp (HP.out.grow HB.out); replace HC := kp (HC.out.grow HB.out); replace HV := kp (HV.out.grow HB.out); replace HB := kp (HB1.out.grow' HB.out)
    clear HB1 H7 H7_g H8_g
    try clear wq
    go_wp2_with (first | (with_reducible refine wlb 44 row_point HV.out.blk HV.out.len ?_) | (with_reducible refine wlb 45 row_coin H8.out.blk H8.out.len ?_))
    refine Calls.mono (show Calls Tryz.prog 32 _ w_ _ from HPU.out w_ HC.out) ?_
    rintro e w2_ ⟨rfl, ht_, h1_, h2_⟩
    have HH1 := kp h1_
    have HNX := kp (HX.out.ne_coins HC.out (by decide))
    have HPT := kp (HP.out.touchdC HC.out ht_)
    replace HX := kp (HX.out.touchd ht_ HNX.out)
    replace HB := kp (below_touch HB.out ht_ (fun x hx => by have := HG3.out; simp only [List.mem_cons, List.not_mem_nil, or_false] at hx; rcases hx with rfl | rfl; exact this.1; exact this.2))
    clear ht_ h1_ h2_ HNX HPU HC HP HV H8 HGQ
    try clear w_
    rename World => w_
    by_cases h0 : er = 0
    ·have HST2 := kp (show backsR (H.drop (k + 1)) (rputC Z p co).1 = R by rw [HST.out, if_neg (fun h => h h0)])
     have HC2 := kp (HH1.out h0); have HR2 := kp (HRP.out h0)
     subst h0
     have z3 : ((0 : Int) != 0) = false := by decide
     clear HST HH1 HRP
     go_wp2_with fail
     go_roundw
     case rel => exact ⟨k + 1, by omega, by go_num, kp ⟨_, _, _, HX.out, HPT.out, HC2.out, HR2.out, HB.out, HST2.out⟩⟩
     case measure => simp [intOf]; omega
    ·have z3 : (er != 0) = true := by simpa using h0
     have HE := kp (show BR = ((X, Y), 0, er) by rw [HBR1.out, HST.out, if_pos h0, if_pos h0])
     go_wp2_with fail
     go_ret2
     exact ⟨by rw [HE.out]; rfl, HNO.out _ HB.out _ HE.out⟩
   ·obtain rfl : k = ps.length := by omega
    have HRE := kp (show R = (Z, 0) by rw [← HS.out, List.drop_of_length_le (by omega)]; rfl)
    have HE := kp (show BR = ((Z, restK Y id), fr, 0) by rw [HBR1.out, HRE.out]; rfl)
    have HCL := kp (coins_cl b3 s')
    have HCG := kp (show Blk w_ g 90 [.map (some b), .int .u64 s] from (HCN.out.call HB.out).blk)
    have HNG := kp (show g ≠ b3 by have := HGL.out; have := HG3.out; omega)
    have HKW := kp (HKN.out.call HB.out)
    go_wp2_with (first | (with_reducible refine wlb 54 row_coins8 HC.out.blk rfl ?_) | (with_reducible refine wsb row_coins8 HCG.out rfl HCL.out.len HCL.out.one ?_))
    intro w2_ hb2_ hg2_ hsz2_
    have HCF := kp (HC.out.moved hb2_ hg2_ HNG.out)
    have HNX := kp (show g5 ≠ g by have h1 := HGL.out; have h2 := HX_g.out; omega)
    have HXF := kp (At.off HX.out hg2_ HNX.out)
    have HKF := kp (HKW.out.grown hg2_ (fun e => by have := HNE.out.2.2.1; simp only [Option.some.injEq] at e; simp [e] at this) (fun e => by have := HNE.out.2.2.1; simp only [Option.some.injEq] at e; simp [e] at this))
    have HTF := kp (show Touched [g] w w2_ from (Touched.of_below HB.out).grown hg2_ (.inl (by simp)))
    clear hb2_ hg2_ hsz2_ HX HC HKW HCG HB
    try clear w_
    rename World => w_
    go_wp2_with (with_reducible refine wlb 56 row_id HXF.out.blk HXF.out.len ?_)
    refine (HFR.out w_ _ _ HKF.out HRK.out).mono ?_
    rintro e w2_ ⟨rfl, ⟨K', s'', hk_, hr_⟩, ht_⟩
    have HKE := kp hk_; have HRE2 := kp hr_
    have HCE := kp (HCF.out.touchd ht_ HNE.out.2.2.1 (by have h1 := HGL.out; have h2 := HG3.out; simp; omega))
    have HTE := kp (show Touched [g, g2, b2] w w2_ from (HTF.out.wide (fun x hx => by simp only [List.mem_singleton] at hx; rw [hx]; simp)).trans (ht_.wide (fun x hx => by simp only [List.mem_cons, List.not_mem_nil, or_false] at hx ⊢; rcases hx with rfl | rfl <;> simp)))
    clear hk_ hr_ ht_
    go_wp2_with fail
    go_ret2
    exact ⟨by rw [HE.out]; rfl, ⟨b3, M, s', HCE.out, by rw [HE.out]; exact HR.out, .inr HG3.out.2⟩, ⟨K', s'', HKE.out, by rw [HE.out]; exact HRE2.out⟩, HTE.out⟩
open Go.RowKit Go.ChangeShapes Go.WideShapes
theorem gotA {α : Type} {o : Option α} {xs : List α} {i : Nat} (h : o = xs[i]?) (hi : i < xs.length) : ∃ y, o = some y := ⟨_, h.trans (List.getElem?_eq_getElem hi)⟩
theorem cutA {xs : List Value} {o n : Nat} {l rest : List Value} (h : (xs.drop o).take n = l) (hr : xs.drop (o + n) = rest) : xs.drop o = l ++ rest := by
 rw [← List.take_append_drop n (xs.drop o), h, List.drop_drop, hr]
theorem fm_atA {α : Type} (f : α → List Value) (sz : Nat) : ∀ (l : List α) (k j : Nat) (x : α) (u : Value), (∀ y ∈ l, (f y).length = sz) → l[k]? = some x → (f x)[j]? = some u → (l.flatMap f)[k * sz + j]? = some u
 | [], k, j, x, u, _, hk, _ => by simp at hk
 | y :: l, 0, j, x, u, hl, hk, hu => by
  simp at hk; subst hk
  rw [List.flatMap_cons, Nat.zero_mul, Nat.zero_add, List.getElem?_append_left (List.getElem?_eq_some_iff.1 hu).1]; exact hu
 | y :: l, k + 1, j, x, u, hl, hk, hu => by
  have h1 := hl y (List.mem_cons_self ..)
  rw [List.flatMap_cons, List.getElem?_append_right (by rw [h1, Nat.add_mul]; omega), h1, show (k + 1) * sz + j - sz = k * sz + j by rw [Nat.add_mul]; omega]
  exact fm_atA f sz l k j x u (fun z hz => hl z (List.mem_cons_of_mem _ hz)) (by simpa using hk) hu
section
variable {H : Type} {enc : TypeId × Value → H} {w : World} {r : Reach} {b0 base : Nat} {spare : Nat → Bool} {held : Bool}
theorem trod_ptk {fuel : Nat} {cs : List Value} {y : DataW H × List MemPlace} (hl0 : cs.length = 33) (hf : DataW.trod enc Tryz.prog w base spare held fuel 69 cs = some y) : ∃ p : PtK, cs = ptV p ∧ PtOK p := by
 obtain ⟨xs, n, _, _, hl, hxs, hg⟩ := DataW.trod_struct Tryz.underlying69 hf
 replace hg := fun i f h => hg i f h
 have hxs5 : xs.length = 2 := hxs
 obtain ⟨y0, h0⟩ := gotA (hg 0 _ rfl) (by omega)
 obtain ⟨y1, h1⟩ := gotA (hg 1 _ rfl) (by omega)
 replace h0 : DataW.trod enc Tryz.prog w base spare held n 46 ((cs.drop 0).take (Tryz.prog.cellsOf 46)) = some y0 := h0
 replace h1 : DataW.trod enc Tryz.prog w base spare held n 3 ((cs.drop 32).take (Tryz.prog.cellsOf 3)) = some y1 := h1
 rw [cells_id] at h0
 rw [cells_int] at h1
 obtain ⟨d0, e0, l0⟩ := trod_bytes Tryz.underlying46 Tryz.underlying5 cells_u8 cells_id h0
 obtain ⟨z1, e1, _, w1⟩ := DataW.trod_int Tryz.underlying3 h1
 refine ⟨(d0, z1), ?_, l0, w1⟩
 have a2 : cs.drop 33 = [] := List.drop_of_length_le (by omega)
 have a1 := cutA e1 a2
 have a0 := cutA e0 a1
 rw [List.drop_zero] at a0
 rw [a0]; simp [ptV]
theorem trod_coinv {fuel : Nat} {cs : List Value} {y : DataW H × List MemPlace} (hl0 : cs.length = 33) (hf : DataW.trod enc Tryz.prog w base spare held fuel 77 cs = some y) : ∃ c : CoinV, cs = coinV c ∧ CoinOK c := by
 obtain ⟨xs, n, _, _, hl, hxs, hg⟩ := DataW.trod_struct Tryz.underlying77 hf
 replace hg := fun i f h => hg i f h
 have hxs5 : xs.length = 2 := hxs
 obtain ⟨y0, h0⟩ := gotA (hg 0 _ rfl) (by omega)
 obtain ⟨y1, h1⟩ := gotA (hg 1 _ rfl) (by omega)
 replace h0 : DataW.trod enc Tryz.prog w base spare held n 46 ((cs.drop 0).take (Tryz.prog.cellsOf 46)) = some y0 := h0
 replace h1 : DataW.trod enc Tryz.prog w base spare held n 25 ((cs.drop 32).take (Tryz.prog.cellsOf 25)) = some y1 := h1
 rw [cells_id] at h0
 rw [cells_u64] at h1
 obtain ⟨d0, e0, l0⟩ := trod_bytes Tryz.underlying46 Tryz.underlying5 cells_u8 cells_id h0
 obtain ⟨z1, e1, _, w1⟩ := DataW.trod_int Tryz.underlying25 h1
 refine ⟨(d0, z1), ?_, l0, by simpa [Lit.wf, IntKind.min, IntKind.max, IntKind.signed, IntKind.bits] using w1⟩
 have a2 : cs.drop 33 = [] := List.drop_of_length_le (by omega)
 have a1 := cutA e1 a2
 have a0 := cutA e0 a1
 rw [List.drop_zero] at a0
 rw [a0]; simp [coinV]
end
end Go.Proofs.YtnnjjbkdjkjnpaaGreatDoor
namespace Go.Proofs.YtnnjjbkdjkjnpaaGreatDoor
open Go.RowKit Go.ChangeShapes Go.WideShapes
abbrev HeldV := PtK × List UInt8 × CoinV
def heldV (a : HeldV) : List Value := ptV a.1 ++ (a.2.1.map B ++ coinV a.2.2)
def HeldOK (a : HeldV) : Prop := PtOK a.1 ∧ a.2.1.length = 32 ∧ CoinOK a.2.2
theorem heldV_len {a : HeldV} (h : HeldOK a) : (heldV a).length = 98 := by unfold heldV; rw [List.length_append, List.length_append, ptV_length h.1.1, List.length_map, h.2.1, coinV_length h.2.2]
theorem cells_held : Tryz.prog.cellsOf 85 = 98 := by kernel_rfl
theorem cells_coinh : Tryz.prog.cellsOf 77 = 33 := by kernel_rfl
def HeldsAt (w : World) (A : Option Addr) (n : Nat) (l : List HeldV) : Prop := l.length = n ∧ Sl w w.heap.size 98 A n (l.flatMap heldV) ∧ ∀ a ∈ l, HeldOK a
theorem HeldsAt.grow {w w' : World} {A : Option Addr} {n : Nat} {l : List HeldV} (h : HeldsAt w A n l) (k : Below w.heap.size w w') : HeldsAt w' A n l := ⟨h.1, (h.2.1.below k).more k.size, h.2.2⟩
theorem HeldsAt.nil (w : World) : HeldsAt w none 0 [] := ⟨rfl, Sl.nil, by simp⟩
theorem HeldsAt.at_ {w : World} {A : Option Addr} {n : Nat} {l : List HeldV} (h : HeldsAt w A n l) {k : Nat} (hk : k < n) : ∃ b off a, A = some ⟨b, off, none⟩ ∧ b < w.heap.size ∧ l[k]? = some a ∧ (∀ j u, (heldV a)[j]? = some u → w.cell? ⟨b, off + k * 98 + j, none⟩ = some u) ∧ HeldOK a := by
 obtain ⟨b, off, e, hb, hc⟩ := h.2.1.2 (by omega)
 have hl : k < l.length := by have := h.1; omega
 refine ⟨b, off, l[k], e, hb, List.getElem?_eq_getElem hl, fun j u hu => ?_, h.2.2 _ (List.getElem_mem hl)⟩
 rw [Nat.add_assoc]
 exact hc _ u (fm_atA heldV 98 l k j _ u (fun y hy => heldV_len (h.2.2 y hy)) (List.getElem?_eq_getElem hl) hu)
theorem heldV_pt {a : HeldV} {j : Nat} {u : Value} (hu : (ptV a.1)[j]? = some u) : (heldV a)[j]? = some u := by
 unfold heldV; rw [List.getElem?_append_left (List.getElem?_eq_some_iff.1 hu).1]; exact hu
theorem heldV_id {a : HeldV} (h : HeldOK a) {j : Nat} {u : Value} (hu : (a.2.1.map B)[j]? = some u) : (heldV a)[33 + j]? = some u := by
 have hl := ptV_length h.1.1
 unfold heldV; rw [List.getElem?_append_right (by omega), hl, show 33 + j - 33 = j by omega, List.getElem?_append_left (List.getElem?_eq_some_iff.1 hu).1]; exact hu
theorem heldV_coin {a : HeldV} (h : HeldOK a) {j : Nat} {u : Value} (hu : (coinV a.2.2)[j]? = some u) : (heldV a)[65 + j]? = some u := by
 have hl := ptV_length h.1.1
 have h3 : (a.2.1.map B).length = 32 := by rw [List.length_map, h.2.1]
 unfold heldV; rw [List.getElem?_append_right (by omega), hl, List.getElem?_append_right (by omega), h3, show 65 + j - 33 - 32 = j by omega]; exact hu
section
variable {H : Type} {enc : TypeId × Value → H} {w : World} {r : Reach} {b0 base : Nat} {spare : Nat → Bool} {held : Bool}
theorem trod_held {fuel : Nat} {cs : List Value} {y : DataW H × List MemPlace} (hl0 : cs.length = 98) (hf : DataW.trod enc Tryz.prog w base spare held fuel 85 cs = some y) : ∃ a : HeldV, cs = heldV a ∧ HeldOK a := by
 obtain ⟨xs, n, _, _, hl, hxs, hg⟩ := DataW.trod_struct Tryz.underlying85 hf
 replace hg := fun i f h => hg i f h
 have hxs5 : xs.length = 3 := hxs
 obtain ⟨y1, h1⟩ := gotA (hg 0 _ rfl) (by omega)
 obtain ⟨y2, h2⟩ := gotA (hg 1 _ rfl) (by omega)
 obtain ⟨y3, h3⟩ := gotA (hg 2 _ rfl) (by omega)
 replace h1 : DataW.trod enc Tryz.prog w base spare held n 69 ((cs.drop 0).take (Tryz.prog.cellsOf 69)) = some y1 := h1
 replace h2 : DataW.trod enc Tryz.prog w base spare held n 46 ((cs.drop 33).take (Tryz.prog.cellsOf 46)) = some y2 := h2
 replace h3 : DataW.trod enc Tryz.prog w base spare held n 77 ((cs.drop 65).take (Tryz.prog.cellsOf 77)) = some y3 := h3
 rw [cells_point] at h1
 rw [cells_id] at h2
 rw [cells_coinh] at h3
 obtain ⟨p, e1, hp⟩ := trod_ptk (by rw [List.length_take, List.length_drop, hl0]; rfl) h1
 obtain ⟨d2, e2, l2⟩ := trod_bytes Tryz.underlying46 Tryz.underlying5 cells_u8 cells_id h2
 obtain ⟨c, e3, hc⟩ := trod_coinv (by rw [List.length_take, List.length_drop, hl0]; rfl) h3
 refine ⟨(p, d2, c), ?_, hp, l2, hc⟩
 have a4 : cs.drop 98 = [] := List.drop_of_length_le (by omega)
 have a3 := cutA e3 a4
 have a2 := cutA e2 a3
 have a1 := cutA e1 a2
 rw [List.drop_zero] at a1
 rw [a1]; simp [heldV]
theorem open_held {v : Value} {d : DataW H} {ps : List MemPlace} (hval : Value.okWide Tryz.prog w r b0 22 v) (h : DataW.Trod enc Tryz.prog w base spare held 22 v d ps) :
  ∃ A n c, ∃ l : List HeldV, v = .slice A n c ∧ HeldsAt w A n l ∧ n ≤ 9223372036854775807 := by
 obtain ⟨A, n, c, l, h1, h2, h3, h4, h5, h6, _⟩ := open_list heldV HeldOK Tryz.underlying22 cells_held (show 0 < 98 by omega) (fun fuel cs y hl h => trod_held hl h) hval h
 exact ⟨A, n, c, l, h1, ⟨h2, h5, h6⟩, by unfold maxLen at h4; omega⟩
end
end Go.Proofs.YtnnjjbkdjkjnpaaGreatDoor

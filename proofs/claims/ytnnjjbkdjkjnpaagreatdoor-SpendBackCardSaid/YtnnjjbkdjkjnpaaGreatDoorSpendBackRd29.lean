/- The contracts of spend.Free and spend.Pay. -/
import Derived.Test.YtnnjjbkdjkjnpaaGreatDoorSpendBackRd28
set_option linter.unusedSimpArgs false
set_option linter.unusedVariables false
set_option maxRecDepth 100000
set_option maxHeartbeats 16000000
namespace Go.Proofs.YtnnjjbkdjkjnpaaGreatDoor
open Go.RowKit Go.Shelf
theorem free_any {id : List UInt8} (hi : id.length = 32) {Y K : LocksL} {s2 : Int} {g2 b2 : Nat} (w : World) (hk : LocksAt w g2 b2 K s2) (hrk : RelK Y K s2) :
  Calls Tryz.prog 20 #[.agg (id.map B).toArray, .pointer (some ⟨g2, 0, none⟩)] w fun e w' => e = .returned (.int .u64 (freeR Y id)) ∧ (∃ K' s', LocksAt w' g2 b2 K' s' ∧ RelK (restK Y id) K' s') ∧ Touched [g2, b2] w w' := by
 have HIC := kp (aidV_cl hi)
 have HK := kp hk; have HR := kp hrk
 have HOF := kp (fun w' (k : Grow w w') => kof_pts hrk hi w' (hk.call k))
 have HFR := kp (frees_of hrk id)
 have HLE := kp (show (ofK Y id).length ≤ 64 from Nat.le_trans (ofK_len Y id) (by have := hrk.len; have := hrk.lenX; omega))
 have HGL := kp (show g2 < w.heap.size ∧ b2 < w.heap.size from ⟨hk.ltg, hk.ltb⟩)
 obtain ⟨fr, hfr⟩ : ∃ q, q = freeR Y id := ⟨_, rfl⟩
 obtain ⟨rk, hrk2⟩ : ∃ q, q = restK Y id := ⟨_, rfl⟩
 rw [← hfr] at HFR ⊢
 rw [← hrk2] at HFR ⊢
 obtain ⟨ps, hps⟩ : ∃ q, q = ofK Y id := ⟨_, rfl⟩
 rw [← hps] at HOF HFR HLE
 have hps64 := HLE.out
 obtain ⟨xs, hxs⟩ : ∃ x, x = id.map B := ⟨_, rfl⟩
 rw [← hxs] at HIC HOF ⊢
 obtain ⟨w_, hw⟩ : ∃ x, x = w := ⟨_, rfl⟩
 have HB := kp (show Below w.heap.size w w_ by rw [hw]; exact Below.refl _ _)
 suffices H : Calls Tryz.prog 20 #[.agg xs.toArray, .pointer (some ⟨g2, 0, none⟩)] w_ (fun e w' => e = .returned (.int .u64 fr) ∧ (∃ K' s', LocksAt w' g2 b2 K' s' ∧ RelK rk K' s') ∧ Touched [g2, b2] w w') by rw [hw] at H; exact H
 clear hw hfr hrk2 hps hxs hk hrk hi
 go_enter Tryz.func20, Tryz.ntmps20
 go_wp2_with (first | (with_reducible refine wpl_box (o := ⟨some 2, _, _, _, _, _⟩) rfl rfl rfl ?_))
 intro w2_ hb2_ hb_ hsz2_
 have HX_ := kp (at_mk hb2_ HIC.out.len)
 clear hb2_ hsz2_
 have HG_ := kp HB.out.size
 replace HB := kp (HB.out.grow' hb_)
 generalize hg_ : w_.heap.size = g3 at HX_ HG_ ⊢
 clear hg_
 have HX_g := HG_
 clear HG_
 have HX := HX_
 clear hb_ HX_
 try clear w_
 rename World => w_
 go_wp2_with (with_reducible refine wlb 14 row_id HX.out.blk HX.out.len ?_)
 refine (HOF.out _ HB.out).mono ?_
 rintro e w2_ ⟨A3, c3, rfl, hp_, hb_⟩
 have HP := kp (hp_.less HB.out.size)
 replace HB := kp (HB.out.grow' hb_)
 clear hp_ hb_ HX
 try clear w_
 rename World => w_
 have HI0 := kp (show PtsAt w_ w.heap.size A3 ps ∧ LocksAt w_ g2 b2 K s2 ∧ RelK Y K s2 ∧ Touched [g2, b2] w w_ ∧ freesR (ps.drop 0) Y 0 = (rk, fr) from ⟨HP.out, HK.out.call HB.out, HR.out, Touched.of_below HB.out, HFR.out⟩)
 clear HP HB HK HR HFR HOF
 go_wp2_with fail
 go_loopw [5, 17] (fun s5 iv wr => ∃ (k : Nat) (sm : Int), k ≤ ps.length ∧ iv = .int .i64 k ∧ s5 = .int .u64 sm ∧ Hid (∃ Z M s, PtsAt wr w.heap.size A3 ps ∧ LocksAt wr g2 b2 M s ∧ RelK Z M s ∧ Touched [g2, b2] w wr ∧ freesR (ps.drop k) Z sm = (rk, fr))) (fun _ iv _ => ps.length - (intOf iv).toNat)
 case atStart => exact ⟨0, 0, Nat.zero_le _, rfl, rfl, kp ⟨Y, K, s2, HI0.out⟩⟩
 case round =>
  obtain ⟨k, sm, hk, rfl, rfl, hI⟩ := hrel
  clear HI0
  obtain ⟨Z, M, s, hp_, hm_, hr_, ht_, hf_⟩ := hI.out
  have HP := kp hp_; have HM := kp hm_; have HR := kp hr_; have HTO := kp ht_; have HF := kp hf_
  clear hI hp_ hm_ hr_ ht_ hf_
  rename World => w_
  by_cases hlt : k < ps.length
  ·obtain ⟨b5, o5, p, rfl, hb5, hp, hpo, hcc⟩ := HP.out.1.at_ hlt
   have HC := kp hcc
   have HPC := kp (ptV_cl hpo)
   have HST := kp (show freesR (ps.drop (k + 1)) (cutK Z p) (w64 (sm + ((lookL Z p).getD noLock).1.2)) = (rk, fr) by rw [← freesR_step hp]; exact HF.out)
   have HFC := kp (fun w' (h' : LocksAt w' g2 b2 M s) => show Calls Tryz.prog 46 #[.pointer (some ⟨g2, 0, none⟩), ptA p] w' fun e w'' => e = .returned (.tuple #[coinA ((lookL Z p).getD noLock).1, .bool (lookL Z p).isSome]) ∧ Touched [g2, b2] w' w'' ∧ LocksAt w'' g2 b2 (dropL M p) (s - ((lookL M p).getD noLock).1.2) by
    rw [HR.out.look]; exact kfree_any g2 b2 M s p w' h' hpo (by have := HR.out.max; omega) (HR.out.amtp p).2)
   have HR2 := kp (HR.out.take p)
   have HLO := kp (HR.out.lockOK p)
   have HLC := kp (coinV_cl HLO.out.1)
   have HLA := kp (coin_amt HLO.out.1)
   unfold ptA at HFC
   unfold coinA at HFC
   obtain ⟨lo, hlo⟩ : ∃ c, c = (lookL Z p).getD noLock := ⟨_, rfl⟩
   rw [← hlo] at HST HFC HLC HLA
   obtain ⟨am, ham⟩ : ∃ c, c = lo.1.2 := ⟨_, rfl⟩
   rw [← ham] at HST HLA
   obtain ⟨lv, hlv⟩ : ∃ c, c = coinV lo.1 := ⟨_, rfl⟩
   rw [← hlv] at HFC HLC HLA
   obtain ⟨es, hes⟩ : ∃ c, c = ptV p := ⟨_, rfl⟩
   rw [← hes] at HC HPC HFC
   obtain ⟨lk, hlk⟩ : ∃ c, c = (lookL Z p).isSome := ⟨_, rfl⟩
   rw [← hlk] at HFC
   clear hb5 hp hpo hcc HR HF HLO hlo ham hlv hes hlk
   have HB := kp (Below.refl w_.heap.size w_)
   have HW1 := kp (show w_.heap.size ≥ w.heap.size from HTO.out.size)
   obtain ⟨wq, hwq⟩ : ∃ x, x = w_ := ⟨_, rfl⟩
   replace HB := kp (show Below wq.heap.size wq w_ by rw [hwq]; exact Below.refl _ _)
   have HSZ := kp (show w.heap.size ≤ wq.heap.size by rw [hwq]; exact HTO.out.size)
   clear hwq HW1
   go_wp2_with (first | (with_reducible refine wlm 20 row_point HC.out HPC.out.len ?_) | (with_reducible refine wpl_alloc (o := ⟨some 7, _, _, _, _, _⟩) rfl rfl zero_point ?_))
   intro w1_ hb1_ hbw1_ hsz1_
   have HB1_ := kp (at_mk hb1_ len_point)
   have HBW1_ := kp hbw1_
   have HZ1_ := kp hsz1_
   clear hb1_ hbw1_ hsz1_
   go_wp2_with (with_reducible refine wsb row_point HB1_.out.blk HB1_.out.len HPC.out.len HPC.out.one ?_)
   intro w2_ hb2_ hg2_ hsz2_
   have HG_ := kp HB.out.size
   have hb_ := var_grow HBW1_.out HZ1_.out hg2_
   have HX_ := kp (at_mk hb2_ HPC.out.len)
   clear hb2_ hg2_ hsz2_ HB1_ HBW1_ HZ1_
   replace HB := kp (HB.out.grow' hb_)
   replace HP := kp (HP.out.grow hb_)
   replace HM := kp (HM.out.grow hb_)
   replace HTO := kp (HTO.out.grow hb_)
   generalize hg_ : w_.heap.size = gV at HX_ HG_ ⊢
   clear hg_
   have HV := HX_
   clear hb_ HX_
   clear w1_
   try clear w_
   rename World => w_
   have HV_g := HG_
   clear HG_
   go_wp2_with (with_reducible refine wlb 23 row_point HV.out.blk HV.out.len ?_)
   refine (HFC.out w_ HM.out).mono ?_
   rintro e w2_ ⟨rfl, ht_, hm_⟩
   have HM2 := kp hm_
   replace HTO := kp (HTO.out.trans ht_)
   have HTS := kp ht_.size
   replace HP := kp (HP.out.touchd ht_ (fun x hx => by have := HGL.out; simp only [List.mem_cons, List.not_mem_nil, or_false] at hx; rcases hx with rfl | rfl <;> omega))
   clear ht_ hm_ HM HB HV HV_g HSZ HTS
   clear wq
   try clear w_
   rename World => w_
   obtain ⟨wq, hwq⟩ : ∃ q, q = w_ := ⟨_, rfl⟩
   have HB := kp (show Below wq.heap.size wq w_ by rw [hwq]; exact Below.refl _ _)
   clear hwq
   go_wp2_with (first | (with_reducible refine wpl_alloc (o := ⟨some 8, _, _, _, _, _⟩) rfl rfl zero_coin ?_))
   intro w1_ hb1_ hbw1_ hsz1_
   have HB1_ := kp (at_mk hb1_ len_coin)
   have HBW1_ := kp hbw1_
   have HZ1_ := kp hsz1_
   clear hb1_ hbw1_ hsz1_
   go_wp2_with (with_reducible refine wsb row_coin HB1_.out.blk HB1_.out.len HLC.out.len HLC.out.one ?_)
   intro w2_ hb2_ hg2_ hsz2_
   have hb_ := var_grow HBW1_.out HZ1_.out hg2_
   have HX_ := kp (at_mk hb2_ HLC.out.len)
   clear hb2_ hg2_ hsz2_ HB1_ HBW1_ HZ1_
   replace HB := kp (HB.out.grow' hb_)
   replace HP := kp (HP.out.grow hb_)
   replace HM2 := kp (HM2.out.grow hb_)
   replace HTO := kp (HTO.out.grow hb_)
   generalize hg_ : w_.heap.size = gW at HX_ ⊢
   clear hg_
   have HW := HX_
   clear hb_ HX_
   clear w1_
   try clear w_
   rename World => w_
   have c1 := HW.out.blk.at_ HLA.out
   go_wp2_with fail
   go_roundw
   case rel => exact ⟨k + 1, w64 (sm + am), by omega, by go_num, rfl, kp ⟨_, _, _, HP.out, HM2.out, HR2.out, HTO.out, HST.out⟩⟩
   case measure => simp [intOf]; omega
  ·obtain rfl : k = ps.length := by omega
   have HE := kp (show (Z, sm) = (rk, fr) by rw [← HF.out, List.drop_length]; rfl)
   obtain ⟨rfl, rfl⟩ : Z = rk ∧ sm = fr := by have := HE.out; injection this with a b; exact ⟨a, b⟩
   go_wp2_with fail
   go_ret
   exact ⟨rfl, ⟨_, _, HM.out, HR.out⟩, HTO.out⟩
def TxKeep (w : World) (bs : List Nat) (tv : List Value) (t : Txn) : Prop := ∀ w', Touched bs w w' → TxAt w' tv t
theorem TxKeep.now {w : World} {bs : List Nat} {tv : List Value} {t : Txn} (h : TxKeep w bs tv t) : TxAt w tv t := h w (Touched.refl _ _)
theorem TxKeep.of {w0 w : World} {bs : List Nat} {tv : List Value} {t : Txn} (h : TxAt w0 tv t) (h0 : Below w0.heap.size w0 w) (hb : ∀ x ∈ bs, w0.heap.size ≤ x) : TxKeep w bs tv t := fun w' ht => h.grow (below_touch h0 ht hb)
theorem TxAt.insAt {w : World} {tv : List Value} {t : Txn} (h : TxAt w tv t) {A : Option Addr} {n c : Nat} (hv : tv[0]? = some (.slice A n c)) : ∃ l : List (Value × Inp), InsAt w A n c l ∧ l.map Prod.snd = t.ins := by
 obtain ⟨A', c', l, h1, h2, h3, _⟩ := h.ins
 rw [hv] at h1
 injection h1 with h1
 injection h1 with e1 e2 e3
 subst e1; subst e3
 rw [← e2] at h2
 exact ⟨l, h2, h3⟩
theorem pay_any {tv : List Value} {t : Txn} (n me : Int) {X L : CoinsL} {Y K : LocksL} {s s2 : Int} {g b g2 b2 : Nat} (w : World) (h : TxKeep w [g, b] tv t) (ht : Tabs w) (hc : CoinsAt w g b L s) (hrc : RelC X L s) (hk : LocksAt w g2 b2 K s2) (hrk : RelK Y K s2) :
  Calls Tryz.prog 12 #[.agg tv.toArray, .int .i64 n, .int .i64 me, .pointer (some ⟨g, 0, none⟩), .pointer (some ⟨g2, 0, none⟩)] w fun e w' => e = .returned (.tuple #[.int .u64 (inputsR X Y t n me).1, .int .i64 (inputsR X Y t n me).2]) ∧ (∃ L' s', CoinsAt w' g b L' s' ∧ RelC (payX X Y t n me) L' s') ∧ Touched [g, b] w w' := by
 have HTC := kp h.now.cl
 have HIP := kp (fun w' (k : Grow w w') => inputs_any n me w' (h.now.grow k) (hc.call k) hrc (hk.call k) hrk (ht.grow k))
 have HAT := kp (fun w' (k : Grow w w') => at_any n me w' (h.now.grow k) (ht.grow k))
 have HGL := kp (show g < w.heap.size ∧ b < w.heap.size from ⟨hc.ltg, hc.ltb⟩)
 have HCN := kp hc; have HRC := kp hrc; have HTX := kp h
 obtain ⟨A, c, l, hv0, hi, hl, hn⟩ := h.now.ins
 have HV0 := kp hv0
 have HKL := kp (fun k (hk : k ∈ hereI t n me) => hereI_lt hk)
 have hk16 := hereI_len t n me
 have HER := kp (fun he => inputs_err (X := X) (Y := Y) (t := t) (n := n) (me := me) he)
 have HPX := kp (show payX X Y t n me = if (inputsR X Y t n me).2 ≠ 0 then X else cutsC X (ptsOf t.ins (hereI t n me)) from rfl)
 obtain ⟨ks, hks⟩ : ∃ q, q = hereI t n me := ⟨_, rfl⟩
 obtain ⟨ko, hko⟩ : ∃ q, q = hereO t n me := ⟨_, rfl⟩
 rw [← hks] at HKL HAT hk16 HPX
 rw [← hko] at HAT
 obtain ⟨XF, hXF⟩ : ∃ q, q = payX X Y t n me := ⟨_, rfl⟩
 rw [← hXF] at HPX ⊢
 obtain ⟨R, hR⟩ : ∃ R, R = inputsR X Y t n me := ⟨_, rfl⟩
 rw [← hR] at HIP HER HPX ⊢
 obtain ⟨w_, hw⟩ : ∃ x, x = w := ⟨_, rfl⟩
 have HB := kp (show Below w.heap.size w w_ by rw [hw]; exact Below.refl _ _)
 suffices H : Calls Tryz.prog 12 #[.agg tv.toArray, .int .i64 n, .int .i64 me, .pointer (some ⟨g, 0, none⟩), .pointer (some ⟨g2, 0, none⟩)] w_ (fun e w' => e = .returned (.tuple #[.int .u64 R.1, .int .i64 R.2]) ∧ (∃ L' s', CoinsAt w' g b L' s' ∧ RelC XF L' s') ∧ Touched [g, b] w w') by rw [hw] at H; exact H
 clear hw h hc hrc hk hrk ht hv0 hi hl hR hks hko hXF
 go_enter Tryz.func12, Tryz.ntmps12
 go_wp2_with (first | (with_reducible refine wpl_box (o := ⟨some 5, _, _, _, _, _⟩) rfl rfl rfl ?_))
 intro w2_ hb2_ hb_ hsz2_
 have HX_ := kp (at_mk hb2_ HTC.out.len)
 clear hb2_ hsz2_
 have HG_ := kp HB.out.size
 replace HB := kp (HB.out.grow' hb_)
 generalize hg_ : w_.heap.size = g1 at HX_ HG_ ⊢
 clear hg_
 have HX_g := HG_
 clear HG_
 have HX := HX_
 clear hb_ HX_
 try clear w_
 rename World => w_
 go_wp2_with (with_reducible refine wlb 19 row_tx HX.out.blk HX.out.len ?_)
 refine (HIP.out _ HB.out).mono ?_
 rintro e w_ ⟨rfl, hb_⟩
 replace HB := kp (HB.out.grow' hb_)
 replace HX := kp (HX.out.grow hb_)
 clear hb_
 by_cases hr : R.2 = 0
 case neg =>
  have z1 : (R.2 != 0) = true := by simpa using hr
  have HE := kp (show XF = X by rw [HPX.out, if_pos hr])
  have HE1 := kp (HER.out hr)
  go_wp2_with fail
  go_ret2
  exact ⟨by rw [HE1.out]; rfl, ⟨L, s, HCN.out.call HB.out, by rw [HE.out]; exact HRC.out⟩, Touched.of_below HB.out⟩
 case pos =>
  have HE := kp (show cutsC X (ptsOf t.ins (ks.drop 0)) = XF by rw [HPX.out, if_neg (fun h => h hr), List.drop_zero])
  have HR2 := kp hr
  rw [hr]
  have z1 : ((0 : Int) != 0) = false := by decide
  clear HPX HER hr
  go_wp2_with (with_reducible refine wlb 31 row_tx HX.out.blk HX.out.len ?_)
  refine (HAT.out _ HB.out).mono ?_
  rintro e w2_ ⟨A3, c3, A4, c4, rfl, ha, _, hb_⟩
  have HK := kp (ha.less HB.out.size)
  replace HX := kp (HX.out.grow hb_); replace HB := kp (HB.out.grow' hb_)
  clear ha hb_
  try clear w_
  rename World => w_
  have HI0 := kp (show At w_ g1 27 4 tv ∧ NatsAt w_ w.heap.size A3 ks ∧ CoinsAt w_ g b L s ∧ RelC X L s ∧ Touched [g, b] w w_ ∧ cutsC X (ptsOf t.ins (ks.drop 0)) = XF from ⟨HX.out, HK.out, HCN.out.call HB.out, HRC.out, Touched.of_below HB.out, HE.out⟩)
  clear HX HK HB HE HCN HRC HAT HIP
  go_wp2_with fail
  go_loopw [39] (fun iv wr => ∃ (k : Nat), k ≤ ks.length ∧ iv = .int .i64 k ∧ Hid (∃ Z M s, At wr g1 27 4 tv ∧ NatsAt wr w.heap.size A3 ks ∧ CoinsAt wr g b M s ∧ RelC Z M s ∧ Touched [g, b] w wr ∧ cutsC Z (ptsOf t.ins (ks.drop k)) = XF)) (fun iv _ => ks.length - (intOf iv).toNat)
  case atStart => exact ⟨0, Nat.zero_le _, rfl, kp ⟨X, L, s, HI0.out⟩⟩
  case round =>
   obtain ⟨k, hk, rfl, hI⟩ := hrel
   clear HI0
   obtain ⟨Z, M, s, hx_, hn_, hm_, hr_, ht_, hf_⟩ := hI.out
   have HX := kp hx_; have HK := kp hn_; have HM := kp hm_; have HR := kp hr_; have HTO := kp ht_; have HF := kp hf_
   clear hI hx_ hn_ hm_ hr_ ht_ hf_
   rename World => w_
   by_cases hlt : k < ks.length
   ·obtain ⟨b5, o5, j, rfl, hj, c5⟩ := HK.out.at_ hlt
    have hjl := HKL.out j (List.mem_of_getElem? hj)
    obtain ⟨l2, hii, hl2⟩ := (HTX.out _ HTO.out).insAt HV0.out
    obtain ⟨bi, oi, p, rfl, hp, hok, hcc⟩ := hii.at_ hjl
    have hp2 : t.ins[j]? = some p.2 := by rw [← hl2, List.getElem?_map, hp]; rfl
    have HST := kp (show cutsC (cutC Z p.2.pt) (ptsOf t.ins (ks.drop (k + 1))) = XF by rw [← HF.out]; exact (cutsC_step hj hp2).symm)
    have HPO := kp (in_ok hok.2)
    have HPC := kp (ptV_cl HPO.out)
    have HMP := kp (show ∀ i u, (ptV p.2.pt)[i]? = some u → w_.cell? ⟨bi, oi + j * 35 + i, none⟩ = some u from fun i u hu => hcc i u (in_pt p.1 p.2 hu))
    have HTK := kp (take_any g b M s p.2.pt w_ HM.out HPO.out (by have := HR.out.max; omega) (HR.out.amtp p.2.pt).2)
    have HR2 := kp (HR.out.take p.2.pt)
    unfold ptA at HTK
    obtain ⟨es, hes⟩ : ∃ c, c = ptV p.2.pt := ⟨_, rfl⟩
    rw [← hes] at HPC HMP HTK
    obtain ⟨pp, hpp⟩ : ∃ c, c = p.2.pt := ⟨_, rfl⟩
    rw [← hpp] at HST HTK HR2
    generalize coinA ((lookC M pp).getD noCoin) = cv at HTK
    generalize (lookC M pp).isSome = lk at HTK
    have c0 := HX.out.blk.at_ HV0.out
    have q1 : ((j : Int) < (t.ins.length : Int)) := by omega
    clear hj hp hok hcc hp2 hii hl2 HF HPO HR hes hpp
    go_wp2_with (with_reducible refine wlm 49 row_point HMP.out HPC.out.len ?_)
    refine HTK.out.mono ?_
    rintro e w2_ ⟨rfl, ht_, hm_⟩
    have HM2 := kp hm_
    have hgl := HGL.out
    have HLT := kp (show ∀ x ∈ [g, b], x < w.heap.size from fun x hx => by simp only [List.mem_cons, List.not_mem_nil, or_false] at hx; rcases hx with rfl | rfl; exact hgl.1; exact hgl.2)
    replace HX := kp (HX.out.touchd ht_ (fun hx => by have := HLT.out _ hx; have := HX_g.out; omega))
    replace HK := kp (HK.out.touch ht_ HLT.out)
    replace HTO := kp (HTO.out.trans ht_)
    clear ht_ hm_ HTK HMP c0 c5 HM hgl
    go_wp2_with fail
    go_roundw
    case rel => exact ⟨k + 1, by omega, by go_num, kp ⟨_, _, _, HX.out, HK.out, HM2.out, HR2.out, HTO.out, HST.out⟩⟩
    case measure => simp [intOf]; omega
   ·obtain rfl : k = ks.length := by omega
    have HE := kp (show Z = XF by rw [← HF.out, List.drop_length]; rfl)
    go_wp2_with fail
    go_ret2
    exact ⟨by rw [HR2.out]; rfl, ⟨M, s, HM.out, by rw [← HE.out]; exact HR.out⟩, HTO.out⟩
open Go.RowKit Go.Sort
def idx (x : Nat) : List UInt8 := UInt8.ofNat x :: List.replicate 31 0
theorem idx_len (x : Nat) : (idx x).length = 32 := by simp [idx]
theorem LocksAt.grown {w w' : World} {g b : Nat} {L : LocksL} {s : Int} {row : Option Nat} (h : LocksAt w g b L s) (hg : w.grownBy w' row) (h1 : some g ≠ row) (h2 : some b ≠ row) : LocksAt w' g b L s := by
 obtain ⟨q1, ⟨e1, c1, q2, q3, q4⟩, q5, q6⟩ := h
 exact ⟨q1.grown hg h1, ⟨e1, c1, (hg.block b (Array.getElem?_eq_some_iff.1 q2).1 h2).trans q2, q3, q4⟩, q5, q6⟩
end Go.Proofs.YtnnjjbkdjkjnpaaGreatDoor

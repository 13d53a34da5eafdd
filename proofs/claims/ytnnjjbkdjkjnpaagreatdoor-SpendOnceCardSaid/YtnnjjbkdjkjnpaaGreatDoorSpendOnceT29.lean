/- The contracts of spend.Free and spend.Pay. -/
import Derived.Test.YtnnjjbkdjkjnpaaGreatDoorSpendOnceT28
import Derived.Test.YtnnjjbkdjkjnpaaGreatDoorSpendOnceT24
import Derived.Test.YtnnjjbkdjkjnpaaGreatDoorSpendOnceT19
set_option linter.unusedSimpArgs false
/- The contracts of spend.Free and spend.Pay. -/
namespace Go.Proofs.YtnnjjbkdjkjnpaaGreatDoor
open Go.RowKit Go.Shelf
set_option linter.unusedVariables false
set_option maxRecDepth 100000 in
set_option maxHeartbeats 4000000 in
theorem free_any {id : List UInt8} (hi : id.length = 32) {Y K : LocksL} {s2 : Int} {g2 b2 : Nat} (w : World) (hk : LocksAt w g2 b2 K s2) (hrk : RelK Y K s2) :
    Calls Tryz.prog 20 #[.agg (id.map B).toArray, .pointer (some ⟨g2, 0, none⟩)] w fun e w' => e = .returned (.int .u64 (freeR Y id)) ∧ (∃ K' s', LocksAt w' g2 b2 K' s' ∧ RelK (restK Y id) K' s') ∧ Touched [g2, b2] w w' := by
  have HIC := Lib.hid (aidV_cl hi)
  have HK := Lib.hid hk; have HR := Lib.hid hrk
  have HOF := Lib.hid (fun w' (k : Grow w w') => kof_pts hrk hi w' (hk.call k))
  have HFR := Lib.hid (frees_of hrk id)
  have HLE := Lib.hid (show (ofK Y id).length ≤ 64 from Nat.le_trans (ofK_len Y id) (by have := hrk.len; have := hrk.lenX; omega))
  have HGL := Lib.hid (show g2 < w.heap.size ∧ b2 < w.heap.size from ⟨hk.ltg, hk.ltb⟩)
  obtain ⟨fr, hfr⟩ : ∃ q, q = freeR Y id := ⟨_, rfl⟩
  obtain ⟨rk, hrk2⟩ : ∃ q, q = restK Y id := ⟨_, rfl⟩
  rw [← hfr] at HFR ⊢
  rw [← hrk2] at HFR ⊢
  obtain ⟨ps, hps⟩ : ∃ q, q = ofK Y id := ⟨_, rfl⟩
  rw [← hps] at HOF HFR HLE
  have hps64 := HLE.out
  obtain ⟨xs, hxs⟩ : ∃ x, x = id.map B := ⟨_, rfl⟩
  rw [← hxs] at HIC HOF ⊢
  obtain ⟨w_, hw⟩ : ∃ x, x = w := ⟨_, rfl⟩
  have HB := Lib.hid (show Below w.heap.size w w_ by rw [hw]; exact Below.refl _ _)
  suffices H : Calls Tryz.prog 20 #[.agg xs.toArray, .pointer (some ⟨g2, 0, none⟩)] w_ (fun e w' => e = .returned (.int .u64 fr) ∧ (∃ K' s', LocksAt w' g2 b2 K' s' ∧ RelK rk K' s') ∧ Touched [g2, b2] w w') by rw [hw] at H; exact H
  clear hw hfr hrk2 hps hxs hk hrk hi
  go_enter Tryz.func20, Tryz.ntmps20
  go_wp2_with (first | (with_reducible refine wpl_box (o := ⟨some 2, _, _, _, _, _⟩) rfl rfl rfl ?_))
  intro w2_ hb2_ hb_ hsz2_
  have HX_ := Lib.hid (at_mk hb2_ HIC.out.len)
  clear hb2_ hsz2_
  have HG_ := Lib.hid HB.out.size
  have HB_ := Lib.hid (HB.out.grow' hb_)
  clear HB
  have HB := HB_
  clear HB_
  generalize hg_ : w_.heap.size = g3 at HX_ HG_ ⊢
  clear hg_
  have HX_g := HG_
  clear HG_
  have HX := HX_
  clear hb_ HX_
  try clear w_
  rename World => w_
  go_wp2_with (first | (with_reducible refine wpl_loadb (o := ⟨some 14, _, _, _, _, _⟩) rfl rfl row_id HX.out.blk rfl HX.out.len ?_))
  refine (HOF.out _ HB.out).mono ?_
  rintro e w2_ ⟨A3, c3, rfl, hp_, hb_⟩
  have HP := Lib.hid (hp_.less HB.out.size)
  replace HB := Lib.hid (HB.out.grow' hb_)
  clear hp_ hb_ HX
  try clear w_
  rename World => w_
  have HI0 := Lib.hid (show PtsAt w_ w.heap.size A3 ps ∧ LocksAt w_ g2 b2 K s2 ∧ RelK Y K s2 ∧ Touched [g2, b2] w w_ ∧ freesR (ps.drop 0) Y 0 = (rk, fr) from ⟨HP.out, HK.out.call HB.out, HR.out, Touched.of_below HB.out, HFR.out⟩)
  clear HP HB HK HR HFR HOF
  go_wp2_with fail
  go_loopw [5, 17] (fun s5 iv wr => ∃ (k : Nat) (sm : Int), k ≤ ps.length ∧ iv = .int .i64 k ∧ s5 = .int .u64 sm ∧ Hid (∃ Z M s, PtsAt wr w.heap.size A3 ps ∧ LocksAt wr g2 b2 M s ∧ RelK Z M s ∧ Touched [g2, b2] w wr ∧ freesR (ps.drop k) Z sm = (rk, fr))) (fun _ iv _ => ps.length - (intOf iv).toNat)
  case atStart => exact ⟨0, 0, Nat.zero_le _, rfl, rfl, Lib.hid ⟨Y, K, s2, HI0.out⟩⟩
  case round =>
    obtain ⟨k, sm, hk, rfl, rfl, hI⟩ := hrel
    clear HI0
    obtain ⟨Z, M, s, hp_, hm_, hr_, ht_, hf_⟩ := hI.out
    have HP := Lib.hid hp_; have HM := Lib.hid hm_; have HR := Lib.hid hr_; have HTO := Lib.hid ht_; have HF := Lib.hid hf_
    clear hI hp_ hm_ hr_ ht_ hf_
    rename World => w_
    by_cases hlt : k < ps.length
    · obtain ⟨b5, o5, p, rfl, hb5, hp, hpo, hcc⟩ := HP.out.1.at_ hlt
      have HC := Lib.hid hcc
      have HPC := Lib.hid (ptV_cl hpo)
      have HST := Lib.hid (show freesR (ps.drop (k + 1)) (cutK Z p) (w64 (sm + ((lookL Z p).getD noLock).1.2)) = (rk, fr) by rw [← freesR_step hp]; exact HF.out)
      have HFC := Lib.hid (fun w' (h' : LocksAt w' g2 b2 M s) => show Calls Tryz.prog 46 #[.pointer (some ⟨g2, 0, none⟩), ptA p] w' fun e w'' => e = .returned (.tuple #[coinA ((lookL Z p).getD noLock).1, .bool (lookL Z p).isSome]) ∧ Touched [g2, b2] w' w'' ∧ LocksAt w'' g2 b2 (dropL M p) (s - ((lookL M p).getD noLock).1.2) by
        rw [HR.out.look]; exact kfree_any g2 b2 M s p w' h' hpo (by have := HR.out.max; omega) (HR.out.amtp p).2)
      have HR2 := Lib.hid (HR.out.take p)
      have HLO := Lib.hid (HR.out.lockOK p)
      have HLC := Lib.hid (coinV_cl HLO.out.1)
      have HLA := Lib.hid (coin_amt HLO.out.1)
      unfold ptA at HFC
      unfold coinA at HFC
      obtain ⟨lo, hlo⟩ : ∃ c, c = (lookL Z p).getD noLock := ⟨_, rfl⟩
      rw [← hlo] at HST HFC HLC HLA
      obtain ⟨am, ham⟩ : ∃ c, c = lo.1.2 := ⟨_, rfl⟩
      rw [← ham] at HST HLA
      obtain ⟨lv, hlv⟩ : ∃ c, c = coinV lo.1 := ⟨_, rfl⟩
      rw [← hlv] at HFC HLC HLA
      obtain ⟨es, hes⟩ : ∃ c, c = ptV p := ⟨_, rfl⟩
      rw [← hes] at HC HPC HFC
      obtain ⟨lk, hlk⟩ : ∃ c, c = (lookL Z p).isSome := ⟨_, rfl⟩
      rw [← hlk] at HFC
      clear hb5 hp hpo hcc HR HF HLO hlo ham hlv hes hlk
      have HB := Lib.hid (Below.refl w_.heap.size w_)
      have HW1 := Lib.hid (show w_.heap.size ≥ w.heap.size from HTO.out.size)
      obtain ⟨wq, hwq⟩ : ∃ x, x = w_ := ⟨_, rfl⟩
      replace HB := Lib.hid (show Below wq.heap.size wq w_ by rw [hwq]; exact Below.refl _ _)
      have HSZ := Lib.hid (show w.heap.size ≤ wq.heap.size by rw [hwq]; exact HTO.out.size)
      clear hwq HW1
      go_wp2_with (first | (with_reducible refine wpl_loadm (o := ⟨some 20, _, _, _, _, _⟩) rfl rfl row_point HC.out rfl HPC.out.len ?_) | (with_reducible refine wpl_alloc (o := ⟨some 7, _, _, _, _, _⟩) rfl rfl zero_point ?_))
      intro w1_ hb1_ hbw1_ hsz1_
      have HB1_ := Lib.hid (at_mk hb1_ len_point)
      have HBW1_ := Lib.hid hbw1_
      have HZ1_ := Lib.hid hsz1_
      clear hb1_ hbw1_ hsz1_
      go_wp2_with (first | (with_reducible refine wpl_storeb (o := ⟨none, .store _ _ _, _, _, _, _⟩) rfl rfl row_point HB1_.out.blk rfl rfl HB1_.out.len HPC.out.len HPC.out.one ?_))
      intro w2_ hb2_ hg2_ hsz2_
      have HG_ := Lib.hid HB.out.size
      have hb_ := var_grow HBW1_.out HZ1_.out hg2_
      have HX_ := Lib.hid (at_mk hb2_ HPC.out.len)
      clear hb2_ hg2_ hsz2_ HB1_ HBW1_ HZ1_
      have HB_ := Lib.hid (HB.out.grow' hb_)
      clear HB
      have HB := HB_
      clear HB_
      have HP_ := Lib.hid (HP.out.grow hb_)
      clear HP
      have HP := HP_
      clear HP_
      have HM_ := Lib.hid (HM.out.grow hb_)
      clear HM
      have HM := HM_
      clear HM_
      have HTO_ := Lib.hid (HTO.out.grow hb_)
      clear HTO
      have HTO := HTO_
      clear HTO_
      generalize hg_ : w_.heap.size = gV at HX_ HG_ ⊢
      clear hg_
      have HV := HX_
      clear hb_ HX_
      clear w1_
      try clear w_
      rename World => w_
      have HV_g := HG_
      clear HG_
      go_wp2_with (first | (with_reducible refine wpl_loadb (o := ⟨some 23, _, _, _, _, _⟩) rfl rfl row_point HV.out.blk rfl HV.out.len ?_))
      refine (HFC.out w_ HM.out).mono ?_
      rintro e w2_ ⟨rfl, ht_, hm_⟩
      have HM2 := Lib.hid hm_
      replace HTO := Lib.hid (HTO.out.trans ht_)
      have HTS := Lib.hid ht_.size
      replace HP := Lib.hid (HP.out.touchd ht_ (fun x hx => by have := HGL.out; simp only [List.mem_cons, List.not_mem_nil, or_false] at hx; rcases hx with rfl | rfl <;> omega))
      clear ht_ hm_ HM HB HV HV_g HSZ HTS
      clear wq
      try clear w_
      rename World => w_
      obtain ⟨wq, hwq⟩ : ∃ q, q = w_ := ⟨_, rfl⟩
      have HB := Lib.hid (show Below wq.heap.size wq w_ by rw [hwq]; exact Below.refl _ _)
      clear hwq
      go_wp2_with (first | (with_reducible refine wpl_alloc (o := ⟨some 8, _, _, _, _, _⟩) rfl rfl zero_coin ?_))
      intro w1_ hb1_ hbw1_ hsz1_
      have HB1_ := Lib.hid (at_mk hb1_ len_coin)
      have HBW1_ := Lib.hid hbw1_
      have HZ1_ := Lib.hid hsz1_
      clear hb1_ hbw1_ hsz1_
      go_wp2_with (first | (with_reducible refine wpl_storeb (o := ⟨none, .store _ _ _, _, _, _, _⟩) rfl rfl row_coin HB1_.out.blk rfl rfl HB1_.out.len HLC.out.len HLC.out.one ?_))
      intro w2_ hb2_ hg2_ hsz2_
      have hb_ := var_grow HBW1_.out HZ1_.out hg2_
      have HX_ := Lib.hid (at_mk hb2_ HLC.out.len)
      clear hb2_ hg2_ hsz2_ HB1_ HBW1_ HZ1_
      have HB_ := Lib.hid (HB.out.grow' hb_)
      clear HB
      have HB := HB_
      clear HB_
      have HP_ := Lib.hid (HP.out.grow hb_)
      clear HP
      have HP := HP_
      clear HP_
      have HM2_ := Lib.hid (HM2.out.grow hb_)
      clear HM2
      have HM2 := HM2_
      clear HM2_
      have HTO_ := Lib.hid (HTO.out.grow hb_)
      clear HTO
      have HTO := HTO_
      clear HTO_
      generalize hg_ : w_.heap.size = gW at HX_ ⊢
      clear hg_
      have HW := HX_
      clear hb_ HX_
      clear w1_
      try clear w_
      rename World => w_
      have c1 := HW.out.blk.at_ HLA.out
      go_wp2_with fail
      go_roundw
      case rel => exact ⟨k + 1, w64 (sm + am), by omega, by go_num, rfl, Lib.hid ⟨_, _, _, HP.out, HM2.out, HR2.out, HTO.out, HST.out⟩⟩
      case measure => simp [intOf]; omega
    · obtain rfl : k = ps.length := by omega
      have HE := Lib.hid (show (Z, sm) = (rk, fr) by rw [← HF.out, List.drop_length]; rfl)
      obtain ⟨rfl, rfl⟩ : Z = rk ∧ sm = fr := by have := HE.out; injection this with a b; exact ⟨a, b⟩
      go_wp2_with fail
      go_ret
      exact ⟨rfl, ⟨_, _, HM.out, HR.out⟩, HTO.out⟩
/-- A transaction that stays, whatever becomes of the blocks bs. -/
def TxKeep (w : World) (bs : List Nat) (tv : List Value) (t : Txn) : Prop := ∀ w', Touched bs w w' → TxAt w' tv t
theorem TxKeep.now {w : World} {bs : List Nat} {tv : List Value} {t : Txn} (h : TxKeep w bs tv t) : TxAt w tv t := h w (Touched.refl _ _)
theorem TxKeep.of {w0 w : World} {bs : List Nat} {tv : List Value} {t : Txn} (h : TxAt w0 tv t) (h0 : Below w0.heap.size w0 w) (hb : ∀ x ∈ bs, w0.heap.size ≤ x) : TxKeep w bs tv t := fun w' ht => h.grow (below_touch h0 ht hb)
theorem TxAt.insAt {w : World} {tv : List Value} {t : Txn} (h : TxAt w tv t) {A : Option Addr} {n c : Nat} (hv : tv[0]? = some (.slice A n c)) : ∃ l : List (Value × Inp), InsAt w A n c l ∧ l.map Prod.snd = t.ins := by
  obtain ⟨A', c', l, h1, h2, h3, _⟩ := h.ins
  rw [hv] at h1
  injection h1 with h1
  injection h1 with e1 e2 e3
  subst e1; subst e3
  rw [← e2] at h2
  exact ⟨l, h2, h3⟩
set_option maxRecDepth 100000 in
set_option maxHeartbeats 4000000 in
theorem pay_any {tv : List Value} {t : Txn} (n me : Int) {X L : CoinsL} {Y K : LocksL} {s s2 : Int} {g b g2 b2 : Nat} (w : World) (h : TxKeep w [g, b] tv t) (ht : Tabs w) (hc : CoinsAt w g b L s) (hrc : RelC X L s) (hk : LocksAt w g2 b2 K s2) (hrk : RelK Y K s2) :
    Calls Tryz.prog 12 #[.agg tv.toArray, .int .i64 n, .int .i64 me, .pointer (some ⟨g, 0, none⟩), .pointer (some ⟨g2, 0, none⟩)] w fun e w' => e = .returned (.tuple #[.int .u64 (inputsR X Y t n me).1, .int .i64 (inputsR X Y t n me).2]) ∧ (∃ L' s', CoinsAt w' g b L' s' ∧ RelC (payX X Y t n me) L' s') ∧ Touched [g, b] w w' := by
  have HTC := Lib.hid h.now.cl
  have HIP := Lib.hid (fun w' (k : Grow w w') => inputs_any n me w' (h.now.grow k) (hc.call k) hrc (hk.call k) hrk (ht.grow k))
  have HAT := Lib.hid (fun w' (k : Grow w w') => at_any n me w' (h.now.grow k) (ht.grow k))
  have HGL := Lib.hid (show g < w.heap.size ∧ b < w.heap.size from ⟨hc.ltg, hc.ltb⟩)
  have HCN := Lib.hid hc; have HRC := Lib.hid hrc; have HTX := Lib.hid h
  obtain ⟨A, c, l, hv0, hi, hl, hn⟩ := h.now.ins
  have HV0 := Lib.hid hv0
  have HKL := Lib.hid (fun k (hk : k ∈ hereI t n me) => hereI_lt hk)
  have hk16 := hereI_len t n me
  have HER := Lib.hid (fun he => inputs_err (X := X) (Y := Y) (t := t) (n := n) (me := me) he)
  have HPX := Lib.hid (show payX X Y t n me = if (inputsR X Y t n me).2 ≠ 0 then X else cutsC X (ptsOf t.ins (hereI t n me)) from rfl)
  obtain ⟨ks, hks⟩ : ∃ q, q = hereI t n me := ⟨_, rfl⟩
  obtain ⟨ko, hko⟩ : ∃ q, q = hereO t n me := ⟨_, rfl⟩
  rw [← hks] at HKL HAT hk16 HPX
  rw [← hko] at HAT
  obtain ⟨XF, hXF⟩ : ∃ q, q = payX X Y t n me := ⟨_, rfl⟩
  rw [← hXF] at HPX ⊢
  obtain ⟨R, hR⟩ : ∃ R, R = inputsR X Y t n me := ⟨_, rfl⟩
  rw [← hR] at HIP HER HPX ⊢
  obtain ⟨w_, hw⟩ : ∃ x, x = w := ⟨_, rfl⟩
  have HB := Lib.hid (show Below w.heap.size w w_ by rw [hw]; exact Below.refl _ _)
  suffices H : Calls Tryz.prog 12 #[.agg tv.toArray, .int .i64 n, .int .i64 me, .pointer (some ⟨g, 0, none⟩), .pointer (some ⟨g2, 0, none⟩)] w_ (fun e w' => e = .returned (.tuple #[.int .u64 R.1, .int .i64 R.2]) ∧ (∃ L' s', CoinsAt w' g b L' s' ∧ RelC XF L' s') ∧ Touched [g, b] w w') by rw [hw] at H; exact H
  clear hw h hc hrc hk hrk ht hv0 hi hl hR hks hko hXF
  go_enter Tryz.func12, Tryz.ntmps12
  go_wp2_with (first | (with_reducible refine wpl_box (o := ⟨some 5, _, _, _, _, _⟩) rfl rfl rfl ?_))
  intro w2_ hb2_ hb_ hsz2_
  have HX_ := Lib.hid (at_mk hb2_ HTC.out.len)
  clear hb2_ hsz2_
  have HG_ := Lib.hid HB.out.size
  have HB_ := Lib.hid (HB.out.grow' hb_)
  clear HB
  have HB := HB_
  clear HB_
  generalize hg_ : w_.heap.size = g1 at HX_ HG_ ⊢
  clear hg_
  have HX_g := HG_
  clear HG_
  have HX := HX_
  clear hb_ HX_
  try clear w_
  rename World => w_
  go_wp2_with (first | (with_reducible refine wpl_loadb (o := ⟨some 19, _, _, _, _, _⟩) rfl rfl row_tx HX.out.blk rfl HX.out.len ?_))
  refine (HIP.out _ HB.out).mono ?_
  rintro e w_ ⟨rfl, hb_⟩
  have HB_ := Lib.hid (HB.out.grow' hb_)
  clear HB
  have HB := HB_
  clear HB_
  have HX_ := Lib.hid (HX.out.grow hb_)
  clear HX
  have HX := HX_
  clear HX_
  clear hb_
  by_cases hr : R.2 = 0
  case neg =>
    have z1 : (R.2 != 0) = true := by simpa using hr
    have HE := Lib.hid (show XF = X by rw [HPX.out, if_pos hr])
    have HE1 := Lib.hid (HER.out hr)
    go_wp2_with fail
    go_ret2
    exact ⟨by rw [HE1.out]; rfl, ⟨L, s, HCN.out.call HB.out, by rw [HE.out]; exact HRC.out⟩, Touched.of_below HB.out⟩
  case pos =>
    have HE := Lib.hid (show cutsC X (ptsOf t.ins (ks.drop 0)) = XF by rw [HPX.out, if_neg (fun h => h hr), List.drop_zero])
    have HR2 := Lib.hid hr
    rw [hr]
    have z1 : ((0 : Int) != 0) = false := by decide
    clear HPX HER hr
    go_wp2_with (first | (with_reducible refine wpl_loadb (o := ⟨some 31, _, _, _, _, _⟩) rfl rfl row_tx HX.out.blk rfl HX.out.len ?_))
    refine (HAT.out _ HB.out).mono ?_
    rintro e w2_ ⟨A3, c3, A4, c4, rfl, ha, _, hb_⟩
    have HK := Lib.hid (ha.less HB.out.size)
    replace HX := Lib.hid (HX.out.grow hb_); replace HB := Lib.hid (HB.out.grow' hb_)
    clear ha hb_
    try clear w_
    rename World => w_
    have HI0 := Lib.hid (show At w_ g1 27 4 tv ∧ NatsAt w_ w.heap.size A3 ks ∧ CoinsAt w_ g b L s ∧ RelC X L s ∧ Touched [g, b] w w_ ∧ cutsC X (ptsOf t.ins (ks.drop 0)) = XF from ⟨HX.out, HK.out, HCN.out.call HB.out, HRC.out, Touched.of_below HB.out, HE.out⟩)
    clear HX HK HB HE HCN HRC HAT HIP
    go_wp2_with fail
    go_loopw [39] (fun iv wr => ∃ (k : Nat), k ≤ ks.length ∧ iv = .int .i64 k ∧ Hid (∃ Z M s, At wr g1 27 4 tv ∧ NatsAt wr w.heap.size A3 ks ∧ CoinsAt wr g b M s ∧ RelC Z M s ∧ Touched [g, b] w wr ∧ cutsC Z (ptsOf t.ins (ks.drop k)) = XF)) (fun iv _ => ks.length - (intOf iv).toNat)
    case atStart => exact ⟨0, Nat.zero_le _, rfl, Lib.hid ⟨X, L, s, HI0.out⟩⟩
    case round =>
      obtain ⟨k, hk, rfl, hI⟩ := hrel
      clear HI0
      obtain ⟨Z, M, s, hx_, hn_, hm_, hr_, ht_, hf_⟩ := hI.out
      have HX := Lib.hid hx_; have HK := Lib.hid hn_; have HM := Lib.hid hm_; have HR := Lib.hid hr_; have HTO := Lib.hid ht_; have HF := Lib.hid hf_
      clear hI hx_ hn_ hm_ hr_ ht_ hf_
      rename World => w_
      by_cases hlt : k < ks.length
      · obtain ⟨b5, o5, j, rfl, hj, c5⟩ := HK.out.at_ hlt
        have hjl := HKL.out j (List.mem_of_getElem? hj)
        obtain ⟨l2, hii, hl2⟩ := (HTX.out _ HTO.out).insAt HV0.out
        obtain ⟨bi, oi, p, rfl, hp, hok, hcc⟩ := hii.at_ hjl
        have hp2 : t.ins[j]? = some p.2 := by rw [← hl2, List.getElem?_map, hp]; rfl
        have HST := Lib.hid (show cutsC (cutC Z p.2.pt) (ptsOf t.ins (ks.drop (k + 1))) = XF by rw [← HF.out]; exact (cutsC_step hj hp2).symm)
        have HPO := Lib.hid (in_ok hok.2)
        have HPC := Lib.hid (ptV_cl HPO.out)
        have HMP := Lib.hid (show ∀ i u, (ptV p.2.pt)[i]? = some u → w_.cell? ⟨bi, oi + j * 35 + i, none⟩ = some u from fun i u hu => hcc i u (in_pt p.1 p.2 hu))
        have HTK := Lib.hid (take_any g b M s p.2.pt w_ HM.out HPO.out (by have := HR.out.max; omega) (HR.out.amtp p.2.pt).2)
        have HR2 := Lib.hid (HR.out.take p.2.pt)
        unfold ptA at HTK
        obtain ⟨es, hes⟩ : ∃ c, c = ptV p.2.pt := ⟨_, rfl⟩
        rw [← hes] at HPC HMP HTK
        obtain ⟨pp, hpp⟩ : ∃ c, c = p.2.pt := ⟨_, rfl⟩
        rw [← hpp] at HST HTK HR2
        generalize coinA ((lookC M pp).getD noCoin) = cv at HTK
        generalize (lookC M pp).isSome = lk at HTK
        have c0 := HX.out.blk.at_ HV0.out
        have q1 : ((j : Int) < (t.ins.length : Int)) := by omega
        clear hj hp hok hcc hp2 hii hl2 HF HPO HR hes hpp
        go_wp2_with (first | (with_reducible refine wpl_loadm (o := ⟨some 49, _, _, _, _, _⟩) rfl rfl row_point HMP.out rfl HPC.out.len ?_))
        refine HTK.out.mono ?_
        rintro e w2_ ⟨rfl, ht_, hm_⟩
        have HM2 := Lib.hid hm_
        have hgl := HGL.out
        have HLT := Lib.hid (show ∀ x ∈ [g, b], x < w.heap.size from fun x hx => by simp only [List.mem_cons, List.not_mem_nil, or_false] at hx; rcases hx with rfl | rfl; exact hgl.1; exact hgl.2)
        replace HX := Lib.hid (HX.out.touchd ht_ (fun hx => by have := HLT.out _ hx; have := HX_g.out; omega))
        replace HK := Lib.hid (HK.out.touch ht_ HLT.out)
        replace HTO := Lib.hid (HTO.out.trans ht_)
        clear ht_ hm_ HTK HMP c0 c5 HM hgl
        go_wp2_with fail
        go_roundw
        case rel => exact ⟨k + 1, by omega, by go_num, Lib.hid ⟨_, _, _, HX.out, HK.out, HM2.out, HR2.out, HTO.out, HST.out⟩⟩
        case measure => simp [intOf]; omega
      · obtain rfl : k = ks.length := by omega
        have HE := Lib.hid (show Z = XF by rw [← HF.out, List.drop_length]; rfl)
        go_wp2_with fail
        go_ret2
        exact ⟨by rw [HR2.out]; rfl, ⟨M, s, HM.out, by rw [← HE.out]; exact HR.out⟩, HTO.out⟩
end Go.Proofs.YtnnjjbkdjkjnpaaGreatDoor
/- seisinlaw21.awake. -/
namespace Go.Proofs.YtnnjjbkdjkjnpaaGreatDoor
open Go.RowKit Go.Sort
set_option linter.unusedVariables false
/-- A digest whose first byte is x, and its value in the laws' words. -/
def idx (x : Nat) : List UInt8 := UInt8.ofNat x :: List.replicate 31 0
theorem idx_len (x : Nat) : (idx x).length = 32 := by simp [idx]
end Go.Proofs.YtnnjjbkdjkjnpaaGreatDoor

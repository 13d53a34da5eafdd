/- The contracts of spend.input and spend.Inputs. -/
import Derived.Test.YtnnjjbkdjkjnpaaGreatDoorSpendOnceT26
import Derived.Test.YtnnjjbkdjkjnpaaGreatDoorSpendOnceT23
import Derived.Test.YtnnjjbkdjkjnpaaGreatDoorSpendOnceT21
import Derived.Test.YtnnjjbkdjkjnpaaGreatDoorSpendOnceT11
import Derived.Test.YtnnjjbkdjkjnpaaGreatDoorSpendOnceT24
import Derived.Test.YtnnjjbkdjkjnpaaGreatDoorSpendOnceT13
import Derived.Test.YtnnjjbkdjkjnpaaGreatDoorSpendOnceT6
import Derived.Test.YtnnjjbkdjkjnpaaGreatDoorSpendOnceT2
import Derived.Test.YtnnjjbkdjkjnpaaGreatDoorSpendOnceT12
set_option linter.unusedSimpArgs false
/- The contracts of spend.input and spend.Inputs. -/
namespace Go.Proofs.YtnnjjbkdjkjnpaaGreatDoor
open Go.RowKit Go.Shelf
set_option linter.unusedVariables false
theorem inputE_eq (X : CoinsL) (Y : LocksL) (i : Inp) : inputE X Y i = if (lookL Y i.pt).isSome = true then 14 else if (lookC X i.pt).isSome = false then 13 else if decide (((lookC X i.pt).getD noCoin).1 = ownerB i.secret) = false then 10 else if ((lookC X i.pt).getD noCoin).2 ≠ i.amount then 15 else 0 := by
  unfold inputE
  cases lookC X i.pt with
  | none => simp
  | some c => simp
theorem RelC.coinOK {X L : CoinsL} {s : Int} (h : RelC X L s) (p : PtK) : CoinOK ((lookC X p).getD noCoin) := by
  cases hl : lookC X p with
  | none => exact noCoin_ok
  | some x =>
    obtain ⟨e, he, rfl⟩ := Option.map_eq_some_iff.1 (show (X.find? (fun e => e.1 == p)).map (·.2) = some x from hl)
    exact (h.okX e (List.mem_of_find?_eq_some he)).2
theorem RelK.lockOK {X L : LocksL} {s : Int} (h : RelK X L s) (p : PtK) : LockOK ((lookL X p).getD noLock) := by
  cases hl : lookL X p with
  | none => exact noLock_ok
  | some x =>
    obtain ⟨e, he, rfl⟩ := Option.map_eq_some_iff.1 (show (X.find? (fun e => e.1 == p)).map (·.2) = some x from hl)
    exact (h.okX e (List.mem_of_find?_eq_some he)).2
theorem coin_own {c : CoinV} {j : Nat} {u : Value} (hu : (c.1.map B)[j]? = some u) : (coinV c)[j]? = some u := by
  unfold coinV; rw [List.getElem?_append_left (List.getElem?_eq_some_iff.1 hu).1]; exact hu
theorem coin_amt {c : CoinV} (h : CoinOK c) : (coinV c)[32]? = some (.int .u64 c.2) := by
  unfold coinV; rw [List.getElem?_append_right (by rw [List.length_map, h.1]; exact Nat.le_refl _)]; simp [h.1]
set_option maxRecDepth 100000 in
set_option maxHeartbeats 4000000 in
theorem input_any {v : Value} {i : Inp} {X L : CoinsL} {Y K : LocksL} {s s2 : Int} {g b g2 b2 : Nat} (w : World) (hi : InOK w w.heap.size (v, i)) (hsl : i.secret.length ≤ 100000) (hc : CoinsAt w g b L s) (hrc : RelC X L s) (hk : LocksAt w g2 b2 K s2) (hrk : RelK Y K s2) (ht : Tabs w) :
    Calls Tryz.prog 43 #[.agg (inV v i).toArray, .pointer (some ⟨g, 0, none⟩), .pointer (some ⟨g2, 0, none⟩)] w fun e w' => e = .returned (.int .i64 (inputE X Y i)) ∧ Grow w w' := by
  have HE := Lib.hid (inputE_eq X Y i)
  have HPO := Lib.hid (in_ok hi.2)
  have HCG := Lib.hid (fun w' (k : Grow w w') => show Calls Tryz.prog 77 #[.pointer (some ⟨g, 0, none⟩), ptA i.pt] w' fun e w'' => e = .returned (.tuple #[coinA ((lookC X i.pt).getD noCoin), .bool (lookC X i.pt).isSome]) ∧ Grow w' w'' by
    rw [hrc.look]; exact get_any g b L s i.pt w' (hc.call k) HPO.out)
  have HKG := Lib.hid (fun w' (k : Grow w w') => show Calls Tryz.prog 44 #[.pointer (some ⟨g2, 0, none⟩), ptA i.pt] w' fun e w'' => e = .returned (.tuple #[.agg (((lookL Y i.pt).getD noLock).2.map B).toArray, coinA ((lookL Y i.pt).getD noLock).1, .bool (lookL Y i.pt).isSome]) ∧ Grow w' w'' by
    rw [hrk.look]; exact kget_any g2 b2 K s2 i.pt w' (hk.call k) HPO.out)
  have HCO := Lib.hid (hrc.coinOK i.pt)
  have HLO := Lib.hid (hrk.lockOK i.pt)
  have HTT := Lib.hid (fun w' (k : Grow w w') => ht.grow k)
  obtain ⟨⟨As, cs, hvs, hcs, hss⟩, hio⟩ := hi
  have HSS := Lib.hid (fun w' (k : Grow w w') => Sl.grow hss k)
  have HCS := Lib.hid hcs
  simp only at hvs hcs hss
  subst hvs
  have HIN := Lib.hid (in_at (v := .slice As i.secret.length cs) hio)
  have HXC := Lib.hid (show Cl 35 (inV (.slice As i.secret.length cs) i) from inV_cl (w := w) (Bd := w.heap.size) (p := (.slice As i.secret.length cs, i)) ⟨⟨As, cs, rfl, hcs, hss⟩, hio⟩)
  have HPT := Lib.hid (fun j u (hu : (ptV i.pt)[j]? = some u) => in_pt (.slice As i.secret.length cs) i hu)
  have HPC := Lib.hid (ptV_cl HPO.out)
  clear hc hrc hk hrk ht hcs hss hio
  obtain ⟨co, hco⟩ : ∃ c, c = (lookC X i.pt).getD noCoin := ⟨_, rfl⟩
  obtain ⟨lo, hlo⟩ : ∃ c, c = (lookL Y i.pt).getD noLock := ⟨_, rfl⟩
  obtain ⟨il, hil⟩ : ∃ c, c = (lookC X i.pt).isSome := ⟨_, rfl⟩
  obtain ⟨lk, hlk⟩ : ∃ c, c = (lookL Y i.pt).isSome := ⟨_, rfl⟩
  obtain ⟨res, hres⟩ : ∃ c, c = inputE X Y i := ⟨_, rfl⟩
  rw [← hco] at HCO HE HCG
  rw [← hlo] at HLO HKG
  rw [← hil] at HE HCG
  rw [← hlk] at HE HKG
  rw [← hres] at HE ⊢
  have HZC := Lib.hid (coinV_cl HCO.out); have HLC := Lib.hid (coinV_cl HLO.out.1); have HIC := Lib.hid (show Cl 32 (lo.2.map B) from ⟨by rw [List.length_map]; exact HLO.out.2, all_bytes _⟩)
  have HZA := Lib.hid (coin_amt HCO.out)
  have HZO := Lib.hid (fun j u (hu : (co.1.map B)[j]? = some u) => coin_own (c := co) hu)
  have HOD := Lib.hid (show Dig (co.1.map B) co.1 from ⟨rfl, HCO.out.1⟩)
  have HWD := Lib.hid (show Dig ((ownerB i.secret).map B) (ownerB i.secret) from ⟨rfl, sha_length _⟩)
  have HSM := Lib.hid (fun w' => same_any co.1 (ownerB i.secret) w' HCO.out.1 (sha_length _))
  unfold ptA at HCG HKG
  unfold coinA at HCG HKG
  obtain ⟨sm, hsm⟩ : ∃ c, c = decide (co.1 = ownerB i.secret) := ⟨_, rfl⟩
  rw [← hsm] at HE HSM
  obtain ⟨zs, hzs⟩ : ∃ c, c = (ownerB i.secret).map B := ⟨_, rfl⟩
  rw [← hzs] at HWD HSM
  obtain ⟨ys, hys⟩ : ∃ c, c = co.1.map B := ⟨_, rfl⟩
  rw [← hys] at HZO HSM HOD
  obtain ⟨cv, hcv⟩ : ∃ c, c = coinV co := ⟨_, rfl⟩
  rw [← hcv] at HZO HZA HZC HCG
  obtain ⟨lv, hlv⟩ : ∃ c, c = coinV lo.1 := ⟨_, rfl⟩
  rw [← hlv] at HLC HKG
  obtain ⟨lw, hlw⟩ : ∃ c, c = lo.2.map B := ⟨_, rfl⟩
  rw [← hlw] at HIC HKG
  obtain ⟨es, hes⟩ : ∃ c, c = ptV i.pt := ⟨_, rfl⟩
  rw [← hes] at HPT HPC HCG HKG
  obtain ⟨xs, hxs⟩ : ∃ c, c = inV (.slice As i.secret.length cs) i := ⟨_, rfl⟩
  rw [← hxs] at HPT HXC HIN ⊢
  obtain ⟨ca, hca⟩ : ∃ c, c = co.2 := ⟨_, rfl⟩
  rw [← hca] at HZA HE
  obtain ⟨ia, hia⟩ : ∃ c, c = i.amount := ⟨_, rfl⟩
  rw [← hia] at HIN HE
  obtain ⟨w_, hw⟩ : ∃ x, x = w := ⟨_, rfl⟩
  have HB := Lib.hid (show Below w.heap.size w w_ by rw [hw]; exact Below.refl _ _)
  suffices H : Calls Tryz.prog 43 #[.agg xs.toArray, .pointer (some ⟨g, 0, none⟩), .pointer (some ⟨g2, 0, none⟩)] w_ (fun e w' => e = .returned (.int .i64 res) ∧ Grow w w') by rw [hw] at H; exact H
  clear hw hco hlo hil hlk hres hsm hzs hys hcv hlv hlw hes hxs hca hia
  go_enter Tryz.func43, Tryz.ntmps43
  go_wp2_with (first | (with_reducible refine wpl_box (o := ⟨some 3, _, _, _, _, _⟩) rfl rfl rfl ?_))
  intro w2_ hb2_ hb_ hsz2_
  have HX_ := Lib.hid (at_mk hb2_ HXC.out.len)
  clear hb2_ hsz2_
  have HG_ := Lib.hid HB.out.size
  have HB_ := Lib.hid (HB.out.grow' hb_)
  clear HB
  have HB := HB_
  clear HB_
  generalize hg_ : w_.heap.size = g3 at HX_ HG_ ⊢
  clear hg_
  have HI_g := HG_
  clear HG_
  have HI := HX_
  clear hb_ HX_
  try clear w_
  rename World => w_
  have HM_ := Lib.hid (show ∀ j u, es[j]? = some u → w_.cell? ⟨g3, 0 + j, none⟩ = some u from fun j u hu => by rw [Nat.zero_add]; exact HI.out.blk.at_ (HPT.out j u hu))
  go_wp2_with (first | (with_reducible refine wpl_loadm (o := ⟨some 15, _, _, _, _, _⟩) rfl rfl row_point HM_.out rfl HPC.out.len ?_))
  refine (HKG.out w_ HB.out).mono ?_
  clear HM_
  rintro e w_ ⟨rfl, hb_⟩
  have HB_ := Lib.hid (HB.out.grow' hb_)
  clear HB
  have HB := HB_
  clear HB_
  have HI_ := Lib.hid (HI.out.grow hb_)
  clear HI
  have HI := HI_
  clear HI_
  clear hb_
  go_wp2_with (first | (with_reducible refine wpl_alloc (o := ⟨some 7, _, _, _, _, _⟩) rfl rfl zero_id ?_))
  intro w2_ hb2_ hb_ hsz2_
  have HX_ := Lib.hid (at_mk hb2_ len_id)
  clear hb2_ hsz2_
  have HG_ := Lib.hid HB.out.size
  have H7_HI := Lib.hid (Nat.ne_of_lt HI.out.lt)
  have HB_ := Lib.hid (HB.out.grow' hb_)
  clear HB
  have HB := HB_
  clear HB_
  have HI_ := Lib.hid (HI.out.grow hb_)
  clear HI
  have HI := HI_
  clear HI_
  generalize hg_ : w_.heap.size = g7 at HX_ HG_ H7_HI ⊢
  clear hg_
  have H7_g := HG_
  clear HG_
  have H7 := HX_
  clear hb_ HX_
  try clear w_
  rename World => w_
  go_wp2_with (first | (with_reducible refine wpl_alloc (o := ⟨some 8, _, _, _, _, _⟩) rfl rfl zero_coin ?_))
  intro w2_ hb2_ hb_ hsz2_
  have HX_ := Lib.hid (at_mk hb2_ len_coin)
  clear hb2_ hsz2_
  have HG_ := Lib.hid HB.out.size
  have H8_HI := Lib.hid (Nat.ne_of_lt HI.out.lt)
  have H8_H7 := Lib.hid (Nat.ne_of_lt H7.out.lt)
  have HB_ := Lib.hid (HB.out.grow' hb_)
  clear HB
  have HB := HB_
  clear HB_
  have HI_ := Lib.hid (HI.out.grow hb_)
  clear HI
  have HI := HI_
  clear HI_
  have H7_ := Lib.hid (H7.out.grow hb_)
  clear H7
  have H7 := H7_
  clear H7_
  generalize hg_ : w_.heap.size = g8 at HX_ HG_ H8_HI H8_H7 ⊢
  clear hg_
  have H8_g := HG_
  clear HG_
  have H8 := HX_
  clear hb_ HX_
  try clear w_
  rename World => w_
  have HN7 := Lib.hid (H8_H7.out.symm)
  go_wp2_with (first | (with_reducible refine wpl_storeb (o := ⟨none, .store _ _ _, _, _, _, _⟩) rfl rfl row_id H7.out.blk rfl rfl H7.out.len HIC.out.len HIC.out.one ?_))
  intro w2_ hb2_ hg2_ hsz2_
  have HB_ := Lib.hid (put_below HB.out H7_g.out hg2_)
  have HX_ := Lib.hid (at_mk hb2_ HIC.out.len)
  have HI_ := Lib.hid (At.off HI.out hg2_ H7_HI.out)
  have H8_ := Lib.hid (At.off H8.out hg2_ HN7.out)
  clear hb2_ hg2_ hsz2_ HB H7 HI H8
  have HB := HB_; have H7 := HX_
  have HI := HI_
  have H8 := H8_
  clear HB_ HX_ HI_ H8_
  try clear w_
  rename World => w_
  go_wp2_with (first | (with_reducible refine wpl_storeb (o := ⟨none, .store _ _ _, _, _, _, _⟩) rfl rfl row_coin H8.out.blk rfl rfl H8.out.len HLC.out.len HLC.out.one ?_))
  intro w2_ hb2_ hg2_ hsz2_
  have HB_ := Lib.hid (put_below HB.out H8_g.out hg2_)
  have HX_ := Lib.hid (at_mk hb2_ HLC.out.len)
  have HI_ := Lib.hid (At.off HI.out hg2_ H8_HI.out)
  clear hb2_ hg2_ hsz2_ HB H8 HI
  have HB := HB_; have H8 := HX_
  have HI := HI_
  clear HB_ HX_ HI_
  try clear w_
  rename World => w_
  clear H8
  cases lk with
  | true =>
    go_wp2_with fail
    go_ret
    exact ⟨by rw [HE.out]; rfl, HB.out⟩
  | false =>
    have HM_ := Lib.hid (show ∀ j u, es[j]? = some u → w_.cell? ⟨g3, 0 + j, none⟩ = some u from fun j u hu => by rw [Nat.zero_add]; exact HI.out.blk.at_ (HPT.out j u hu))
    go_wp2_with (first | (with_reducible refine wpl_loadm (o := ⟨some 24, _, _, _, _, _⟩) rfl rfl row_point HM_.out rfl HPC.out.len ?_))
    refine (HCG.out w_ HB.out).mono ?_
    clear HM_
    rintro e w_ ⟨rfl, hb_⟩
    have HB_ := Lib.hid (HB.out.grow' hb_)
    clear HB
    have HB := HB_
    clear HB_
    have HI_ := Lib.hid (HI.out.grow hb_)
    clear HI
    have HI := HI_
    clear HI_
    clear hb_
    go_wp2_with (first | (with_reducible refine wpl_alloc (o := ⟨some 10, _, _, _, _, _⟩) rfl rfl zero_coin ?_))
    intro w1_ hb1_ hbw1_ hsz1_
    have HB1_ := Lib.hid (at_mk hb1_ len_coin)
    have HBW1_ := Lib.hid hbw1_
    have HZ1_ := Lib.hid hsz1_
    clear hb1_ hbw1_ hsz1_
    go_wp2_with (first | (with_reducible refine wpl_storeb (o := ⟨none, .store _ _ _, _, _, _, _⟩) rfl rfl row_coin HB1_.out.blk rfl rfl HB1_.out.len HZC.out.len HZC.out.one ?_))
    intro w2_ hb2_ hg2_ hsz2_
    have hb_ := var_grow HBW1_.out HZ1_.out hg2_
    have HX_ := Lib.hid (at_mk hb2_ HZC.out.len)
    clear hb2_ hg2_ hsz2_ HB1_ HBW1_ HZ1_
    have HB_ := Lib.hid (HB.out.grow' hb_)
    clear HB
    have HB := HB_
    clear HB_
    have HI_ := Lib.hid (HI.out.grow hb_)
    clear HI
    have HI := HI_
    clear HI_
    generalize hg_ : w_.heap.size = gW at HX_ ⊢
    clear hg_
    have HW := HX_
    clear hb_ HX_
    clear w1_
    try clear w_
    rename World => w_
    cases il with
    | false =>
      go_wp2_with fail
      go_ret
      exact ⟨by rw [HE.out]; rfl, HB.out⟩
    | true =>
      try go_wp2_with fail
      repeat' (first | (with_reducible refine wp_plan (id := 7) Grow [0,1,0,2,4,3,0,0] (.get 0 (.get 1 (.get 2 (.get 3 (.act 4 (.act 5 (.get 6 (.get 7 .done)))))))) (by kernel_rfl) (by kernel_rfl) Grow.refl Grow.trans ?_) | go_values | go_skip | go_guarded | go_step | go_upon | go_back)
      intro w_ hd_
      have hb_ := hd_.grow
      have HB_ := Lib.hid (HB.out.grow' hb_)
      clear HB
      have HB := HB_
      clear HB_
      have HI_ := Lib.hid (HI.out.grow hb_)
      clear HI
      have HI := HI_
      clear HI_
      have HW_ := Lib.hid (HW.out.grow hb_)
      clear HW
      have HW := HW_
      clear HW_
      clear hb_ hd_
      have HM1 := Lib.hid (show ∀ j u, ys[j]? = some u → w_.cell? ⟨gW, 0 + j, none⟩ = some u from fun j u hu => by rw [Nat.zero_add]; exact HW.out.blk.at_ (HZO.out j u hu))
      have HGW := Lib.hid HW.out.lt
      have c34 := HI.out.blk.at_ HIN.out.2.2
      repeat (first | (refine pl_calm rfl rfl (by first | exact wanted_none rfl | (go_simp; done) | rfl) (fun w_ => by first | (go_simp; rfl) | (go_simp; done) | rfl) (fun K hK => ?_); go_simp; refine hK _ _ ?_; clear hK K) | (refine pl_skip rfl (by first | (go_simp; done) | rfl) (fun K hK => ?_); go_simp; refine hK _ _ ?_; clear hK K) | (refine pl_skipa rfl (by first | (go_simp; done) | rfl) (fun K hK => ?_); go_simp; refine hK _ _ ?_; clear hK K))
      refine pl_loadm rfl (by decide) (by exact wanted_none rfl) rfl row_id HM1.out HGW.out (by first | rfl | (go_simp; done) | rfl) HOD.out.len (fun K hK => ?_)
      go_simp
      refine hK _ _ ?_
      clear hK K
      repeat (first | (refine pl_calm rfl rfl (by first | exact wanted_none rfl | (go_simp; done) | rfl) (fun w_ => by first | (go_simp; rfl) | (go_simp; done) | rfl) (fun K hK => ?_); go_simp; refine hK _ _ ?_; clear hK K) | (refine pl_skip rfl (by first | (go_simp; done) | rfl) (fun K hK => ?_); go_simp; refine hK _ _ ?_; clear hK K) | (refine pl_skipa rfl (by first | (go_simp; done) | rfl) (fun K hK => ?_); go_simp; refine hK _ _ ?_; clear hK K) | (refine pl_load rfl rfl (by first | exact wanted_none rfl | (go_simp; done) | rfl) rfl (by first | rfl | (go_simp; rfl)) (by kernel_rfl) (by first | exact c34) (fun K hK => ?_); go_simp; refine hK _ _ ?_; clear hK K) | (refine pl_loadnow rfl rfl (by first | exact wanted_none rfl | (go_simp; done) | rfl) rfl (by first | rfl | (go_simp; rfl)) (by kernel_rfl) (by first | exact c34) (fun K hK => ?_); go_simp; refine hK _ _ ?_; clear hK K))
      clear c34 HM1 HGW
      refine pl_act rfl (by first | exact wanted_none rfl | (go_simp; done) | rfl) (fun K hK => ?_)
      go_wp2_with fail
      refine (towner_any HWD.out _ (HSS.out _ HB.out) HCS.out hsl (HTT.out _ HB.out)).mono ?_
      rintro e w_ ⟨rfl, hb_⟩
      go_wp2_with fail
      refine hK _ _ (fun _ => hb_) ?_
      clear hK K
      have HB_ := Lib.hid (HB.out.grow' hb_)
      clear HB
      have HB := HB_
      clear HB_
      have HI_ := Lib.hid (HI.out.grow hb_)
      clear HI
      have HI := HI_
      clear HI_
      have HW_ := Lib.hid (HW.out.grow hb_)
      clear HW
      have HW := HW_
      clear HW_
      clear hb_
      refine pl_act rfl (by first | exact wanted_none rfl | (go_simp; done) | rfl) (fun K hK => ?_)
      go_wp2_with fail
      refine (HSM.out _).mono ?_
      rintro e w_ ⟨rfl, hb_⟩
      go_wp2_with fail
      refine hK _ _ (fun _ => hb_) ?_
      clear hK K
      have HB_ := Lib.hid (HB.out.grow' hb_)
      clear HB
      have HB := HB_
      clear HB_
      have HI_ := Lib.hid (HI.out.grow hb_)
      clear HI
      have HI := HI_
      clear HI_
      have HW_ := Lib.hid (HW.out.grow hb_)
      clear HW
      have HW := HW_
      clear HW_
      clear hb_
      repeat (first | (refine pl_calm rfl rfl (by first | exact wanted_none rfl | (go_simp; done) | rfl) (fun w_ => by first | (go_simp; rfl) | (go_simp; done) | rfl) (fun K hK => ?_); go_simp; refine hK _ _ ?_; clear hK K) | (refine pl_skip rfl (by first | (go_simp; done) | rfl) (fun K hK => ?_); go_simp; refine hK _ _ ?_; clear hK K) | (refine pl_skipa rfl (by first | (go_simp; done) | rfl) (fun K hK => ?_); go_simp; refine hK _ _ ?_; clear hK K))
      refine pl_done ?_
      cases sm with
      | false =>
        go_wp2_with fail
        go_ret
        exact ⟨by rw [HE.out]; rfl, HB.out⟩
      | true =>
        have c32 := HW.out.blk.at_ HZA.out
        have c33 := HI.out.blk.at_ HIN.out.2.1
        by_cases hne : ca = ia
        · subst hne
          have z1 : (ca != ca) = false := by simp
          go_wp2_with fail
          go_ret
          exact ⟨by rw [HE.out]; simp, HB.out⟩
        · have z1 : (ca != ia) = true := by simpa using hne
          go_wp2_with fail
          go_ret
          exact ⟨by rw [HE.out]; simp [hne], HB.out⟩
end Go.Proofs.YtnnjjbkdjkjnpaaGreatDoor
/- The contract of spend.Inputs. -/
namespace Go.Proofs.YtnnjjbkdjkjnpaaGreatDoor
open Go.RowKit Go.Shelf
set_option linter.unusedVariables false
theorem sumsR_err {X : CoinsL} {Y : LocksL} {ins : List Inp} : ∀ (ks : List Nat) (s : Int), (sumsR X Y ins ks s).2 ≠ 0 → (sumsR X Y ins ks s).1 = 0
  | [], s, h => absurd rfl h
  | k :: r, s, h => by
    unfold sumsR at h ⊢
    split
    · rfl
    · rename_i i hi
      simp only [hi] at h
      split
      · rfl
      · rename_i hz
        rw [if_neg hz] at h
        exact sumsR_err r _ h
theorem inputs_err {X : CoinsL} {Y : LocksL} {t : Txn} {n me : Int} (h : (inputsR X Y t n me).2 ≠ 0) : (inputsR X Y t n me).1 = 0 := by
  unfold inputsR at h ⊢
  split
  · rfl
  · rename_i h1
    rw [if_neg h1] at h
    split
    · rfl
    · rename_i h2
      rw [if_neg h2] at h
      exact sumsR_err _ _ h
set_option maxRecDepth 100000 in
set_option maxHeartbeats 4000000 in
theorem inputs_any {tv : List Value} {t : Txn} (n me : Int) {X L : CoinsL} {Y K : LocksL} {s s2 : Int} {g b g2 b2 : Nat} (w : World) (h : TxAt w tv t) (hc : CoinsAt w g b L s) (hrc : RelC X L s) (hk : LocksAt w g2 b2 K s2) (hrk : RelK Y K s2) (ht : Tabs w) :
    Calls Tryz.prog 16 #[.agg tv.toArray, .int .i64 n, .int .i64 me, .pointer (some ⟨g, 0, none⟩), .pointer (some ⟨g2, 0, none⟩)] w fun e w' => e = .returned (.tuple #[.int .u64 (inputsR X Y t n me).1, .int .i64 (inputsR X Y t n me).2]) ∧ Grow w w' := by
  have HTC := Lib.hid h.cl
  have HCK := Lib.hid (fun w' (k : Grow w w') => (h.grow k).check)
  have HAT := Lib.hid (fun w' (k : Grow w w') => at_any n me w' (h.grow k) (ht.grow k))
  have HIP := Lib.hid (fun w' (k : Grow w w') (v : Value) (i : Inp) (hi : InOK w' w'.heap.size (v, i)) (hsl : i.secret.length ≤ 100000) => input_any w' hi hsl (hc.call k) hrc (hk.call k) hrk (ht.grow k))
  obtain ⟨A, c, l, hv0, hi, hl, hn⟩ := h.ins
  have HI := Lib.hid hi; have HL := Lib.hid hl; have HV0 := Lib.hid hv0
  obtain ⟨R, hR⟩ : ∃ R, R = inputsR X Y t n me := ⟨_, rfl⟩
  have HR := Lib.hid (show R = if checkT t ≠ 0 then (0, checkT t) else if hereI t n me = [] then (0, 11) else sumsR X Y t.ins (hereI t n me) 0 from hR)
  rw [← hR]
  have HKL := Lib.hid (fun k (hk : k ∈ hereI t n me) => hereI_lt hk)
  have hk16 := hereI_len t n me
  have HRT := Lib.hid (fun hck => right_of (t := t) hck)
  obtain ⟨ks, hks⟩ : ∃ q, q = hereI t n me := ⟨_, rfl⟩
  obtain ⟨ko, hko⟩ : ∃ q, q = hereO t n me := ⟨_, rfl⟩
  rw [← hks] at HKL HR HAT hk16
  rw [← hko] at HAT
  obtain ⟨w_, hw⟩ : ∃ x, x = w := ⟨_, rfl⟩
  have HB := Lib.hid (show Below w.heap.size w w_ by rw [hw]; exact Below.refl _ _)
  suffices H : Calls Tryz.prog 16 #[.agg tv.toArray, .int .i64 n, .int .i64 me, .pointer (some ⟨g, 0, none⟩), .pointer (some ⟨g2, 0, none⟩)] w_ (fun e w' => e = .returned (.tuple #[.int .u64 R.1, .int .i64 R.2]) ∧ Grow w w') by rw [hw] at H; exact H
  clear hw h hc hrc hk hrk ht hv0 hi hl hR hks hko
  go_enter Tryz.func16, Tryz.ntmps16
  go_wp2_with (first | (with_reducible refine wpl_box (o := ⟨some 5, _, _, _, _, _⟩) rfl rfl rfl ?_))
  intro w2_ hb2_ hb_ hsz2_
  have HX_ := Lib.hid (at_mk hb2_ HTC.out.len)
  clear hb2_ hsz2_
  have HG_ := Lib.hid HB.out.size
  have HB_ := Lib.hid (HB.out.grow' hb_)
  clear HB
  have HB := HB_
  clear HB_
  generalize hg_ : w_.heap.size = g1 at HX_ HG_ ⊢
  clear hg_
  have HX_g := HG_
  clear HG_
  have HX := HX_
  clear hb_ HX_
  try clear w_
  rename World => w_
  go_wp2_with (first | (with_reducible refine wpl_loadb (o := ⟨some 25, _, _, _, _, _⟩) rfl rfl row_tx HX.out.blk rfl HX.out.len ?_))
  refine (HCK.out _ HB.out).mono ?_
  rintro e w_ ⟨rfl, hb_⟩
  have HB_ := Lib.hid (HB.out.grow' hb_)
  clear HB
  have HB := HB_
  clear HB_
  have HX_ := Lib.hid (HX.out.grow hb_)
  clear HX
  have HX := HX_
  clear HX_
  clear hb_
  by_cases hck : checkT t = 0
  case neg =>
    have z1 : (checkT t != 0) = true := by simpa using hck
    have HE := Lib.hid (show R = (0, checkT t) by rw [HR.out, if_pos hck])
    go_wp2_with fail
    go_ret2
    exact ⟨by rw [HE.out]; rfl, HB.out⟩
  case pos =>
    have HR1 := Lib.hid (show R = if ks = [] then (0, 11) else sumsR X Y t.ins ks 0 by rw [HR.out, if_neg (fun h => h hck)])
    have HRR := Lib.hid (HRT.out hck)
    rw [hck]
    have z1 : ((0 : Int) != 0) = false := by decide
    clear HR hck HRT
    go_wp2_with (first | (with_reducible refine wpl_loadb (o := ⟨some 31, _, _, _, _, _⟩) rfl rfl row_tx HX.out.blk rfl HX.out.len ?_))
    refine (HAT.out _ HB.out).mono ?_
    rintro e w2_ ⟨A3, c3, A4, c4, rfl, ha, _, hb_⟩
    have HK := Lib.hid (ha.less HB.out.size)
    replace HX := Lib.hid (HX.out.grow hb_); replace HB := Lib.hid (HB.out.grow' hb_)
    clear ha hb_
    try clear w_
    rename World => w_
    by_cases hk0 : ks = []
    case pos =>
      have HE := Lib.hid (show R = (0, 11) by rw [HR1.out, if_pos hk0])
      have z2 : ((ks.length : Int) == 0) = true := by rw [hk0]; rfl
      go_wp2_with fail
      go_ret2
      exact ⟨by rw [HE.out]; rfl, HB.out⟩
    case neg =>
      have HR2 := Lib.hid (show sumsR X Y t.ins ks 0 = R by rw [HR1.out, if_neg hk0])
      have z2 : ((ks.length : Int) == 0) = false := by
        have : ks.length ≠ 0 := fun h => hk0 (List.length_eq_zero_iff.1 h)
        simp; omega
      clear HR1 hk0
      go_wp2_with fail
      go_loopw [15, 42] (fun s15 iv wr => ∃ (k : Nat) (sm : Int), k ≤ ks.length ∧ iv = .int .i64 k ∧ s15 = .int .u64 sm ∧ Hid (At wr g1 27 4 tv ∧ NatsAt wr w.heap.size A3 ks ∧ Below w.heap.size w wr ∧ sumsR X Y t.ins (ks.drop k) sm = R)) (fun _ iv _ => ks.length - (intOf iv).toNat)
      case atStart => exact ⟨0, 0, Nat.zero_le _, rfl, rfl, Lib.hid ⟨HX.out, HK.out, HB.out, by rw [List.drop_zero]; exact HR2.out⟩⟩
      case round =>
        obtain ⟨k, sm, hk, rfl, rfl, hI⟩ := hrel
        clear HX HK HB HR2
        have HX := Lib.hid hI.out.1; have HK := Lib.hid hI.out.2.1; have HB := Lib.hid hI.out.2.2.1; have HS := Lib.hid hI.out.2.2.2
        clear hI
        rename World => w_
        by_cases hlt : k < ks.length
        · obtain ⟨b5, o5, j, rfl, hj, c5⟩ := HK.out.at_ hlt
          have hjl := HKL.out j (List.mem_of_getElem? hj)
          have HII := Lib.hid (HI.out.grow HB.out)
          obtain ⟨bi, oi, p, rfl, hp, hok, hcc⟩ := HII.out.at_ hjl
          have hp2 : t.ins[j]? = some p.2 := by rw [← HL.out, List.getElem?_map, hp]; rfl
          have HST := Lib.hid (show R = if inputE X Y p.2 ≠ 0 then (0, inputE X Y p.2) else sumsR X Y t.ins (ks.drop (k + 1)) (w64 (sm + p.2.amount)) by rw [← HS.out]; exact sumsR_step hj hp2)
          have HC := Lib.hid hcc
          have HPC := Lib.hid (inV_cl hok)
          have HP33 := Lib.hid (in_at (v := p.1) hok.2).2.1
          have HIQ := Lib.hid (HIP.out w_ HB.out p.1 p.2 hok (by have := (HRR.out.2.2.2 p.2 (List.mem_of_getElem? hp2)).1; omega))
          obtain ⟨pv, hpv⟩ : ∃ q, q = inV p.1 p.2 := ⟨_, rfl⟩
          rw [← hpv] at HC HPC HP33 HIQ
          obtain ⟨am, ham⟩ : ∃ q, q = p.2.amount := ⟨_, rfl⟩
          rw [← ham] at HP33 HST
          obtain ⟨er, her⟩ : ∃ q, q = inputE X Y p.2 := ⟨_, rfl⟩
          rw [← her] at HIQ HST
          have HMC := Lib.hid (fun w' (hb : Grow w_ w') => show w'.cell? ⟨bi, oi + j * 35 + 33, none⟩ = some (.int .u64 am) from bcell hb (HC.out 33 _ HP33.out))
          have c0 := HX.out.blk.at_ HV0.out
          have q1 : ((j : Int) < (t.ins.length : Int)) := by omega
          clear hj hp hok hcc hp2 hpv ham her HII HS
          go_wp2_with (first | (with_reducible refine wpl_loadm (o := ⟨some 50, _, _, _, _, _⟩) rfl rfl row_tin HC.out rfl HPC.out.len ?_))
          refine HIQ.out.mono ?_
          rintro e w2_ ⟨rfl, hb_⟩
          have c33 := HMC.out _ hb_
          replace HX := Lib.hid (HX.out.grow hb_); replace HK := Lib.hid (HK.out.grow hb_); replace HB := Lib.hid (HB.out.grow' hb_)
          clear hb_ HIQ HC HMC c0 c5
          try clear w_
          rename World => w_
          have c0 := HX.out.blk.at_ HV0.out
          by_cases h0 : er = 0
          · have HST2 := Lib.hid (show sumsR X Y t.ins (ks.drop (k + 1)) (w64 (sm + am)) = R by rw [HST.out, if_neg (fun h => h h0)])
            subst h0
            have z3 : ((0 : Int) != 0) = false := by decide
            clear HST
            go_wp2_with fail
            go_roundw
            case rel => exact ⟨k + 1, w64 (sm + am), by omega, by go_num, rfl, Lib.hid ⟨HX.out, HK.out, HB.out, HST2.out⟩⟩
            case measure => simp [intOf]; omega
          · have z3 : (er != 0) = true := by simpa using h0
            have HE := Lib.hid (show R = (0, er) by rw [HST.out, if_pos h0])
            go_wp2_with fail
            go_ret2
            exact ⟨by rw [HE.out]; rfl, HB.out⟩
        · obtain rfl : k = ks.length := by omega
          have HE := Lib.hid (show R = (sm, 0) by rw [← HS.out, List.drop_length]; rfl)
          go_wp2_with fail
          go_ret2
          exact ⟨by rw [HE.out]; rfl, HB.out⟩
end Go.Proofs.YtnnjjbkdjkjnpaaGreatDoor
/- Bytes that are put together: small laws. -/
namespace Go.Proofs.YtnnjjbkdjkjnpaaGreatDoor
open Go.RowKit
set_option linter.unusedVariables false
end Go.Proofs.YtnnjjbkdjkjnpaaGreatDoor
/- The document's locks: Bytes. Printed by mkrld.py. -/
namespace Go.Proofs.YtnnjjbkdjkjnpaaGreatDoor
open Go.RowKit
set_option linter.unusedVariables false
end Go.Proofs.YtnnjjbkdjkjnpaaGreatDoor
/- Which blocks a pen leaves alone: those below it, and two ranges of later ones. No program in sight. -/
namespace Go.Proofs.YtnnjjbkdjkjnpaaGreatDoor
open Go.RowKit
end Go.Proofs.YtnnjjbkdjkjnpaaGreatDoor

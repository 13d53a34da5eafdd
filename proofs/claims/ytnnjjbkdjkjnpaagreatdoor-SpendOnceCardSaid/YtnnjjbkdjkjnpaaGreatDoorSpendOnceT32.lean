/- The contract of spend.Mint. Printed by mkmint.py. -/
import Derived.Test.YtnnjjbkdjkjnpaaGreatDoorSpendOnceT31
import Derived.Test.YtnnjjbkdjkjnpaaGreatDoorSpendOnceT18
import Derived.Test.YtnnjjbkdjkjnpaaGreatDoorSpendOnceT4
import Derived.Test.YtnnjjbkdjkjnpaaGreatDoorChecked
set_option linter.unusedSimpArgs false
/- The contract of spend.Mint. Printed by mkmint.py. -/
namespace Go.Proofs.YtnnjjbkdjkjnpaaGreatDoor
open Go.RowKit Go.Shelf
set_option linter.unusedVariables false
theorem row_coins8 : RowT Tryz.prog 90 2 := ⟨_, Tryz.underlying90, by kernel_rfl, by kernel_rfl⟩
theorem coins_cl (b : Nat) (s : Int) : Cl 2 [Value.map (some b), .int .u64 s] := ⟨rfl, fun u hu => by simp only [List.mem_cons, List.not_mem_nil, or_false] at hu; rcases hu with rfl | rfl <;> rfl⟩
theorem CoinsAt.moved {w w' : World} {g g3 b3 : Nat} {L : CoinsL} {s : Int} (h : CoinsAt w g3 b3 L s) (hb : Blk w' g 90 [.map (some b3), .int .u64 s]) (hg : w.grownBy w' (some g)) (hne : g ≠ b3) : CoinsAt w' g b3 L s := by
  obtain ⟨q1, ⟨es, clock, q2, q3, q4⟩, q5, q6⟩ := h
  exact ⟨hb, ⟨es, clock, (hg.block b3 (Array.getElem?_eq_some_iff.1 q2).1 (by simpa using hne.symm)).trans q2, q3, q4⟩, q5, hne⟩
theorem out_coin {o : Outp} (h : o.ok) : CoinOK (o.owner, o.amount) := ⟨h.1, h.2.1, h.2.2⟩
set_option maxRecDepth 100000 in
set_option maxHeartbeats 8000000 in
theorem mint_any {tv : List Value} {t : Txn} (n me : Int) {X L : CoinsL} {s : Int} {g b : Nat} (w : World) (h : TxAt w tv t) (ht : Tabs w) (hc : CoinsAt w g b L s) (hrc : RelC X L s) :
    Calls Tryz.prog 13 #[.agg tv.toArray, .int .i64 n, .int .i64 me, .pointer (some ⟨g, 0, none⟩)] w fun e w' => e = .returned (.tuple #[.int .u64 (mintR X t n me).2.1, .int .i64 (mintR X t n me).2.2]) ∧ (∃ b' L' s', CoinsAt w' g b' L' s' ∧ RelC (mintR X t n me).1 L' s' ∧ (b' = b ∨ w.heap.size ≤ b')) ∧ Touched [g] w w' := by
  have HTC := Lib.hid h.cl
  have HCK := Lib.hid (fun w' (k : Grow w w') => (h.grow k).check)
  have HAT := Lib.hid (fun w' (k : Grow w w') => at_any n me w' (h.grow k) (ht.grow k))
  have HID := Lib.hid (fun w' (k : Grow w w') => (h.grow k).id (tid_dig t) (ht.grow k))
  have HZ := Lib.hid (tid_dig t)
  have HZP := Lib.hid (fun j : Nat => show (tidB t).map B ++ [Value.int .i64 (j : Int)] = ptV (tidB t, (j : Int)) from rfl)
  have HCP := Lib.hid (fun w' (k : Grow w w') => ccopy_any g b L s w' (hc.call k))
  have HCN := Lib.hid hc; have HRC := Lib.hid hrc
  have HGL := Lib.hid (show g < w.heap.size ∧ b < w.heap.size from ⟨hc.ltg, hc.ltb⟩)
  obtain ⟨A, c, hv1, ho, hn⟩ := h.outs
  have HO := Lib.hid ho; have HV1 := Lib.hid hv1
  have HRT := Lib.hid (fun hck => right_of (t := t) hck)
  have HTL := Lib.hid (fun hck => tid_len (t := t) hck)
  have HKL := Lib.hid (fun k (hk : k ∈ hereO t n me) => hereO_lt hk)
  have hk16 := hereO_len t n me
  obtain ⟨M3, hM3⟩ : ∃ q, q = mintR X t n me := ⟨_, rfl⟩
  have HMR := Lib.hid (show M3 = if checkT t ≠ 0 then (X, 0, checkT t) else if hereO t n me = [] then (X, 0, 11) else if (mintsR (tidB t) t.outs (hereO t n me) X 0).2.2 ≠ 0 then (X, 0, (mintsR (tidB t) t.outs (hereO t n me) X 0).2.2) else mintsR (tidB t) t.outs (hereO t n me) X 0 from hM3)
  rw [← hM3]
  obtain ⟨ki, hki⟩ : ∃ q, q = hereI t n me := ⟨_, rfl⟩
  obtain ⟨ks, hks⟩ : ∃ q, q = hereO t n me := ⟨_, rfl⟩
  rw [← hks] at HKL HAT hk16 HMR
  rw [← hki] at HAT
  obtain ⟨zs, hzs⟩ : ∃ z, z = (tidB t).map B := ⟨_, rfl⟩
  rw [← hzs] at HZ HID HZP
  obtain ⟨w_, hw⟩ : ∃ x, x = w := ⟨_, rfl⟩
  have HB := Lib.hid (show Below w.heap.size w w_ by rw [hw]; exact Below.refl _ _)
  suffices H : Calls Tryz.prog 13 #[.agg tv.toArray, .int .i64 n, .int .i64 me, .pointer (some ⟨g, 0, none⟩)] w_ (fun e w' => e = .returned (.tuple #[.int .u64 M3.2.1, .int .i64 M3.2.2]) ∧ (∃ b' L' s', CoinsAt w' g b' L' s' ∧ RelC M3.1 L' s' ∧ (b' = b ∨ w.heap.size ≤ b')) ∧ Touched [g] w w') by rw [hw] at H; exact H
  clear hw h hc hrc ht hv1 ho hM3 hks hki hzs
  have HNO := Lib.hid (fun w' (k : Grow w w') (er : Int) (hm : M3 = (X, 0, er)) => show (∃ b' L' s', CoinsAt w' g b' L' s' ∧ RelC M3.1 L' s' ∧ (b' = b ∨ w.heap.size ≤ b')) ∧ Touched [g] w w' from ⟨⟨b, L, s, HCN.out.call k, by rw [hm]; exact HRC.out, .inl rfl⟩, Touched.of_below k⟩)
  go_enter Tryz.func13, Tryz.ntmps13
  go_wp2_with (first | (with_reducible refine wpl_box (o := ⟨some 4, _, _, _, _, _⟩) rfl rfl rfl ?_))
  intro w2_ hb2_ hb_ hsz2_
  have HX_ := Lib.hid (at_mk hb2_ HTC.out.len)
  clear hb2_ hsz2_
  have HG_ := Lib.hid HB.out.size
  have HB_ := Lib.hid (HB.out.grow' hb_)
  clear HB
  have HB := HB_
  clear HB_
  generalize hg_ : w_.heap.size = g1 at HX_ HG_ ⊢
  clear hg_
  have HX_g := HG_
  clear HG_
  have HX := HX_
  clear hb_ HX_
  try clear w_
  rename World => w_
  go_wp2_with (first | (with_reducible refine wpl_loadb (o := ⟨some 22, _, _, _, _, _⟩) rfl rfl row_tx HX.out.blk rfl HX.out.len ?_))
  refine (HCK.out _ HB.out).mono ?_
  rintro e w_ ⟨rfl, hb_⟩
  have HB_ := Lib.hid (HB.out.grow' hb_)
  clear HB
  have HB := HB_
  clear HB_
  have HX_ := Lib.hid (HX.out.grow hb_)
  clear HX
  have HX := HX_
  clear HX_
  clear hb_
  by_cases hck : checkT t = 0
  case neg =>
    have z1 : (checkT t != 0) = true := by simpa using hck
    have HE := Lib.hid (show M3 = (X, 0, checkT t) by rw [HMR.out, if_pos hck])
    go_wp2_with fail
    go_ret2
    exact ⟨by rw [HE.out]; rfl, HNO.out _ HB.out _ HE.out⟩
  case pos =>
    have HMR1 := Lib.hid (show M3 = if ks = [] then (X, 0, 11) else if (mintsR (tidB t) t.outs ks X 0).2.2 ≠ 0 then (X, 0, (mintsR (tidB t) t.outs ks X 0).2.2) else mintsR (tidB t) t.outs ks X 0 by rw [HMR.out, if_neg (fun h => h hck)])
    have HRR := Lib.hid (HRT.out hck); have HTL1 := Lib.hid (HTL.out hck)
    rw [hck]
    have z1 : ((0 : Int) != 0) = false := by decide
    clear HMR hck HRT HTL
    go_wp2_with (first | (with_reducible refine wpl_loadb (o := ⟨some 28, _, _, _, _, _⟩) rfl rfl row_tx HX.out.blk rfl HX.out.len ?_))
    refine (HAT.out _ HB.out).mono ?_
    rintro e w2_ ⟨A3, c3, A4, c4, rfl, _, ha, hb_⟩
    have HK := Lib.hid (ha.less HB.out.size)
    replace HX := Lib.hid (HX.out.grow hb_); replace HB := Lib.hid (HB.out.grow' hb_)
    clear ha hb_
    try clear w_
    rename World => w_
    by_cases hk0 : ks = []
    case pos =>
      have HE := Lib.hid (show M3 = (X, 0, 11) by rw [HMR1.out, if_pos hk0])
      have z2 : ((ks.length : Int) == 0) = true := by rw [hk0]; rfl
      go_wp2_with fail
      go_ret2
      exact ⟨by rw [HE.out]; rfl, HNO.out _ HB.out _ HE.out⟩
    case neg =>
      have HMR2 := Lib.hid (show M3 = if (mintsR (tidB t) t.outs ks X 0).2.2 ≠ 0 then (X, 0, (mintsR (tidB t) t.outs ks X 0).2.2) else mintsR (tidB t) t.outs ks X 0 by rw [HMR1.out, if_neg hk0])
      have z2 : ((ks.length : Int) == 0) = false := by
        have : ks.length ≠ 0 := fun h => hk0 (List.length_eq_zero_iff.1 h)
        simp; omega
      clear HMR1 hk0
      go_upto_region 9 with fail
      go_cut [13, 14, 15] from 37 to 40 (fun s13 s14 s15 wr => ∃ g3 b3 gI, s13 = .pointer (some ⟨g3, 0, none⟩) ∧ s14 = .pointer (some ⟨gI, 0, none⟩) ∧ s15 = .int .u64 0 ∧ Hid (w.heap.size ≤ g3 ∧ w.heap.size ≤ b3 ∧ w.heap.size ≤ gI) ∧ Hid (CoinsAt wr g3 b3 L s ∧ At wr gI 46 32 zs ∧ At wr g1 27 4 tv ∧ NatsAt wr w.heap.size A4 ks ∧ Below w.heap.size w wr))
      case first =>
        try go_wp2_with fail
        repeat' (first | (with_reducible refine wp_plan (id := 9) Grow [0,4,1,3,4,0,3,0] (.get 0 (.get 2 (.fork 1 (.fork 3 (.act 4 (.get 5 (.act 6 (.get 7 .done)))) (.act 4 (.act 3 (.get 5 (.act 6 (.get 7 .done)))))) (.act 4 (.act 1 (.act 3 (.get 5 (.act 6 (.get 7 .done))))))))) (by kernel_rfl) (by kernel_rfl) Grow.refl Grow.trans ?_) | go_values | go_skip | go_guarded | go_step | go_upon | go_back)
        intro w_ hd_
        have hb_ := hd_.grow
        have HB_ := Lib.hid (HB.out.grow' hb_)
        clear HB
        have HB := HB_
        clear HB_
        have HX_ := Lib.hid (HX.out.grow hb_)
        clear HX
        have HX := HX_
        clear HX_
        have HK_ := Lib.hid (HK.out.grow hb_)
        clear HK
        have HK := HK_
        clear HK_
        clear hb_ hd_
        repeat (first | (refine pl_loadb rfl rfl (by first | exact wanted_none rfl | (go_simp; done) | rfl) rfl row_tx HX.out.blk (by first | rfl | (go_simp; done) | rfl) HX.out.len (fun K hK => ?_); go_simp; refine hK _ _ ?_; clear hK K) | (refine pl_loadbnow rfl rfl (by first | exact wanted_none rfl | (go_simp; done) | rfl) rfl row_tx HX.out.blk (by first | rfl | (go_simp; done) | rfl) HX.out.len (fun K hK => ?_); go_simp; refine hK _ _ ?_; clear hK K) | (refine pl_calm rfl rfl (by first | exact wanted_none rfl | (go_simp; done) | rfl) (fun w_ => by first | (go_simp; rfl) | (go_simp; done) | rfl) (fun K hK => ?_); go_simp; refine hK _ _ ?_; clear hK K) | (refine pl_skip rfl (by first | (go_simp; done) | rfl) (fun K hK => ?_); go_simp; refine hK _ _ ?_; clear hK K) | (refine pl_skipa rfl (by first | (go_simp; done) | rfl) (fun K hK => ?_); go_simp; refine hK _ _ ?_; clear hK K))
        refine pl_fork rfl (by first | exact wanted_none rfl | (go_simp; done) | rfl) (fun K hK => ?_) ?_
        · skip
          go_wp2_with fail
          refine (HCP.out _ HB.out).mono ?_
          rintro e w2_ ⟨g3, b3, rfl, hc_, hg3_, hb3_, hb_⟩
          have HC3 := Lib.hid hc_; have HG3 := Lib.hid (show w.heap.size ≤ g3 ∧ w.heap.size ≤ b3 by have := HB.out.size; omega)
          go_wp2_with fail
          refine hK _ _ (fun _ => hb_) ?_
          clear hK K hc_ hg3_ hb3_
          replace HB := Lib.hid (HB.out.grow' hb_)
          replace HX := Lib.hid (HX.out.grow hb_)
          replace HK := Lib.hid (HK.out.grow hb_)
          clear hb_
          try clear w_
          rename World => w_
          repeat (first | (refine pl_calm rfl rfl (by first | exact wanted_none rfl | (go_simp; done) | rfl) (fun w_ => by first | (go_simp; rfl) | (go_simp; done) | rfl) (fun K hK => ?_); go_simp; refine hK _ _ ?_; clear hK K) | (refine pl_skip rfl (by first | (go_simp; done) | rfl) (fun K hK => ?_); go_simp; refine hK _ _ ?_; clear hK K) | (refine pl_skipa rfl (by first | (go_simp; done) | rfl) (fun K hK => ?_); go_simp; refine hK _ _ ?_; clear hK K))
          refine pl_fork rfl (by first | exact wanted_none rfl | (go_simp; done) | rfl) (fun K hK => ?_) ?_
          · skip
            go_wp2_with fail
            refine (HID.out _ HB.out).mono ?_
            rintro e w2_ ⟨rfl, hb_⟩
            go_wp2_with fail
            refine hK _ _ (fun h => by first | exact hb_ | cases h) ?_
            clear hK K
            replace HB := Lib.hid (HB.out.grow' hb_)
            replace HX := Lib.hid (HX.out.grow hb_)
            replace HK := Lib.hid (HK.out.grow hb_)
            replace HC3 := Lib.hid (HC3.out.grow hb_)
            clear hb_
            try clear w_
            rename World => w_
            repeat (first | (refine pl_calm rfl rfl (by first | exact wanted_none rfl | (go_simp; done) | rfl) (fun w_ => by first | (go_simp; rfl) | (go_simp; done) | rfl) (fun K hK => ?_); go_simp; refine hK _ _ ?_; clear hK K) | (refine pl_skip rfl (by first | (go_simp; done) | rfl) (fun K hK => ?_); go_simp; refine hK _ _ ?_; clear hK K) | (refine pl_skipa rfl (by first | (go_simp; done) | rfl) (fun K hK => ?_); go_simp; refine hK _ _ ?_; clear hK K))
            refine pl_act rfl (by first | exact wanted_none rfl | (go_simp; done) | rfl) (fun K hK => ?_)
            have HG := Lib.hid HB.out.size
            show wpList _ _ _ [⟨some _, .alloc _, _, _, _, _⟩] _ _
            go_wp2_with (first | (with_reducible refine wpl_alloc (o := ⟨some 14, _, _, _, _, _⟩) rfl rfl zero_id ?_))
            intro w2_ hb2_ hb_ hsz2_
            have HV := Lib.hid (at_mk hb2_ len_id)
            generalize hg_ : w_.heap.size = gI at HV HG ⊢
            go_wp2_with fail
            refine hK _ _ (fun _ => hb_) ?_
            clear hK K hb2_ hsz2_ hg_
            replace HB := Lib.hid (HB.out.grow' hb_)
            replace HX := Lib.hid (HX.out.grow hb_)
            replace HK := Lib.hid (HK.out.grow hb_)
            replace HC3 := Lib.hid (HC3.out.grow hb_)
            clear hb_
            try clear w_
            rename World => w_
            repeat (first | (refine pl_calm rfl rfl (by first | exact wanted_none rfl | (go_simp; done) | rfl) (fun w_ => by first | (go_simp; rfl) | (go_simp; done) | rfl) (fun K hK => ?_); go_simp; refine hK _ _ ?_; clear hK K) | (refine pl_skip rfl (by first | (go_simp; done) | rfl) (fun K hK => ?_); go_simp; refine hK _ _ ?_; clear hK K) | (refine pl_skipa rfl (by first | (go_simp; done) | rfl) (fun K hK => ?_); go_simp; refine hK _ _ ?_; clear hK K))
            have HNV := Lib.hid (show gI ∉ [g3, b3] from HV.out.ne_coins HC3.out (by decide))
            refine pl_act rfl (by first | exact wanted_none rfl | (go_simp; done) | rfl) (fun K hK => ?_)
            show wpList _ _ _ [⟨none, .store _ _ _, _, _, _, _⟩] _ _
            have HNX := Lib.hid (show g1 ≠ gI from fun e => by have h1 := HX.out.blk; have h2 := HV.out.blk; rw [e] at h1; unfold Blk at h1 h2; rw [h1] at h2; injection h2 with h2; injection h2 with _ h2; exact absurd h2 (by decide))
            have HNK := Lib.hid (show At w_ gI 46 32 ((List.replicate 32 (0 : UInt8)).map B) from HV.out)
            go_wp2_with (first | (with_reducible refine wpl_storeb (o := ⟨none, .store _ _ _, _, _, _, _⟩) rfl rfl row_id HV.out.blk rfl rfl HV.out.len HZ.out.len HZ.out.one ?_))
            intro w2_ hb2_ hg2_ hsz2_
            have HB_ := Lib.hid (put_below HB.out HG.out hg2_)
            have HV_ := Lib.hid (at_mk hb2_ HZ.out.len)
            have HX_ := Lib.hid (At.off HX.out hg2_ HNX.out)
            have HC_ := Lib.hid (HC3.out.grown hg2_ (fun e => HNV.out (by simp only [Option.some.injEq] at e; rw [← e]; simp)) (fun e => HNV.out (by simp only [Option.some.injEq] at e; rw [← e]; simp)))
            have HK_ := Lib.hid (HK.out.grownI hg2_ HNK.out)
            clear hb2_ hg2_ hsz2_ HB HV HX HC3 HK HNK
            go_wp2_with fail
            refine hK _ _ (fun h => by cases h) ?_
            clear hK K
            repeat (first | (refine pl_calm rfl rfl (by first | exact wanted_none rfl | (go_simp; done) | rfl) (fun w_ => by first | (go_simp; rfl) | (go_simp; done) | rfl) (fun K hK => ?_); go_simp; refine hK _ _ ?_; clear hK K) | (refine pl_skip rfl (by first | (go_simp; done) | rfl) (fun K hK => ?_); go_simp; refine hK _ _ ?_; clear hK K) | (refine pl_skipa rfl (by first | (go_simp; done) | rfl) (fun K hK => ?_); go_simp; refine hK _ _ ?_; clear hK K))
            refine pl_done ?_
            go_wp2_with fail
            go_meet
            case rel => exact ⟨g3, b3, gI, rfl, rfl, rfl, Lib.hid ⟨HG3.out.1, HG3.out.2, HG.out⟩, Lib.hid ⟨HC_.out, HV_.out, HX_.out, HK_.out, HB_.out⟩⟩
          · skip
            refine pl_act rfl (by first | exact wanted_none rfl | (go_simp; done) | rfl) (fun K hK => ?_)
            have HG := Lib.hid HB.out.size
            show wpList _ _ _ [⟨some _, .alloc _, _, _, _, _⟩] _ _
            go_wp2_with (first | (with_reducible refine wpl_alloc (o := ⟨some 14, _, _, _, _, _⟩) rfl rfl zero_id ?_))
            intro w2_ hb2_ hb_ hsz2_
            have HV := Lib.hid (at_mk hb2_ len_id)
            generalize hg_ : w_.heap.size = gI at HV HG ⊢
            go_wp2_with fail
            refine hK _ _ (fun _ => hb_) ?_
            clear hK K hb2_ hsz2_ hg_
            replace HB := Lib.hid (HB.out.grow' hb_)
            replace HX := Lib.hid (HX.out.grow hb_)
            replace HK := Lib.hid (HK.out.grow hb_)
            replace HC3 := Lib.hid (HC3.out.grow hb_)
            clear hb_
            try clear w_
            rename World => w_
            repeat (first | (refine pl_calm rfl rfl (by first | exact wanted_none rfl | (go_simp; done) | rfl) (fun w_ => by first | (go_simp; rfl) | (go_simp; done) | rfl) (fun K hK => ?_); go_simp; refine hK _ _ ?_; clear hK K) | (refine pl_skip rfl (by first | (go_simp; done) | rfl) (fun K hK => ?_); go_simp; refine hK _ _ ?_; clear hK K) | (refine pl_skipa rfl (by first | (go_simp; done) | rfl) (fun K hK => ?_); go_simp; refine hK _ _ ?_; clear hK K))
            refine pl_act rfl (by first | exact wanted_none rfl | (go_simp; done) | rfl) (fun K hK => ?_)
            go_wp2_with fail
            refine (HID.out _ HB.out).mono ?_
            rintro e w2_ ⟨rfl, hb_⟩
            go_wp2_with fail
            refine hK _ _ (fun h => by first | exact hb_ | cases h) ?_
            clear hK K
            replace HB := Lib.hid (HB.out.grow' hb_)
            replace HX := Lib.hid (HX.out.grow hb_)
            replace HK := Lib.hid (HK.out.grow hb_)
            replace HC3 := Lib.hid (HC3.out.grow hb_)
            replace HV := Lib.hid (HV.out.grow hb_)
            clear hb_
            try clear w_
            rename World => w_
            repeat (first | (refine pl_calm rfl rfl (by first | exact wanted_none rfl | (go_simp; done) | rfl) (fun w_ => by first | (go_simp; rfl) | (go_simp; done) | rfl) (fun K hK => ?_); go_simp; refine hK _ _ ?_; clear hK K) | (refine pl_skip rfl (by first | (go_simp; done) | rfl) (fun K hK => ?_); go_simp; refine hK _ _ ?_; clear hK K) | (refine pl_skipa rfl (by first | (go_simp; done) | rfl) (fun K hK => ?_); go_simp; refine hK _ _ ?_; clear hK K))
            have HNV := Lib.hid (show gI ∉ [g3, b3] from HV.out.ne_coins HC3.out (by decide))
            refine pl_act rfl (by first | exact wanted_none rfl | (go_simp; done) | rfl) (fun K hK => ?_)
            show wpList _ _ _ [⟨none, .store _ _ _, _, _, _, _⟩] _ _
            have HNX := Lib.hid (show g1 ≠ gI from fun e => by have h1 := HX.out.blk; have h2 := HV.out.blk; rw [e] at h1; unfold Blk at h1 h2; rw [h1] at h2; injection h2 with h2; injection h2 with _ h2; exact absurd h2 (by decide))
            have HNK := Lib.hid (show At w_ gI 46 32 ((List.replicate 32 (0 : UInt8)).map B) from HV.out)
            go_wp2_with (first | (with_reducible refine wpl_storeb (o := ⟨none, .store _ _ _, _, _, _, _⟩) rfl rfl row_id HV.out.blk rfl rfl HV.out.len HZ.out.len HZ.out.one ?_))
            intro w2_ hb2_ hg2_ hsz2_
            have HB_ := Lib.hid (put_below HB.out HG.out hg2_)
            have HV_ := Lib.hid (at_mk hb2_ HZ.out.len)
            have HX_ := Lib.hid (At.off HX.out hg2_ HNX.out)
            have HC_ := Lib.hid (HC3.out.grown hg2_ (fun e => HNV.out (by simp only [Option.some.injEq] at e; rw [← e]; simp)) (fun e => HNV.out (by simp only [Option.some.injEq] at e; rw [← e]; simp)))
            have HK_ := Lib.hid (HK.out.grownI hg2_ HNK.out)
            clear hb2_ hg2_ hsz2_ HB HV HX HC3 HK HNK
            go_wp2_with fail
            refine hK _ _ (fun h => by cases h) ?_
            clear hK K
            repeat (first | (refine pl_calm rfl rfl (by first | exact wanted_none rfl | (go_simp; done) | rfl) (fun w_ => by first | (go_simp; rfl) | (go_simp; done) | rfl) (fun K hK => ?_); go_simp; refine hK _ _ ?_; clear hK K) | (refine pl_skip rfl (by first | (go_simp; done) | rfl) (fun K hK => ?_); go_simp; refine hK _ _ ?_; clear hK K) | (refine pl_skipa rfl (by first | (go_simp; done) | rfl) (fun K hK => ?_); go_simp; refine hK _ _ ?_; clear hK K))
            refine pl_done ?_
            go_wp2_with fail
            go_meet
            case rel => exact ⟨g3, b3, gI, rfl, rfl, rfl, Lib.hid ⟨HG3.out.1, HG3.out.2, HG.out⟩, Lib.hid ⟨HC_.out, HV_.out, HX_.out, HK_.out, HB_.out⟩⟩
        · skip
          refine pl_act rfl (by first | exact wanted_none rfl | (go_simp; done) | rfl) (fun K hK => ?_)
          have HG := Lib.hid HB.out.size
          show wpList _ _ _ [⟨some _, .alloc _, _, _, _, _⟩] _ _
          go_wp2_with (first | (with_reducible refine wpl_alloc (o := ⟨some 14, _, _, _, _, _⟩) rfl rfl zero_id ?_))
          intro w2_ hb2_ hb_ hsz2_
          have HV := Lib.hid (at_mk hb2_ len_id)
          generalize hg_ : w_.heap.size = gI at HV HG ⊢
          go_wp2_with fail
          refine hK _ _ (fun _ => hb_) ?_
          clear hK K hb2_ hsz2_ hg_
          replace HB := Lib.hid (HB.out.grow' hb_)
          replace HX := Lib.hid (HX.out.grow hb_)
          replace HK := Lib.hid (HK.out.grow hb_)
          clear hb_
          try clear w_
          rename World => w_
          repeat (first | (refine pl_calm rfl rfl (by first | exact wanted_none rfl | (go_simp; done) | rfl) (fun w_ => by first | (go_simp; rfl) | (go_simp; done) | rfl) (fun K hK => ?_); go_simp; refine hK _ _ ?_; clear hK K) | (refine pl_skip rfl (by first | (go_simp; done) | rfl) (fun K hK => ?_); go_simp; refine hK _ _ ?_; clear hK K) | (refine pl_skipa rfl (by first | (go_simp; done) | rfl) (fun K hK => ?_); go_simp; refine hK _ _ ?_; clear hK K))
          refine pl_act rfl (by first | exact wanted_none rfl | (go_simp; done) | rfl) (fun K hK => ?_)
          go_wp2_with fail
          refine (HCP.out _ HB.out).mono ?_
          rintro e w2_ ⟨g3, b3, rfl, hc_, hg3_, hb3_, hb_⟩
          have HC3 := Lib.hid hc_; have HG3 := Lib.hid (show w.heap.size ≤ g3 ∧ w.heap.size ≤ b3 by have := HB.out.size; omega)
          go_wp2_with fail
          refine hK _ _ (fun _ => hb_) ?_
          clear hK K hc_ hg3_ hb3_
          replace HB := Lib.hid (HB.out.grow' hb_)
          replace HX := Lib.hid (HX.out.grow hb_)
          replace HK := Lib.hid (HK.out.grow hb_)
          replace HV := Lib.hid (HV.out.grow hb_)
          clear hb_
          try clear w_
          rename World => w_
          repeat (first | (refine pl_calm rfl rfl (by first | exact wanted_none rfl | (go_simp; done) | rfl) (fun w_ => by first | (go_simp; rfl) | (go_simp; done) | rfl) (fun K hK => ?_); go_simp; refine hK _ _ ?_; clear hK K) | (refine pl_skip rfl (by first | (go_simp; done) | rfl) (fun K hK => ?_); go_simp; refine hK _ _ ?_; clear hK K) | (refine pl_skipa rfl (by first | (go_simp; done) | rfl) (fun K hK => ?_); go_simp; refine hK _ _ ?_; clear hK K))
          refine pl_act rfl (by first | exact wanted_none rfl | (go_simp; done) | rfl) (fun K hK => ?_)
          go_wp2_with fail
          refine (HID.out _ HB.out).mono ?_
          rintro e w2_ ⟨rfl, hb_⟩
          go_wp2_with fail
          refine hK _ _ (fun h => by first | exact hb_ | cases h) ?_
          clear hK K
          replace HB := Lib.hid (HB.out.grow' hb_)
          replace HX := Lib.hid (HX.out.grow hb_)
          replace HK := Lib.hid (HK.out.grow hb_)
          replace HV := Lib.hid (HV.out.grow hb_)
          replace HC3 := Lib.hid (HC3.out.grow hb_)
          clear hb_
          try clear w_
          rename World => w_
          repeat (first | (refine pl_calm rfl rfl (by first | exact wanted_none rfl | (go_simp; done) | rfl) (fun w_ => by first | (go_simp; rfl) | (go_simp; done) | rfl) (fun K hK => ?_); go_simp; refine hK _ _ ?_; clear hK K) | (refine pl_skip rfl (by first | (go_simp; done) | rfl) (fun K hK => ?_); go_simp; refine hK _ _ ?_; clear hK K) | (refine pl_skipa rfl (by first | (go_simp; done) | rfl) (fun K hK => ?_); go_simp; refine hK _ _ ?_; clear hK K))
          have HNV := Lib.hid (show gI ∉ [g3, b3] from HV.out.ne_coins HC3.out (by decide))
          refine pl_act rfl (by first | exact wanted_none rfl | (go_simp; done) | rfl) (fun K hK => ?_)
          show wpList _ _ _ [⟨none, .store _ _ _, _, _, _, _⟩] _ _
          have HNX := Lib.hid (show g1 ≠ gI from fun e => by have h1 := HX.out.blk; have h2 := HV.out.blk; rw [e] at h1; unfold Blk at h1 h2; rw [h1] at h2; injection h2 with h2; injection h2 with _ h2; exact absurd h2 (by decide))
          have HNK := Lib.hid (show At w_ gI 46 32 ((List.replicate 32 (0 : UInt8)).map B) from HV.out)
          go_wp2_with (first | (with_reducible refine wpl_storeb (o := ⟨none, .store _ _ _, _, _, _, _⟩) rfl rfl row_id HV.out.blk rfl rfl HV.out.len HZ.out.len HZ.out.one ?_))
          intro w2_ hb2_ hg2_ hsz2_
          have HB_ := Lib.hid (put_below HB.out HG.out hg2_)
          have HV_ := Lib.hid (at_mk hb2_ HZ.out.len)
          have HX_ := Lib.hid (At.off HX.out hg2_ HNX.out)
          have HC_ := Lib.hid (HC3.out.grown hg2_ (fun e => HNV.out (by simp only [Option.some.injEq] at e; rw [← e]; simp)) (fun e => HNV.out (by simp only [Option.some.injEq] at e; rw [← e]; simp)))
          have HK_ := Lib.hid (HK.out.grownI hg2_ HNK.out)
          clear hb2_ hg2_ hsz2_ HB HV HX HC3 HK HNK
          go_wp2_with fail
          refine hK _ _ (fun h => by cases h) ?_
          clear hK K
          repeat (first | (refine pl_calm rfl rfl (by first | exact wanted_none rfl | (go_simp; done) | rfl) (fun w_ => by first | (go_simp; rfl) | (go_simp; done) | rfl) (fun K hK => ?_); go_simp; refine hK _ _ ?_; clear hK K) | (refine pl_skip rfl (by first | (go_simp; done) | rfl) (fun K hK => ?_); go_simp; refine hK _ _ ?_; clear hK K) | (refine pl_skipa rfl (by first | (go_simp; done) | rfl) (fun K hK => ?_); go_simp; refine hK _ _ ?_; clear hK K))
          refine pl_done ?_
          go_wp2_with fail
          go_meet
          case rel => exact ⟨g3, b3, gI, rfl, rfl, rfl, Lib.hid ⟨HG3.out.1, HG3.out.2, HG.out⟩, Lib.hid ⟨HC_.out, HV_.out, HX_.out, HK_.out, HB_.out⟩⟩
      case rest =>
        obtain ⟨g3, b3, gI, rfl, rfl, rfl, hg_, hI⟩ := hcut
        clear HX HB HK
        obtain ⟨hc_, hv_, hx_, hk_, hb_⟩ := hI.out
        have HG3 := Lib.hid hg_.out
        obtain ⟨R, hR⟩ : ∃ q, q = mintsR (tidB t) t.outs ks X 0 := ⟨_, rfl⟩
        have HM := Lib.hid (show M3 = if R.2.2 ≠ 0 then (X, 0, R.2.2) else R by rw [hR]; exact HMR2.out)
        have HI0 := Lib.hid (show At wc g1 27 4 tv ∧ At wc gI 46 32 zs ∧ NatsAt wc w.heap.size A4 ks ∧ CoinsAt wc g3 b3 L s ∧ RelC X L s ∧ Below w.heap.size w wc ∧ mintsR (tidB t) t.outs (ks.drop 0) X 0 = R from ⟨hx_, hv_, hk_, hc_, HRC.out, hb_, by rw [List.drop_zero]; exact hR.symm⟩)
        clear hI hc_ hv_ hx_ hk_ hb_ hg_ hR HMR2 HAT HCP HID
        go_wp2_with fail
        go_loopw [15, 43] (fun s15 iv wr => ∃ (k : Nat) (sm : Int), k ≤ ks.length ∧ iv = .int .i64 k ∧ s15 = .int .u64 sm ∧ Hid (∃ Z M s', At wr g1 27 4 tv ∧ At wr gI 46 32 zs ∧ NatsAt wr w.heap.size A4 ks ∧ CoinsAt wr g3 b3 M s' ∧ RelC Z M s' ∧ Below w.heap.size w wr ∧ mintsR (tidB t) t.outs (ks.drop k) Z sm = R)) (fun _ iv _ => ks.length - (intOf iv).toNat)
        case atStart => exact ⟨0, 0, Nat.zero_le _, rfl, rfl, Lib.hid ⟨X, L, s, HI0.out⟩⟩
        case round =>
          obtain ⟨k, sm, hk, rfl, rfl, hI⟩ := hrel
          clear HI0
          obtain ⟨Z, M, s', hx_, hv_, hk_, hc_, hr_, hb_, hs_⟩ := hI.out
          have HX := Lib.hid hx_; have HI := Lib.hid hv_; have HK := Lib.hid hk_; have HC := Lib.hid hc_; have HR := Lib.hid hr_; have HB := Lib.hid hb_; have HS := Lib.hid hs_
          clear hI hx_ hv_ hk_ hc_ hr_ hb_ hs_
          rename World => w_
          by_cases hlt : k < ks.length
          · obtain ⟨b5, o5, j, rfl, hj, c5⟩ := HK.out.at_ hlt
            have hjl := HKL.out j (List.mem_of_getElem? hj)
            obtain ⟨bo, oo, o, rfl, hp, hok, hcc⟩ := (HO.out.grow HB.out).at_ hjl
            have HST := Lib.hid (show R = if (rputC Z (tidB t, (j : Int)) (o.owner, o.amount)).2 ≠ 0 then (Z, 0, (rputC Z (tidB t, (j : Int)) (o.owner, o.amount)).2) else mintsR (tidB t) t.outs (ks.drop (k + 1)) (rputC Z (tidB t, (j : Int)) (o.owner, o.amount)).1 (w64 (sm + o.amount)) by rw [← HS.out]; exact mintsR_step hj hp)
            have HPO := Lib.hid (show PtOK (tidB t, (j : Int)) from ⟨HTL1.out, by have := HRR.out.2.1; simp [Lit.wf, IntKind.min, IntKind.max, IntKind.signed, IntKind.bits]; omega⟩)
            have HCO := Lib.hid (out_coin hok)
            have HPU := Lib.hid (fun w' (h' : CoinsAt w' g3 b3 M s') => put_any g3 b3 M s' (tidB t, (j : Int)) (o.owner, o.amount) w' h' HPO.out HCO.out HR.out.nn HR.out.max)
            rw [HR.out.code _ _ HCO.out] at HST
            have HRP := Lib.hid (fun h0 => HR.out.put HPO.out HCO.out h0)
            unfold ptA coinA at HPU
            have HOC := Lib.hid (outV_cl hok)
            have HMC := Lib.hid hcc
            have BT := Lib.hid (show Tryz.prog.built 69 [(0, .agg zs.toArray), (1, .int .i64 (j : Int))] = some (ptV (tidB t, (j : Int))).toArray by rw [bt_pt8 HZ.out.len, HZP.out])
            have HOL := Lib.hid (show Cl 32 (o.owner.map B) from ⟨by rw [List.length_map]; exact hok.1, all_bytes _⟩)
            have BC := Lib.hid (show Tryz.prog.built 77 [(0, .agg (o.owner.map B).toArray), (1, .int .u64 o.amount)] = some (coinV (o.owner, o.amount)).toArray by rw [bt_coin8 HOL.out.len]; rfl)
            have HOO := Lib.hid (show ∀ i u, (o.owner.map B)[i]? = some u → (outV o)[i]? = some u from fun i u hu => coin_own (c := (o.owner, o.amount)) hu)
            have HOA := Lib.hid (out_at hok)
            obtain ⟨pq, hpq⟩ : ∃ q, q = ((tidB t, (j : Int)) : PtK) := ⟨_, rfl⟩
            rw [← hpq] at HST HPU HRP BT
            obtain ⟨cq, hcq⟩ : ∃ q, q = ((o.owner, o.amount) : CoinV) := ⟨_, rfl⟩
            rw [← hcq] at HST HPU HRP BC
            obtain ⟨am, ham⟩ : ∃ q, q = o.amount := ⟨_, rfl⟩
            rw [← ham] at HST BC HOA
            obtain ⟨es, hes⟩ : ∃ q, q = ptV pq := ⟨_, rfl⟩
            rw [← hes] at HPU BT
            obtain ⟨cs, hcs⟩ : ∃ q, q = coinV cq := ⟨_, rfl⟩
            rw [← hcs] at HPU BC
            obtain ⟨ow, how⟩ : ∃ q, q = o.owner.map B := ⟨_, rfl⟩
            rw [← how] at BC HOO HOL
            obtain ⟨ov, hov⟩ : ∃ q, q = outV o := ⟨_, rfl⟩
            rw [← hov] at HMC HOC HOO HOA
            obtain ⟨er, her⟩ : ∃ q, q = putR M s' pq cq := ⟨_, rfl⟩
            rw [← her] at HST HPU HRP
            have c0 := HX.out.blk.at_ HV1.out
            have q1 : ((j : Int) < (t.outs.length : Int)) := by omega
            clear hj hp hok hcc HS HCO HPO hpq hcq ham hes hcs how hov her HR
            go_wp2_with (first | (with_reducible refine wpl_loadm (o := ⟨some 51, _, _, _, _, _⟩) rfl rfl row_tout HMC.out rfl HOC.out.len ?_) | (with_reducible refine wpl_alloc (o := ⟨some 18, _, _, _, _, _⟩) rfl rfl zero_tout ?_))
            intro w1_ hb1_ hbw1_ hsz1_
            have HB1_ := Lib.hid (at_mk hb1_ len_tout)
            have HBW1_ := Lib.hid hbw1_
            have HZ1_ := Lib.hid hsz1_
            clear hb1_ hbw1_ hsz1_
            go_wp2_with (first | (with_reducible refine wpl_storeb (o := ⟨none, .store _ _ _, _, _, _, _⟩) rfl rfl row_tout HB1_.out.blk rfl rfl HB1_.out.len HOC.out.len HOC.out.one ?_))
            intro w2_ hb2_ hg2_ hsz2_
            have hb_ := var_grow HBW1_.out HZ1_.out hg2_
            have HX_ := Lib.hid (at_mk hb2_ HOC.out.len)
            clear hb2_ hg2_ hsz2_ HB1_ HBW1_ HZ1_
            have HB_ := Lib.hid (HB.out.grow' hb_)
            clear HB
            have HB := HB_
            clear HB_
            have HX_ := Lib.hid (HX.out.grow hb_)
            clear HX
            have HX := HX_
            clear HX_
            have HI_ := Lib.hid (HI.out.grow hb_)
            clear HI
            have HI := HI_
            clear HI_
            have HK_ := Lib.hid (HK.out.grow hb_)
            clear HK
            have HK := HK_
            clear HK_
            have HC_ := Lib.hid (HC.out.grow hb_)
            clear HC
            have HC := HC_
            clear HC_
            generalize hg_ : w_.heap.size = gV at HX_ ⊢
            clear hg_
            have HV := HX_
            clear hb_ HX_
            clear w1_
            try clear w_
            rename World => w_
            clear c0 c5
            have HM1 := Lib.hid (show ∀ i u, ow[i]? = some u → w_.cell? ⟨gV, 0 + i, none⟩ = some u from fun i u hu => by rw [Nat.zero_add]; exact HV.out.blk.at_ (HOO.out i u hu))
            have c1 := HV.out.blk.at_ HOA.out
            go_wp2_with (first | (with_reducible refine wpl_loadb (o := ⟨some 53, _, _, _, _, _⟩) rfl rfl row_id HI.out.blk rfl HI.out.len ?_) | (with_reducible refine wpl_stop (o := ⟨some 55, _, _, _, _, _⟩) ?_))
            refine stop_go ?_
            refine wpl_build rfl rfl BT.out ?_
            go_wp2_with (first | (with_reducible refine wpl_loadm (o := ⟨some 57, _, _, _, _, _⟩) rfl rfl row_id HM1.out rfl HOL.out.len ?_) | (with_reducible refine wpl_stop (o := ⟨some 60, _, _, _, _, _⟩) ?_))
            refine stop_go ?_
            refine wpl_build rfl rfl BC.out ?_
            go_wp2_with fail
            refine Calls.mono (show Calls Tryz.prog 32 _ w_ _ from HPU.out w_ HC.out) ?_
            rintro e w2_ ⟨rfl, ht_, h1_, h2_⟩
            have HH1 := Lib.hid h1_
            have HNX := Lib.hid (HX.out.ne_coins HC.out (by decide)); have HNI := Lib.hid (HI.out.ne_coins HC.out (by decide)); have HNV := Lib.hid (HV.out.ne_coins HC.out (by decide))
            have HKT := Lib.hid (HK.out.touchC HC.out ht_)
            replace HX := Lib.hid (HX.out.touchd ht_ HNX.out); replace HI := Lib.hid (HI.out.touchd ht_ HNI.out); replace HV := Lib.hid (HV.out.touchd ht_ HNV.out)
            replace HB := Lib.hid (below_touch HB.out ht_ (fun x hx => by have := HG3.out; simp only [List.mem_cons, List.not_mem_nil, or_false] at hx; rcases hx with rfl | rfl; exact this.1; exact this.2.1))
            clear ht_ h1_ h2_ HNX HNI HNV HM1 c1 HPU HC HK HMC
            try clear w_
            rename World => w_
            have c1 := HV.out.blk.at_ HOA.out
            by_cases h0 : er = 0
            · have HST2 := Lib.hid (show mintsR (tidB t) t.outs (ks.drop (k + 1)) (rputC Z pq cq).1 (w64 (sm + am)) = R by rw [HST.out, if_neg (fun h => h h0)])
              have HC2 := Lib.hid (HH1.out h0); have HR2 := Lib.hid (HRP.out h0)
              subst h0
              have z3 : ((0 : Int) != 0) = false := by decide
              clear HST HH1 HRP
              go_wp2_with fail
              go_roundw
              case rel => exact ⟨k + 1, w64 (sm + am), by omega, by go_num, rfl, Lib.hid ⟨_, _, _, HX.out, HI.out, HKT.out, HC2.out, HR2.out, HB.out, HST2.out⟩⟩
              case measure => simp [intOf]; omega
            · have z3 : (er != 0) = true := by simpa using h0
              have HE := Lib.hid (show M3 = (X, 0, er) by rw [HM.out, HST.out, if_pos h0, if_pos h0])
              go_wp2_with fail
              go_ret2
              exact ⟨by rw [HE.out]; rfl, HNO.out _ HB.out _ HE.out⟩
          · obtain rfl : k = ks.length := by omega
            have HRE := Lib.hid (show R = (Z, sm, 0) by rw [← HS.out, List.drop_length]; rfl)
            have HE := Lib.hid (show M3 = (Z, sm, 0) by rw [HM.out, HRE.out]; rfl)
            have HCL := Lib.hid (coins_cl b3 s')
            have HCG := Lib.hid (show Blk w_ g 90 [.map (some b), .int .u64 s] from (HCN.out.call HB.out).blk)
            have HNG := Lib.hid (show g ≠ b3 by have := HGL.out; have := HG3.out; omega)
            go_wp2_with (first | (with_reducible refine wpl_loadb (o := ⟨some 73, _, _, _, _, _⟩) rfl rfl row_coins8 HC.out.blk rfl rfl ?_) | (with_reducible refine wpl_storeb (o := ⟨none, .store _ _ _, _, _, _, _⟩) rfl rfl row_coins8 HCG.out rfl rfl rfl HCL.out.len HCL.out.one ?_))
            intro w2_ hb2_ hg2_ hsz2_
            have HCF := Lib.hid (HC.out.moved hb2_ hg2_ HNG.out)
            have HTF := Lib.hid (show Touched [g] w w2_ from (Touched.of_below HB.out).grown hg2_ (.inl (by simp)))
            clear hb2_ hg2_ hsz2_
            go_wp2_with fail
            go_ret2
            exact ⟨by rw [HE.out]; rfl, ⟨b3, M, s', HCF.out, by rw [HE.out]; exact HR.out, .inr HG3.out.2.1⟩, HTF.out⟩
end Go.Proofs.YtnnjjbkdjkjnpaaGreatDoor
/- Arguments opened: outputs, coins, lists of acts of coins. -/
namespace Go.Proofs.YtnnjjbkdjkjnpaaGreatDoor
open Go.RowKit Go.ChangeShapes Go.WideShapes
set_option linter.unusedVariables false
set_option maxRecDepth 100000
theorem gotA {α : Type} {o : Option α} {xs : List α} {i : Nat} (h : o = xs[i]?) (hi : i < xs.length) : ∃ y, o = some y := ⟨_, h.trans (List.getElem?_eq_getElem hi)⟩
theorem cutA {xs : List Value} {o n : Nat} {l rest : List Value} (h : (xs.drop o).take n = l) (hr : xs.drop (o + n) = rest) : xs.drop o = l ++ rest := by
  rw [← List.take_append_drop n (xs.drop o), h, List.drop_drop, hr]
theorem fm_atA {α : Type} (f : α → List Value) (sz : Nat) : ∀ (l : List α) (k j : Nat) (x : α) (u : Value), (∀ y ∈ l, (f y).length = sz) → l[k]? = some x → (f x)[j]? = some u → (l.flatMap f)[k * sz + j]? = some u
  | [], k, j, x, u, _, hk, _ => by simp at hk
  | y :: l, 0, j, x, u, hl, hk, hu => by
    simp at hk; subst hk
    rw [List.flatMap_cons, Nat.zero_mul, Nat.zero_add, List.getElem?_append_left (List.getElem?_eq_some_iff.1 hu).1]; exact hu
  | y :: l, k + 1, j, x, u, hl, hk, hu => by
    have h1 := hl y (List.mem_cons_self ..)
    rw [List.flatMap_cons, List.getElem?_append_right (by rw [h1, Nat.add_mul]; omega), h1, show (k + 1) * sz + j - sz = k * sz + j by rw [Nat.add_mul]; omega]
    exact fm_atA f sz l k j x u (fun z hz => hl z (List.mem_cons_of_mem _ hz)) (by simpa using hk) hu
section
variable {H : Type} {enc : TypeId × Value → H} {w : World} {r : Reach} {b0 base : Nat} {spare : Nat → Bool} {held : Bool}
theorem trod_ptk {fuel : Nat} {cs : List Value} {y : DataW H × List MemPlace} (hl0 : cs.length = 33) (hf : DataW.trod enc Tryz.prog w base spare held fuel 69 cs = some y) : ∃ p : PtK, cs = ptV p ∧ PtOK p := by
  obtain ⟨xs, n, _, _, hl, hxs, hg⟩ := DataW.trod_struct Tryz.underlying69 hf
  replace hg := fun i f h => hg i f h
  have hxs5 : xs.length = 2 := hxs
  obtain ⟨y0, h0⟩ := gotA (hg 0 _ rfl) (by omega)
  obtain ⟨y1, h1⟩ := gotA (hg 1 _ rfl) (by omega)
  replace h0 : DataW.trod enc Tryz.prog w base spare held n 46 ((cs.drop 0).take (Tryz.prog.cellsOf 46)) = some y0 := h0
  replace h1 : DataW.trod enc Tryz.prog w base spare held n 3 ((cs.drop 32).take (Tryz.prog.cellsOf 3)) = some y1 := h1
  rw [cells_id] at h0
  rw [cells_int] at h1
  obtain ⟨d0, e0, l0⟩ := trod_bytes Tryz.underlying46 Tryz.underlying5 cells_u8 cells_id h0
  obtain ⟨z1, e1, _, w1⟩ := DataW.trod_int Tryz.underlying3 h1
  refine ⟨(d0, z1), ?_, l0, w1⟩
  have a2 : cs.drop 33 = [] := List.drop_of_length_le (by omega)
  have a1 := cutA e1 a2
  have a0 := cutA e0 a1
  rw [List.drop_zero] at a0
  rw [a0]; simp [ptV]
theorem trod_coinv {fuel : Nat} {cs : List Value} {y : DataW H × List MemPlace} (hl0 : cs.length = 33) (hf : DataW.trod enc Tryz.prog w base spare held fuel 77 cs = some y) : ∃ c : CoinV, cs = coinV c ∧ CoinOK c := by
  obtain ⟨xs, n, _, _, hl, hxs, hg⟩ := DataW.trod_struct Tryz.underlying77 hf
  replace hg := fun i f h => hg i f h
  have hxs5 : xs.length = 2 := hxs
  obtain ⟨y0, h0⟩ := gotA (hg 0 _ rfl) (by omega)
  obtain ⟨y1, h1⟩ := gotA (hg 1 _ rfl) (by omega)
  replace h0 : DataW.trod enc Tryz.prog w base spare held n 46 ((cs.drop 0).take (Tryz.prog.cellsOf 46)) = some y0 := h0
  replace h1 : DataW.trod enc Tryz.prog w base spare held n 25 ((cs.drop 32).take (Tryz.prog.cellsOf 25)) = some y1 := h1
  rw [cells_id] at h0
  rw [cells_u64] at h1
  obtain ⟨d0, e0, l0⟩ := trod_bytes Tryz.underlying46 Tryz.underlying5 cells_u8 cells_id h0
  obtain ⟨z1, e1, _, w1⟩ := DataW.trod_int Tryz.underlying25 h1
  refine ⟨(d0, z1), ?_, l0, by simpa [Lit.wf, IntKind.min, IntKind.max, IntKind.signed, IntKind.bits] using w1⟩
  have a2 : cs.drop 33 = [] := List.drop_of_length_le (by omega)
  have a1 := cutA e1 a2
  have a0 := cutA e0 a1
  rw [List.drop_zero] at a0
  rw [a0]; simp [coinV]
end
end Go.Proofs.YtnnjjbkdjkjnpaaGreatDoor
/- Lists of what may be held (point, digest, coin): in memory, and opened. -/
namespace Go.Proofs.YtnnjjbkdjkjnpaaGreatDoor
open Go.RowKit Go.ChangeShapes Go.WideShapes
set_option linter.unusedVariables false
set_option maxRecDepth 100000
abbrev HeldV := PtK × List UInt8 × CoinV
def heldV (a : HeldV) : List Value := ptV a.1 ++ (a.2.1.map B ++ coinV a.2.2)
def HeldOK (a : HeldV) : Prop := PtOK a.1 ∧ a.2.1.length = 32 ∧ CoinOK a.2.2
theorem heldV_len {a : HeldV} (h : HeldOK a) : (heldV a).length = 98 := by unfold heldV; rw [List.length_append, List.length_append, ptV_length h.1.1, List.length_map, h.2.1, coinV_length h.2.2]
theorem cells_held : Tryz.prog.cellsOf 85 = 98 := by kernel_rfl
theorem cells_coinh : Tryz.prog.cellsOf 77 = 33 := by kernel_rfl
def HeldsAt (w : World) (A : Option Addr) (n : Nat) (l : List HeldV) : Prop := l.length = n ∧ Sl w w.heap.size 98 A n (l.flatMap heldV) ∧ ∀ a ∈ l, HeldOK a
theorem HeldsAt.grow {w w' : World} {A : Option Addr} {n : Nat} {l : List HeldV} (h : HeldsAt w A n l) (k : Below w.heap.size w w') : HeldsAt w' A n l := ⟨h.1, (h.2.1.below k).more k.size, h.2.2⟩
theorem HeldsAt.nil (w : World) : HeldsAt w none 0 [] := ⟨rfl, Sl.nil, by simp⟩
theorem HeldsAt.at_ {w : World} {A : Option Addr} {n : Nat} {l : List HeldV} (h : HeldsAt w A n l) {k : Nat} (hk : k < n) : ∃ b off a, A = some ⟨b, off, none⟩ ∧ b < w.heap.size ∧ l[k]? = some a ∧ (∀ j u, (heldV a)[j]? = some u → w.cell? ⟨b, off + k * 98 + j, none⟩ = some u) ∧ HeldOK a := by
  obtain ⟨b, off, e, hb, hc⟩ := h.2.1.2 (by omega)
  have hl : k < l.length := by have := h.1; omega
  refine ⟨b, off, l[k], e, hb, List.getElem?_eq_getElem hl, fun j u hu => ?_, h.2.2 _ (List.getElem_mem hl)⟩
  rw [Nat.add_assoc]
  exact hc _ u (fm_atA heldV 98 l k j _ u (fun y hy => heldV_len (h.2.2 y hy)) (List.getElem?_eq_getElem hl) hu)
theorem heldV_pt {a : HeldV} {j : Nat} {u : Value} (hu : (ptV a.1)[j]? = some u) : (heldV a)[j]? = some u := by
  unfold heldV; rw [List.getElem?_append_left (List.getElem?_eq_some_iff.1 hu).1]; exact hu
theorem heldV_id {a : HeldV} (h : HeldOK a) {j : Nat} {u : Value} (hu : (a.2.1.map B)[j]? = some u) : (heldV a)[33 + j]? = some u := by
  have hl := ptV_length h.1.1
  unfold heldV; rw [List.getElem?_append_right (by omega), hl, show 33 + j - 33 = j by omega, List.getElem?_append_left (List.getElem?_eq_some_iff.1 hu).1]; exact hu
theorem heldV_coin {a : HeldV} (h : HeldOK a) {j : Nat} {u : Value} (hu : (coinV a.2.2)[j]? = some u) : (heldV a)[65 + j]? = some u := by
  have hl := ptV_length h.1.1
  have h3 : (a.2.1.map B).length = 32 := by rw [List.length_map, h.2.1]
  unfold heldV; rw [List.getElem?_append_right (by omega), hl, List.getElem?_append_right (by omega), h3, show 65 + j - 33 - 32 = j by omega]; exact hu
section
variable {H : Type} {enc : TypeId × Value → H} {w : World} {r : Reach} {b0 base : Nat} {spare : Nat → Bool} {held : Bool}
theorem trod_held {fuel : Nat} {cs : List Value} {y : DataW H × List MemPlace} (hl0 : cs.length = 98) (hf : DataW.trod enc Tryz.prog w base spare held fuel 85 cs = some y) : ∃ a : HeldV, cs = heldV a ∧ HeldOK a := by
  obtain ⟨xs, n, _, _, hl, hxs, hg⟩ := DataW.trod_struct Tryz.underlying85 hf
  replace hg := fun i f h => hg i f h
  have hxs5 : xs.length = 3 := hxs
  obtain ⟨y1, h1⟩ := gotA (hg 0 _ rfl) (by omega)
  obtain ⟨y2, h2⟩ := gotA (hg 1 _ rfl) (by omega)
  obtain ⟨y3, h3⟩ := gotA (hg 2 _ rfl) (by omega)
  replace h1 : DataW.trod enc Tryz.prog w base spare held n 69 ((cs.drop 0).take (Tryz.prog.cellsOf 69)) = some y1 := h1
  replace h2 : DataW.trod enc Tryz.prog w base spare held n 46 ((cs.drop 33).take (Tryz.prog.cellsOf 46)) = some y2 := h2
  replace h3 : DataW.trod enc Tryz.prog w base spare held n 77 ((cs.drop 65).take (Tryz.prog.cellsOf 77)) = some y3 := h3
  rw [cells_point] at h1
  rw [cells_id] at h2
  rw [cells_coinh] at h3
  obtain ⟨p, e1, hp⟩ := trod_ptk (by rw [List.length_take, List.length_drop, hl0]; rfl) h1
  obtain ⟨d2, e2, l2⟩ := trod_bytes Tryz.underlying46 Tryz.underlying5 cells_u8 cells_id h2
  obtain ⟨c, e3, hc⟩ := trod_coinv (by rw [List.length_take, List.length_drop, hl0]; rfl) h3
  refine ⟨(p, d2, c), ?_, hp, l2, hc⟩
  have a4 : cs.drop 98 = [] := List.drop_of_length_le (by omega)
  have a3 := cutA e3 a4
  have a2 := cutA e2 a3
  have a1 := cutA e1 a2
  rw [List.drop_zero] at a1
  rw [a1]; simp [heldV]
theorem open_held {v : Value} {d : DataW H} {ps : List MemPlace} (hval : Value.okWide Tryz.prog w r b0 22 v) (h : DataW.Trod enc Tryz.prog w base spare held 22 v d ps) :
    ∃ A n c, ∃ l : List HeldV, v = .slice A n c ∧ HeldsAt w A n l ∧ n ≤ 9223372036854775807 := by
  obtain ⟨A, n, c, l, h1, h2, h3, h4, h5, h6, _⟩ := open_list heldV HeldOK Tryz.underlying22 cells_held (show 0 < 98 by omega) (fun fuel cs y hl h => trod_held hl h) hval h
  exact ⟨A, n, c, l, h1, ⟨h2, h5, h6⟩, by unfold maxLen at h4; omega⟩
end
end Go.Proofs.YtnnjjbkdjkjnpaaGreatDoor
/- States that the laws begin with, in plain words. -/
namespace Go.Proofs.YtnnjjbkdjkjnpaaGreatDoor
open Go.RowKit Go.Maps Go.Sort Go.Shelf
set_option linter.unusedVariables false
def sttC (l : List HeldV) : CoinsL := l.foldl (fun X h => (rputC X h.1 h.2.2).1) []
def sttK (l : List HeldV) : LocksL := l.foldl (fun Y h => (rputK Y h.1 (h.2.2, h.2.1)).1) []
theorem sttC_snoc (l : List HeldV) (h : HeldV) : sttC (l ++ [h]) = (rputC (sttC l) h.1 h.2.2).1 := by unfold sttC; rw [List.foldl_append]; rfl
theorem sttK_snoc (l : List HeldV) (h : HeldV) : sttK (l ++ [h]) = (rputK (sttK l) h.1 (h.2.2, h.2.1)).1 := by unfold sttK; rw [List.foldl_append]; rfl
/-- Coins as a state has them. -/
def GoodC (X : CoinsL) : Prop := (∃ L s, RelC X L s) ∧ ∀ e ∈ X, e.2.2 ≠ 0
def GoodK (Y : LocksL) : Prop := (∃ L s, RelK Y L s) ∧ ∀ e ∈ Y, e.2.1.2 ≠ 0
theorem GoodC.nil : GoodC [] := ⟨⟨[], 0, RelC.nil⟩, by simp⟩
theorem GoodK.nil : GoodK [] := ⟨⟨[], 0, RelK.nil⟩, by simp⟩
theorem rputC_mem {X : CoinsL} {p : PtK} {c : CoinV} {e : PtK × CoinV} (h : e ∈ (rputC X p c).1) : e ∈ X ∨ (e = (p, c) ∧ c.2 ≠ 0) := by
  unfold rputC at h
  split at h
  · exact .inl h
  · rename_i hc
    split at h
    · exact .inl h
    · split at h
      · exact .inl h
      · split at h
        · exact .inl h
        · rcases List.mem_cons.1 ((insC_perm p c X).mem_iff.1 h) with h | h
          · exact .inr ⟨h, by omega⟩
          · exact .inl h
theorem rputK_mem {X : LocksL} {p : PtK} {c : LockV} {e : PtK × LockV} (h : e ∈ (rputK X p c).1) : e ∈ X ∨ (e = (p, c) ∧ c.1.2 ≠ 0) := by
  unfold rputK at h
  split at h
  · exact .inl h
  · rename_i hc
    split at h
    · exact .inl h
    · split at h
      · exact .inl h
      · split at h
        · exact .inl h
        · rcases List.mem_cons.1 ((insK_perm p c X).mem_iff.1 h) with h | h
          · exact .inr ⟨h, by omega⟩
          · exact .inl h
theorem GoodC.put {X : CoinsL} (h : GoodC X) {p : PtK} {c : CoinV} (hp : PtOK p) (hc : CoinOK c) : GoodC (rputC X p c).1 := by
  obtain ⟨⟨L, s, hr⟩, hz⟩ := h
  refine ⟨?_, fun e he => ?_⟩
  · by_cases h0 : putR L s p c = 0
    · exact ⟨_, _, hr.put hp hc h0⟩
    · exact ⟨L, s, by rw [rputC_same (by rw [hr.code p c hc]; exact h0)]; exact hr⟩
  · rcases rputC_mem he with h | ⟨rfl, h⟩
    · exact hz e h
    · exact h
theorem GoodK.put {X : LocksL} (h : GoodK X) {p : PtK} {c : LockV} (hp : PtOK p) (hc : LockOK c) : GoodK (rputK X p c).1 := by
  obtain ⟨⟨L, s, hr⟩, hz⟩ := h
  refine ⟨?_, fun e he => ?_⟩
  · by_cases h0 : putQ L s p c.1 = 0
    · exact ⟨_, _, hr.put hp hc h0⟩
    · exact ⟨L, s, by rw [rputK_same (by rw [hr.code p c hc]; exact h0)]; exact hr⟩
  · rcases rputK_mem he with h | ⟨rfl, h⟩
    · exact hz e h
    · exact h
theorem sttC_good : ∀ (l : List HeldV), (∀ a ∈ l, HeldOK a) → ∀ X, GoodC X → GoodC (l.foldl (fun X h => (rputC X h.1 h.2.2).1) X)
  | [], _, X, hX => hX
  | a :: l, h, X, hX => sttC_good l (fun x hx => h x (List.mem_cons_of_mem _ hx)) _ (hX.put (h a (List.mem_cons_self ..)).1 (h a (List.mem_cons_self ..)).2.2)
theorem sttK_good : ∀ (l : List HeldV), (∀ a ∈ l, HeldOK a) → ∀ X, GoodK X → GoodK (l.foldl (fun Y h => (rputK Y h.1 (h.2.2, h.2.1)).1) X)
  | [], _, X, hX => hX
  | a :: l, h, X, hX => sttK_good l (fun x hx => h x (List.mem_cons_of_mem _ hx)) _ (hX.put (h a (List.mem_cons_self ..)).1 ⟨(h a (List.mem_cons_self ..)).2.2, (h a (List.mem_cons_self ..)).2.1⟩)
theorem GoodC.self {X : CoinsL} (h : GoodC X) : RelC X X (amtC X) := by
  obtain ⟨⟨L, s, hr⟩, _⟩ := h
  refine ⟨.refl _, hr.sort, ⟨hr.okX, (hr.perm.map (·.1)).nodup_iff.2 hr.ok.2⟩, rfl, by rw [hr.amt]; exact hr.max, by rw [hr.lenX]; exact hr.len, hr.ixX⟩
theorem GoodK.self {X : LocksL} (h : GoodK X) : RelK X X (amtK X) := by
  obtain ⟨⟨L, s, hr⟩, _⟩ := h
  refine ⟨.refl _, hr.sort, ⟨hr.okX, (hr.perm.map (·.1)).nodup_iff.2 hr.ok.2⟩, rfl, by rw [hr.amt]; exact hr.max, by rw [hr.lenX]; exact hr.len, hr.ixX⟩
theorem amtC_ge {Y : CoinsL} (h : ∀ e ∈ Y, AtOKC e) {e : PtK × CoinV} (he : e ∈ Y) : e.2.2 ≤ amtC Y := by
  obtain ⟨P, Q, rfl⟩ := List.append_of_mem he
  have h1 := amtC_nn (l := P) (fun x hx => h x (by simp [hx])); have h2 := amtC_nn (l := Q) (fun x hx => h x (by simp [hx]))
  rw [amtC_app, show e :: Q = [e] ++ Q from rfl, amtC_app, amtC_one]; omega
theorem amtK_ge {Y : LocksL} (h : ∀ e ∈ Y, AtOKK e) {e : PtK × LockV} (he : e ∈ Y) : e.2.1.2 ≤ amtK Y := by
  obtain ⟨P, Q, rfl⟩ := List.append_of_mem he
  have h1 := amtK_nn (l := P) (fun x hx => h x (by simp [hx])); have h2 := amtK_nn (l := Q) (fun x hx => h x (by simp [hx]))
  rw [amtK_app, show e :: Q = [e] ++ Q from rfl, amtK_app, amtK_one]; omega
theorem take_le {X : CoinsL} (h : ∀ e ∈ X, AtOKC e) (k : Nat) : amtC (X.take k) ≤ amtC X := by
  have h1 := amtC_nn (l := X.drop k) (fun x hx => h x (List.mem_of_mem_drop hx))
  have h2 := amtC_app (X.take k) (X.drop k)
  rw [List.take_append_drop] at h2; omega
theorem takeK_le {X : LocksL} (h : ∀ e ∈ X, AtOKK e) (k : Nat) : amtK (X.take k) ≤ amtK X := by
  have h1 := amtK_nn (l := X.drop k) (fun x hx => h x (List.mem_of_mem_drop hx))
  have h2 := amtK_app (X.take k) (X.drop k)
  rw [List.take_append_drop] at h2; omega
theorem key_new {α β : Type} {X : List (α × β)} (hd : (X.map (·.1)).Nodup) {k : Nat} {e : α × β} (he : X[k]? = some e) : ∀ x ∈ X.take k, x.1 ≠ e.1 := by
  intro x hx hxe
  obtain ⟨j, hj⟩ := List.mem_iff_getElem?.1 hx
  have hjl := (List.getElem?_eq_some_iff.1 hj).1
  have hkk := (List.getElem?_eq_some_iff.1 he).1
  rw [List.length_take] at hjl
  have hj2 : X[j]? = some x := by rw [List.getElem?_take, if_pos (by omega)] at hj; exact hj
  have h1 : (X.map (·.1))[j]? = some e.1 := by rw [List.getElem?_map, hj2]; simp [hxe]
  have h2 : (X.map (·.1))[k]? = some e.1 := by rw [List.getElem?_map, he]; rfl
  have := (List.getElem?_inj (by rw [List.length_map]; omega) hd).1 (h1.trans h2.symm)
  omega
theorem madeC_step {X : CoinsL} (h : GoodC X) {k : Nat} {e : PtK × CoinV} (he : X[k]? = some e) :
    putR (X.take k) (amtC (X.take k)) e.1 e.2 = 0 ∧ (addE (amtC (X.take k)) e.2.2).1 = amtC (X.take (k + 1)) ∧ X.take k ++ [(e.1, e.2)] = X.take (k + 1) ∧ 0 ≤ amtC (X.take k) ∧ amtC (X.take k) ≤ 4611686018427387904 := by
  have hs := h.self
  have hm := List.mem_of_getElem? he
  have hix := hs.ix e hm
  have hz := h.2 e hm
  have hkk := (List.getElem?_eq_some_iff.1 he).1
  have hlen := hs.len
  have hlk : (lookC (X.take k) e.1).isSome = false := by rw [lookC_not (key_new hs.ok.2 he)]; rfl
  have hle := take_le hs.okX (k + 1)
  have hmx := hs.max
  have e1 : X.take (k + 1) = X.take k ++ [e] := take_snoc he
  have hamt : amtC (X.take (k + 1)) = amtC (X.take k) + e.2.2 := by rw [e1, amtC_app, amtC_one]
  have hge := amtC_ge hs.okX hm
  have hn := amtC_nn (l := X.take k) (fun x hx => hs.okX x (List.mem_of_mem_take hx))
  have hc := (hs.okX e hm).2.2
  have ha : (addE (amtC (X.take k)) e.2.2) = (amtC (X.take k) + e.2.2, 0) := by unfold addE; rw [if_pos (by omega)]
  refine ⟨?_, by rw [ha, hamt], by rw [e1], hn, by have := take_le hs.okX k; omega⟩
  unfold putR
  rw [if_neg (by omega), hlk, if_neg (by simp), if_neg (by rw [List.length_take]; omega), ha]
theorem madeK_step {X : LocksL} (h : GoodK X) {k : Nat} {e : PtK × LockV} (he : X[k]? = some e) :
    putQ (X.take k) (amtK (X.take k)) e.1 e.2.1 = 0 ∧ (addE (amtK (X.take k)) e.2.1.2).1 = amtK (X.take (k + 1)) ∧ X.take k ++ [(e.1, (e.2.1, e.2.2))] = X.take (k + 1) ∧ 0 ≤ amtK (X.take k) ∧ amtK (X.take k) ≤ 4611686018427387904 := by
  have hs := h.self
  have hm := List.mem_of_getElem? he
  have hix := hs.ix e hm
  have hz := h.2 e hm
  have hkk := (List.getElem?_eq_some_iff.1 he).1
  have hlen := hs.len
  have hlk : (lookL (X.take k) e.1).isSome = false := by rw [lookL_not (key_new hs.ok.2 he)]; rfl
  have hle := takeK_le hs.okX (k + 1)
  have hmx := hs.max
  have e1 : X.take (k + 1) = X.take k ++ [e] := take_snoc he
  have hamt : amtK (X.take (k + 1)) = amtK (X.take k) + e.2.1.2 := by rw [e1, amtK_app, amtK_one]
  have hge := amtK_ge hs.okX hm
  have hn := amtK_nn (l := X.take k) (fun x hx => hs.okX x (List.mem_of_mem_take hx))
  have hc := (hs.okX e hm).2.1.2
  have ha : (addE (amtK (X.take k)) e.2.1.2) = (amtK (X.take k) + e.2.1.2, 0) := by unfold addE; rw [if_pos (by omega)]
  refine ⟨?_, by rw [ha, hamt], by rw [e1], hn, by have := takeK_le hs.okX k; omega⟩
  unfold putQ
  rw [if_neg (by omega), hlk, if_neg (by simp), if_neg (by rw [List.length_take]; omega), ha]
end Go.Proofs.YtnnjjbkdjkjnpaaGreatDoor

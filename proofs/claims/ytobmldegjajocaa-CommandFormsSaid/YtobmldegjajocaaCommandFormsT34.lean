/- The contracts of seisinref24.noTx and Check. Printed by mkcmdd.py. -/
import Derived.Test.YtobmldegjajocaaCommandFormsT33
import Derived.Test.YtobmldegjajocaaCommandFormsT17
import Derived.Test.YtobmldegjajocaaCommandFormsT9
import Derived.Deep.CutRange
set_option linter.unusedSimpArgs false
/- The contracts of seisinref24.noTx and Check. Printed by mkcmdd.py. -/
namespace Go.Proofs.Ytobmldegjajocaa
open Go.RowKit Go.Shelf
set_option linter.unusedVariables false
theorem built_outQ : Try.prog.built 31 [] = some (outV noOutC).toArray := by kernel_rfl
theorem built_idQ : Try.prog.built 29 [] = some (zId.map B).toArray := by kernel_rfl
theorem noOutC_ok : noOutC.ok := ⟨by simp [noOutC, zId], by simp [noOutC, U64]⟩
theorem zId_len : zId.length = 32 := by simp [zId]
theorem beq_t {a b : Int} (h : a = b) : (a == b) = true := by simpa using h
theorem beq_f {a b : Int} (h : a ≠ b) : (a == b) = false := by simpa using h
theorem bne_t {a b : Int} (h : a ≠ b) : (a != b) = true := by simpa using h
theorem bne_f {a b : Int} (h : a = b) : (a != b) = false := by simpa using h
theorem lt_f {a b : Int} (h : ¬ a < b) : (a < b) = False := eq_false h
theorem lt_t {a b : Int} (h : a < b) : (a < b) = True := eq_true h
set_option maxRecDepth 100000 in
set_option maxHeartbeats 2000000 in
theorem rnotx_any {A : Option Addr} {n c : Nat} {A2 : Option Addr} {n2 c2 : Nat} (t : Txn) (w : World) (h1 : t.ins.length = n) (h2 : t.outs.length = n2) :
    Calls Try.prog 63 #[.agg (txV A n c A2 n2 c2 t.fee t.expiry).toArray] w fun e w' => e = .returned (.bool (noTxB t)) ∧ Grow w w' := by
  have HTC := Lib.hid (txV_cl (A := A) (n := n) (c := c) (A2 := A2) (n2 := n2) (c2 := c2) (fee := t.fee) (ex := t.expiry))
  have HT0 := Lib.hid (show (txV A n c A2 n2 c2 t.fee t.expiry)[0]? = some (.slice A n c) from rfl)
  have HT1 := Lib.hid (show (txV A n c A2 n2 c2 t.fee t.expiry)[1]? = some (.slice A2 n2 c2) from rfl)
  have HT2 := Lib.hid (show (txV A n c A2 n2 c2 t.fee t.expiry)[2]? = some (.int .u64 t.fee) from rfl)
  have HT3 := Lib.hid (show (txV A n c A2 n2 c2 t.fee t.expiry)[3]? = some (.int .i64 t.expiry) from rfl)
  obtain ⟨res, hres⟩ : ∃ r, r = noTxB t := ⟨_, rfl⟩
  rw [← hres]
  have HRES := Lib.hid (show res = (decide (n = 0) && decide (n2 = 0) && decide (t.fee = 0) && decide (t.expiry = 0)) by
    rw [hres]; unfold noTxB
    rw [← h1, ← h2]
    cases t.ins <;> cases t.outs <;> simp)
  obtain ⟨fee, hfee⟩ : ∃ z, z = t.fee := ⟨_, rfl⟩
  obtain ⟨ex, hex⟩ : ∃ z, z = t.expiry := ⟨_, rfl⟩
  rw [← hfee, ← hex] at HTC HT0 HT1 HT2 HT3 HRES ⊢
  obtain ⟨tv, htv⟩ : ∃ q, q = txV A n c A2 n2 c2 fee ex := ⟨_, rfl⟩
  rw [← htv] at HTC HT0 HT1 HT2 HT3 ⊢
  obtain ⟨w_, hw⟩ : ∃ x, x = w := ⟨_, rfl⟩
  have HB := Lib.hid (show Below w.heap.size w w_ by rw [hw]; exact Below.refl _ _)
  suffices H : Calls Try.prog 63 #[.agg tv.toArray] w_ fun e w' => e = .returned (.bool res) ∧ Grow w w' by rw [hw] at H; exact H
  clear hw h1 h2 hres hfee hex htv
  go_enter Try.func63, Try.ntmps63
  go_wp2_with (first | (with_reducible refine wpl_box (o := ⟨some 1, _, _, _, _, _⟩) rfl rfl rfl ?_))
  intro w2_ hb2_ hb_ hsz2_
  have HX_ := Lib.hid (at_mk hb2_ HTC.out.len)
  clear hb2_ hsz2_
  have HG_ := Lib.hid HB.out.size
  have HB_ := Lib.hid (HB.out.grow' hb_)
  clear HB
  have HB := HB_
  clear HB_
  generalize hg_ : w_.heap.size = g1 at HX_ HG_ ⊢
  clear hg_
  have HX_g := HG_
  clear HG_
  have HX := HX_
  clear hb_ HX_
  try clear w_
  rename World => w_
  have c0 := HX.out.blk.at_ HT0.out; have c1 := HX.out.blk.at_ HT1.out; have c2_ := HX.out.blk.at_ HT2.out; have c3_ := HX.out.blk.at_ HT3.out
  by_cases h_n : n = 0
  rotate_left
  · have z1 := beq_f (a := (n : Int)) (b := 0) (by omega)
    have HN := Lib.hid (show res = false by rw [HRES.out]; simp [h_n])
    go_wp2_with fail
    go_ret
    exact ⟨by rw [HN.out]; rfl, HB.out⟩
  have z1 := beq_t (a := (n : Int)) (b := 0) (by omega)
  by_cases h_n2 : n2 = 0
  rotate_left
  · have z2 := beq_f (a := (n2 : Int)) (b := 0) (by omega)
    have HN := Lib.hid (show res = false by rw [HRES.out]; simp [h_n2])
    go_wp2_with fail
    go_ret
    exact ⟨by rw [HN.out]; rfl, HB.out⟩
  have z2 := beq_t (a := (n2 : Int)) (b := 0) (by omega)
  by_cases h_fee : fee = 0
  rotate_left
  · have z3 := beq_f (a := fee) (b := 0) (by omega)
    have HN := Lib.hid (show res = false by rw [HRES.out]; simp [h_fee])
    go_wp2_with fail
    go_ret
    exact ⟨by rw [HN.out]; rfl, HB.out⟩
  have z3 := beq_t (a := fee) (b := 0) (by omega)
  by_cases h_ex : ex = 0
  rotate_left
  · have z4 := beq_f (a := ex) (b := 0) (by omega)
    have HN := Lib.hid (show res = false by rw [HRES.out]; simp [h_ex])
    go_wp2_with fail
    go_ret
    exact ⟨by rw [HN.out]; rfl, HB.out⟩
  have z4 := beq_t (a := ex) (b := 0) (by omega)
  have HN := Lib.hid (show res = true by rw [HRES.out]; simp [h_n, h_n2, h_fee, h_ex])
  clear h_n h_n2 h_fee h_ex
  go_wp2_with fail
  go_ret
  exact ⟨by rw [HN.out]; rfl, HB.out⟩
set_option maxRecDepth 100000 in
set_option maxHeartbeats 16000000 in
theorem rcmcheck_any {q : CW} {m : Cmd} (w : World) (h : CmdAt w q m) (hs : SmallC m) :
    Calls Try.prog 30 #[.agg (q.vs m).toArray] w fun e w' => e = .returned (.int .i64 (checkC m)) ∧ Grow w w' := by
  obtain ⟨ro, hro, hqo⟩ := out_eq h.ok.2.2.2.1 noOutC_ok
  obtain ⟨rd, hrd, hqd⟩ := aid_eqQ m.id zId h.ok.2.2.2.2.2.2 zId_len
  have HQO := Lib.hid hqo; have HQD := Lib.hid hqd
  have HBO := Lib.hid built_outQ; have HBI := Lib.hid built_idQ
  have HNT := Lib.hid (fun (w' : World) => show Calls Try.prog 63 #[.agg (q.tv m).toArray] w' fun e w'' => e = .returned (.bool (noTxB m.tx)) ∧ Grow w' w'' from rnotx_any m.tx w' h.n1 h.n2)
  have HTK := Lib.hid (fun (w' : World) (hg : Grow w w') => show Calls Try.prog 19 #[.agg (q.tv m).toArray] w' fun e w'' => e = .returned (.int .i64 (checkT m.tx)) ∧ Grow w' w'' from by
    have := rtcheck_any w' (h.ins.grow hg) (h.outs.grow hg) (by rw [← h.n1]; exact hs.1) (by rw [← h.n2]; exact hs.2.1) h.ok.2.1.2.2.1 h.ok.2.1.2.2.2
    rw [h.tx] at this; exact this)
  have HCA := Lib.hid (fun (w' : World) (hg : Grow w w') => h.certs.grow hg)
  have HCE := Lib.hid h.certsE
  have hn3 : m.certs.length = q.n3 := h.n3
  have hn5 : q.n3 ≤ 100000 := by rw [← hn3]; exact hs.2.2.2.1
  have HXC := Lib.hid (vs_cl (q := q) h.ok)
  have X0 := Lib.hid (vs_kind q m); have X5 := Lib.hid (vs_certs q m)
  have X39 := Lib.hid (vs_serial (q := q) h.ok.2.2.2.1); have X40 := Lib.hid (vs_epoch (q := q) h.ok.2.2.2.1)
  have XA := Lib.hid (show (q.vs m)[38]? = some (.int .u64 m.dest.amount) from vs_to (j := 32) (by unfold outV; rw [List.getElem?_append_right (by simp [h.ok.2.2.2.1.1])]; simp [h.ok.2.2.2.1.1]))
  have XT := Lib.hid (fun j u (hu : (outV m.dest)[j]? = some u) => vs_to (q := q) hu)
  have XI := Lib.hid (fun j u (hu : (m.id.map B)[j]? = some u) => vs_id (q := q) h.ok.2.2.2.1 hu)
  have XX := Lib.hid (fun j u (hu : (q.tv m)[j]? = some u) => vs_tx hu)
  have LT := Lib.hid (outV_length h.ok.2.2.2.1)
  have LI := Lib.hid (show (m.id.map B).length = 32 by rw [List.length_map]; exact h.ok.2.2.2.2.2.2)
  have LX := Lib.hid (show (q.tv m).length = 4 from rfl)
  have HW1 := Lib.hid (show wrong1 m = ((!decide (m.kind = 1) && (!decide (m.serial = 0) || !ro)) || (!decide (m.kind = 7) && !decide (m.epoch = 0)) || (!decide (m.kind = 9) && !rd)) by
    unfold wrong1
    rw [show noOutB m.dest = ro by rw [Bool.eq_iff_iff, noOutB_iff, hro], show decide (m.id = zId) = rd by rw [Bool.eq_iff_iff, decide_eq_true_eq, hrd]])
  have HW2 := Lib.hid (show wrong2 m = ((!hasTxK m.kind && !noTxB m.tx) || (!hasCK m.kind && !decide (q.n3 = 0))) by
    unfold wrong2
    rw [show m.certs.isEmpty = decide (q.n3 = 0) by rw [← hn3]; cases m.certs <;> simp])
  obtain ⟨ck, hck⟩ : ∃ z, z = checkC m := ⟨_, rfl⟩
  rw [← hck]
  unfold checkC at hck
  rw [hn3] at hck
  have HCK := Lib.hid hck
  obtain ⟨w1b, hw1b⟩ : ∃ z, z = wrong1 m := ⟨_, rfl⟩
  obtain ⟨w2b, hw2b⟩ : ∃ z, z = wrong2 m := ⟨_, rfl⟩
  obtain ⟨w3b, hw3b⟩ : ∃ z, z = wrong3 m := ⟨_, rfl⟩
  have HW3 := Lib.hid hw3b
  unfold wrong3 at HW3
  rw [← hw1b] at HW1; rw [← hw2b] at HW2
  rw [← hw1b, ← hw2b, ← hw3b] at HCK
  obtain ⟨nt, hnt⟩ : ∃ z, z = noTxB m.tx := ⟨_, rfl⟩
  rw [← hnt] at HNT HW2
  obtain ⟨tk, htk⟩ : ∃ z, z = checkT m.tx := ⟨_, rfl⟩
  rw [← htk] at HTK HCK
  obtain ⟨bc, hbc⟩ : ∃ z, z = m.certs.any badCert := ⟨_, rfl⟩
  have HBC := Lib.hid hbc
  rw [← hbc] at HCK
  obtain ⟨xv, hxv⟩ : ∃ z, z = q.vs m := ⟨_, rfl⟩
  obtain ⟨ts, hts⟩ : ∃ z, z = outV m.dest := ⟨_, rfl⟩
  obtain ⟨is, his⟩ : ∃ z, z = m.id.map B := ⟨_, rfl⟩
  obtain ⟨tv, htv⟩ : ∃ z, z = q.tv m := ⟨_, rfl⟩
  obtain ⟨zo, hzo⟩ : ∃ z, z = outV noOutC := ⟨_, rfl⟩
  obtain ⟨zi, hzi⟩ : ∃ z, z = zId.map B := ⟨_, rfl⟩
  rw [← hxv] at HXC X0 X5 X39 X40 XA XT XI XX ⊢
  rw [← hts] at XT LT HQO; rw [← his] at XI LI HQD; rw [← htv] at XX LX HNT HTK; rw [← hzo] at HQO HBO; rw [← hzi] at HQD HBI
  obtain ⟨k, hk⟩ : ∃ z, z = m.kind := ⟨_, rfl⟩
  obtain ⟨se, hse⟩ : ∃ z, z = m.serial := ⟨_, rfl⟩
  obtain ⟨ep, hep⟩ : ∃ z, z = m.epoch := ⟨_, rfl⟩
  obtain ⟨am, ham⟩ : ∃ z, z = m.dest.amount := ⟨_, rfl⟩
  rw [← hk] at X0 HW1 HW2 HCK; rw [← hse] at X39 HW1 HW3; rw [← hep] at X40 HW1 HW3; rw [← ham] at XA HW3
  obtain ⟨A, n, c, A2, n2, c2, A3, n3, c3, l, cl⟩ := q
  simp only at HCA HCE hn3 hn5 X5 HW2 HCK
  have HN3 := Lib.hid hn3
  obtain ⟨crs, hcrs⟩ : ∃ z, z = m.certs := ⟨_, rfl⟩
  rw [← hcrs] at HCE HBC HN3
  have hn30 : (0 : Int) ≤ (n3 : Int) := by omega
  clear h hs hro hqo hrd hqd hck hw1b hw2b hw3b hnt htk hbc hxv hts his htv hzo hzi hk hse hep ham hn3 hcrs
  obtain ⟨w_, hw⟩ : ∃ x, x = w := ⟨_, rfl⟩
  have HB := Lib.hid (show Below w.heap.size w w_ by rw [hw]; exact Below.refl _ _)
  suffices H : Calls Try.prog 30 #[.agg xv.toArray] w_ fun e w' => e = .returned (.int .i64 ck) ∧ Grow w w' by rw [hw] at H; exact H
  clear hw
  go_enter Try.func30, Try.ntmps30
  go_wp2_with (first | (with_reducible refine wpl_box (o := ⟨some 1, _, _, _, _, _⟩) rfl rfl rfl ?_))
  intro w2_ hb2_ hb_ hsz2_
  have HX_ := Lib.hid (at_mk hb2_ HXC.out.len)
  clear hb2_ hsz2_
  have HG_ := Lib.hid HB.out.size
  have HB_ := Lib.hid (HB.out.grow' hb_)
  clear HB
  have HB := HB_
  clear HB_
  generalize hg_ : w_.heap.size = g1 at HX_ HG_ ⊢
  clear hg_
  have HX_g := HG_
  clear HG_
  have HX := HX_
  clear hb_ HX_
  try clear w_
  rename World => w_
  have c0 := HX.out.blk.at_ X0.out; have c39 := HX.out.blk.at_ X39.out; have c40 := HX.out.blk.at_ X40.out; have c38 := HX.out.blk.at_ XA.out; have c5 := HX.out.blk.at_ X5.out
  rcases Int.lt_or_le k 1 with hk1 | hk1
  · have HN := Lib.hid (show ck = 25 by rw [HCK.out, if_pos (.inl hk1)])
    go_wp2_with fail
    go_ret
    exact ⟨by rw [HN.out]; rfl, HB.out⟩
  rcases Int.lt_or_le 9 k with hk9 | hk9
  · have HN := Lib.hid (show ck = 25 by rw [HCK.out, if_pos (.inr hk9)])
    have z1 := lt_f (a := k) (b := 1) (by omega)
    go_wp2_with fail
    go_ret
    exact ⟨by rw [HN.out]; rfl, HB.out⟩
  have HCK2 := Lib.hid (show ck = if w1b || w2b || w3b then 1 else if 16 < n3 then 27 else if hasTxK k && !decide (tk = 0) then tk else if bc then 16 else 0 by rw [HCK.out, if_neg (by omega)])
  have z1 := lt_f (a := k) (b := 1) (by omega)
  have z2 := lt_f (a := 9) (b := k) (by omega)
  clear HCK
  go_upto_region 4 with fail
  clear z1 z2
  go_cut [46] from 15 to 45 (fun s46 wr => s46 = .bool w1b ∧ Hid (At wr g1 33 73 xv ∧ Below w.heap.size w wr))
  case first =>
    have heqo := HQO.out; have heqd := HQD.out
    have FT := Lib.hid (show ∀ j u, ts[j]? = some u → w_.cell? ⟨g1, 6 + j, none⟩ = some u from fun j u hu => HX.out.blk.at_ (XT.out j u hu))
    have FI := Lib.hid (show ∀ j u, is[j]? = some u → w_.cell? ⟨g1, 41 + j, none⟩ = some u from fun j u hu => HX.out.blk.at_ (XI.out j u hu))
    by_cases h_k1 : k = 1
    · have y_k1 := bne_f (a := k) (b := 1) h_k1
      have y_k7 := bne_t (a := k) (b := 7) (by omega)
      have y_k9 := bne_t (a := k) (b := 9) (by omega)
      have H_k1 := Lib.hid h_k1; clear h_k1
      by_cases h_e0 : ep = 0
      · have y_e0 := bne_f (a := ep) (b := 0) h_e0
        have H_e0 := Lib.hid h_e0; clear h_e0
        cases rd with
        | true =>
          have HN1 := Lib.hid (show w1b = false by rw [HW1.out]; simp [H_k1.out, H_e0.out])
          go_wp2_with (first | (with_reducible refine wpl_loadmw (o := ⟨some 23, _, _, _, _, _⟩) (by first | rfl | (go_simp; done) | fail) rfl row_tout FT.out rfl LT.out ?_) | (with_reducible refine wpl_loadmw (o := ⟨some 42, _, _, _, _, _⟩) (by first | rfl | (go_simp; done) | fail) rfl row_aid FI.out rfl LI.out ?_) | (with_reducible refine wpl_stop (o := ⟨some 43, _, _, _, _, _⟩) ?_))
          refine stop_go ?_
          refine wpl_buildw (by first | rfl | (go_simp; done) | fail) rfl HBI.out ?_
          go_wp2_with (first | (with_reducible refine wpl_loadmw (o := ⟨some 23, _, _, _, _, _⟩) (by first | rfl | (go_simp; done) | fail) rfl row_tout FT.out rfl LT.out ?_) | (with_reducible refine wpl_loadmw (o := ⟨some 42, _, _, _, _, _⟩) (by first | rfl | (go_simp; done) | fail) rfl row_aid FI.out rfl LI.out ?_))
          go_meet
          case rel => exact ⟨by rw [HN1.out], Lib.hid ⟨HX.out, HB.out⟩⟩
        | false =>
          have HN1 := Lib.hid (show w1b = true by rw [HW1.out]; simp [H_k1.out, H_e0.out])
          go_wp2_with (first | (with_reducible refine wpl_loadmw (o := ⟨some 23, _, _, _, _, _⟩) (by first | rfl | (go_simp; done) | fail) rfl row_tout FT.out rfl LT.out ?_) | (with_reducible refine wpl_loadmw (o := ⟨some 42, _, _, _, _, _⟩) (by first | rfl | (go_simp; done) | fail) rfl row_aid FI.out rfl LI.out ?_) | (with_reducible refine wpl_stop (o := ⟨some 43, _, _, _, _, _⟩) ?_))
          refine stop_go ?_
          refine wpl_buildw (by first | rfl | (go_simp; done) | fail) rfl HBI.out ?_
          go_wp2_with (first | (with_reducible refine wpl_loadmw (o := ⟨some 23, _, _, _, _, _⟩) (by first | rfl | (go_simp; done) | fail) rfl row_tout FT.out rfl LT.out ?_) | (with_reducible refine wpl_loadmw (o := ⟨some 42, _, _, _, _, _⟩) (by first | rfl | (go_simp; done) | fail) rfl row_aid FI.out rfl LI.out ?_))
          go_meet
          case rel => exact ⟨by rw [HN1.out], Lib.hid ⟨HX.out, HB.out⟩⟩
      · have y_e0 := bne_t (a := ep) (b := 0) h_e0
        have H_e0 := Lib.hid h_e0; clear h_e0
        have HN1 := Lib.hid (show w1b = true by rw [HW1.out]; simp [H_k1.out, H_e0.out])
        go_wp2_with (first | (with_reducible refine wpl_loadmw (o := ⟨some 23, _, _, _, _, _⟩) (by first | rfl | (go_simp; done) | fail) rfl row_tout FT.out rfl LT.out ?_) | (with_reducible refine wpl_loadmw (o := ⟨some 42, _, _, _, _, _⟩) (by first | rfl | (go_simp; done) | fail) rfl row_aid FI.out rfl LI.out ?_))
        go_meet
        case rel => exact ⟨by rw [HN1.out], Lib.hid ⟨HX.out, HB.out⟩⟩
    · have y_k1 := bne_t (a := k) (b := 1) h_k1
      have H_k1 := Lib.hid h_k1; clear h_k1
      by_cases h_s0 : se = 0
      · have y_s0 := bne_f (a := se) (b := 0) h_s0
        have H_s0 := Lib.hid h_s0; clear h_s0
        cases ro with
        | true =>
          by_cases h_k7 : k = 7
          · have y_k7 := bne_f (a := k) (b := 7) h_k7; have y_k9 := bne_t (a := k) (b := 9) (by omega)
            have H_k7 := Lib.hid h_k7; clear h_k7
            cases rd with
            | true =>
              have HN1 := Lib.hid (show w1b = false by rw [HW1.out]; simp [H_k1.out, H_s0.out, H_k7.out])
              go_wp2_with (first | (with_reducible refine wpl_loadmw (o := ⟨some 23, _, _, _, _, _⟩) (by first | rfl | (go_simp; done) | fail) rfl row_tout FT.out rfl LT.out ?_) | (with_reducible refine wpl_loadmw (o := ⟨some 42, _, _, _, _, _⟩) (by first | rfl | (go_simp; done) | fail) rfl row_aid FI.out rfl LI.out ?_) | (with_reducible refine wpl_stop (o := ⟨some 24, _, _, _, _, _⟩) ?_))
              refine stop_go ?_
              refine wpl_buildw (by first | rfl | (go_simp; done) | fail) rfl HBO.out ?_
              go_wp2_with (first | (with_reducible refine wpl_loadmw (o := ⟨some 23, _, _, _, _, _⟩) (by first | rfl | (go_simp; done) | fail) rfl row_tout FT.out rfl LT.out ?_) | (with_reducible refine wpl_loadmw (o := ⟨some 42, _, _, _, _, _⟩) (by first | rfl | (go_simp; done) | fail) rfl row_aid FI.out rfl LI.out ?_) | (with_reducible refine wpl_stop (o := ⟨some 43, _, _, _, _, _⟩) ?_))
              refine stop_go ?_
              refine wpl_buildw (by first | rfl | (go_simp; done) | fail) rfl HBI.out ?_
              go_wp2_with (first | (with_reducible refine wpl_loadmw (o := ⟨some 23, _, _, _, _, _⟩) (by first | rfl | (go_simp; done) | fail) rfl row_tout FT.out rfl LT.out ?_) | (with_reducible refine wpl_loadmw (o := ⟨some 42, _, _, _, _, _⟩) (by first | rfl | (go_simp; done) | fail) rfl row_aid FI.out rfl LI.out ?_))
              go_meet
              case rel => exact ⟨by rw [HN1.out], Lib.hid ⟨HX.out, HB.out⟩⟩
            | false =>
              have HN1 := Lib.hid (show w1b = true by rw [HW1.out]; simp [H_k1.out, H_s0.out, H_k7.out])
              go_wp2_with (first | (with_reducible refine wpl_loadmw (o := ⟨some 23, _, _, _, _, _⟩) (by first | rfl | (go_simp; done) | fail) rfl row_tout FT.out rfl LT.out ?_) | (with_reducible refine wpl_loadmw (o := ⟨some 42, _, _, _, _, _⟩) (by first | rfl | (go_simp; done) | fail) rfl row_aid FI.out rfl LI.out ?_) | (with_reducible refine wpl_stop (o := ⟨some 24, _, _, _, _, _⟩) ?_))
              refine stop_go ?_
              refine wpl_buildw (by first | rfl | (go_simp; done) | fail) rfl HBO.out ?_
              go_wp2_with (first | (with_reducible refine wpl_loadmw (o := ⟨some 23, _, _, _, _, _⟩) (by first | rfl | (go_simp; done) | fail) rfl row_tout FT.out rfl LT.out ?_) | (with_reducible refine wpl_loadmw (o := ⟨some 42, _, _, _, _, _⟩) (by first | rfl | (go_simp; done) | fail) rfl row_aid FI.out rfl LI.out ?_) | (with_reducible refine wpl_stop (o := ⟨some 43, _, _, _, _, _⟩) ?_))
              refine stop_go ?_
              refine wpl_buildw (by first | rfl | (go_simp; done) | fail) rfl HBI.out ?_
              go_wp2_with (first | (with_reducible refine wpl_loadmw (o := ⟨some 23, _, _, _, _, _⟩) (by first | rfl | (go_simp; done) | fail) rfl row_tout FT.out rfl LT.out ?_) | (with_reducible refine wpl_loadmw (o := ⟨some 42, _, _, _, _, _⟩) (by first | rfl | (go_simp; done) | fail) rfl row_aid FI.out rfl LI.out ?_))
              go_meet
              case rel => exact ⟨by rw [HN1.out], Lib.hid ⟨HX.out, HB.out⟩⟩
          · have y_k7 := bne_t (a := k) (b := 7) h_k7
            have H_k7 := Lib.hid h_k7; clear h_k7
            by_cases h_e0 : ep = 0
            · have y_e0 := bne_f (a := ep) (b := 0) h_e0
              have H_e0 := Lib.hid h_e0; clear h_e0
              by_cases h_k9 : k = 9
              · have y_k9 := bne_f (a := k) (b := 9) h_k9
                have H_k9 := Lib.hid h_k9; clear h_k9
                have HN1 := Lib.hid (show w1b = false by rw [HW1.out]; simp [H_k1.out, H_s0.out, H_k7.out, H_e0.out, H_k9.out])
                go_wp2_with (first | (with_reducible refine wpl_loadmw (o := ⟨some 23, _, _, _, _, _⟩) (by first | rfl | (go_simp; done) | fail) rfl row_tout FT.out rfl LT.out ?_) | (with_reducible refine wpl_loadmw (o := ⟨some 42, _, _, _, _, _⟩) (by first | rfl | (go_simp; done) | fail) rfl row_aid FI.out rfl LI.out ?_) | (with_reducible refine wpl_stop (o := ⟨some 24, _, _, _, _, _⟩) ?_))
                refine stop_go ?_
                refine wpl_buildw (by first | rfl | (go_simp; done) | fail) rfl HBO.out ?_
                go_wp2_with (first | (with_reducible refine wpl_loadmw (o := ⟨some 23, _, _, _, _, _⟩) (by first | rfl | (go_simp; done) | fail) rfl row_tout FT.out rfl LT.out ?_) | (with_reducible refine wpl_loadmw (o := ⟨some 42, _, _, _, _, _⟩) (by first | rfl | (go_simp; done) | fail) rfl row_aid FI.out rfl LI.out ?_))
                go_meet
                case rel => exact ⟨by rw [HN1.out], Lib.hid ⟨HX.out, HB.out⟩⟩
              · have y_k9 := bne_t (a := k) (b := 9) h_k9
                have H_k9 := Lib.hid h_k9; clear h_k9
                cases rd with
                | true =>
                  have HN1 := Lib.hid (show w1b = false by rw [HW1.out]; simp [H_k1.out, H_s0.out, H_k7.out, H_e0.out, H_k9.out])
                  go_wp2_with (first | (with_reducible refine wpl_loadmw (o := ⟨some 23, _, _, _, _, _⟩) (by first | rfl | (go_simp; done) | fail) rfl row_tout FT.out rfl LT.out ?_) | (with_reducible refine wpl_loadmw (o := ⟨some 42, _, _, _, _, _⟩) (by first | rfl | (go_simp; done) | fail) rfl row_aid FI.out rfl LI.out ?_) | (with_reducible refine wpl_stop (o := ⟨some 24, _, _, _, _, _⟩) ?_))
                  refine stop_go ?_
                  refine wpl_buildw (by first | rfl | (go_simp; done) | fail) rfl HBO.out ?_
                  go_wp2_with (first | (with_reducible refine wpl_loadmw (o := ⟨some 23, _, _, _, _, _⟩) (by first | rfl | (go_simp; done) | fail) rfl row_tout FT.out rfl LT.out ?_) | (with_reducible refine wpl_loadmw (o := ⟨some 42, _, _, _, _, _⟩) (by first | rfl | (go_simp; done) | fail) rfl row_aid FI.out rfl LI.out ?_) | (with_reducible refine wpl_stop (o := ⟨some 43, _, _, _, _, _⟩) ?_))
                  refine stop_go ?_
                  refine wpl_buildw (by first | rfl | (go_simp; done) | fail) rfl HBI.out ?_
                  go_wp2_with (first | (with_reducible refine wpl_loadmw (o := ⟨some 23, _, _, _, _, _⟩) (by first | rfl | (go_simp; done) | fail) rfl row_tout FT.out rfl LT.out ?_) | (with_reducible refine wpl_loadmw (o := ⟨some 42, _, _, _, _, _⟩) (by first | rfl | (go_simp; done) | fail) rfl row_aid FI.out rfl LI.out ?_))
                  go_meet
                  case rel => exact ⟨by rw [HN1.out], Lib.hid ⟨HX.out, HB.out⟩⟩
                | false =>
                  have HN1 := Lib.hid (show w1b = true by rw [HW1.out]; simp [H_k1.out, H_s0.out, H_k7.out, H_e0.out, H_k9.out])
                  go_wp2_with (first | (with_reducible refine wpl_loadmw (o := ⟨some 23, _, _, _, _, _⟩) (by first | rfl | (go_simp; done) | fail) rfl row_tout FT.out rfl LT.out ?_) | (with_reducible refine wpl_loadmw (o := ⟨some 42, _, _, _, _, _⟩) (by first | rfl | (go_simp; done) | fail) rfl row_aid FI.out rfl LI.out ?_) | (with_reducible refine wpl_stop (o := ⟨some 24, _, _, _, _, _⟩) ?_))
                  refine stop_go ?_
                  refine wpl_buildw (by first | rfl | (go_simp; done) | fail) rfl HBO.out ?_
                  go_wp2_with (first | (with_reducible refine wpl_loadmw (o := ⟨some 23, _, _, _, _, _⟩) (by first | rfl | (go_simp; done) | fail) rfl row_tout FT.out rfl LT.out ?_) | (with_reducible refine wpl_loadmw (o := ⟨some 42, _, _, _, _, _⟩) (by first | rfl | (go_simp; done) | fail) rfl row_aid FI.out rfl LI.out ?_) | (with_reducible refine wpl_stop (o := ⟨some 43, _, _, _, _, _⟩) ?_))
                  refine stop_go ?_
                  refine wpl_buildw (by first | rfl | (go_simp; done) | fail) rfl HBI.out ?_
                  go_wp2_with (first | (with_reducible refine wpl_loadmw (o := ⟨some 23, _, _, _, _, _⟩) (by first | rfl | (go_simp; done) | fail) rfl row_tout FT.out rfl LT.out ?_) | (with_reducible refine wpl_loadmw (o := ⟨some 42, _, _, _, _, _⟩) (by first | rfl | (go_simp; done) | fail) rfl row_aid FI.out rfl LI.out ?_))
                  go_meet
                  case rel => exact ⟨by rw [HN1.out], Lib.hid ⟨HX.out, HB.out⟩⟩
            · have y_e0 := bne_t (a := ep) (b := 0) h_e0
              have H_e0 := Lib.hid h_e0; clear h_e0
              have HN1 := Lib.hid (show w1b = true by rw [HW1.out]; simp [H_k1.out, H_s0.out, H_k7.out, H_e0.out])
              go_wp2_with (first | (with_reducible refine wpl_loadmw (o := ⟨some 23, _, _, _, _, _⟩) (by first | rfl | (go_simp; done) | fail) rfl row_tout FT.out rfl LT.out ?_) | (with_reducible refine wpl_loadmw (o := ⟨some 42, _, _, _, _, _⟩) (by first | rfl | (go_simp; done) | fail) rfl row_aid FI.out rfl LI.out ?_) | (with_reducible refine wpl_stop (o := ⟨some 24, _, _, _, _, _⟩) ?_))
              refine stop_go ?_
              refine wpl_buildw (by first | rfl | (go_simp; done) | fail) rfl HBO.out ?_
              go_wp2_with (first | (with_reducible refine wpl_loadmw (o := ⟨some 23, _, _, _, _, _⟩) (by first | rfl | (go_simp; done) | fail) rfl row_tout FT.out rfl LT.out ?_) | (with_reducible refine wpl_loadmw (o := ⟨some 42, _, _, _, _, _⟩) (by first | rfl | (go_simp; done) | fail) rfl row_aid FI.out rfl LI.out ?_))
              go_meet
              case rel => exact ⟨by rw [HN1.out], Lib.hid ⟨HX.out, HB.out⟩⟩
        | false =>
          have HN1 := Lib.hid (show w1b = true by rw [HW1.out]; simp [H_k1.out, H_s0.out])
          go_wp2_with (first | (with_reducible refine wpl_loadmw (o := ⟨some 23, _, _, _, _, _⟩) (by first | rfl | (go_simp; done) | fail) rfl row_tout FT.out rfl LT.out ?_) | (with_reducible refine wpl_loadmw (o := ⟨some 42, _, _, _, _, _⟩) (by first | rfl | (go_simp; done) | fail) rfl row_aid FI.out rfl LI.out ?_) | (with_reducible refine wpl_stop (o := ⟨some 24, _, _, _, _, _⟩) ?_))
          refine stop_go ?_
          refine wpl_buildw (by first | rfl | (go_simp; done) | fail) rfl HBO.out ?_
          go_wp2_with (first | (with_reducible refine wpl_loadmw (o := ⟨some 23, _, _, _, _, _⟩) (by first | rfl | (go_simp; done) | fail) rfl row_tout FT.out rfl LT.out ?_) | (with_reducible refine wpl_loadmw (o := ⟨some 42, _, _, _, _, _⟩) (by first | rfl | (go_simp; done) | fail) rfl row_aid FI.out rfl LI.out ?_))
          go_meet
          case rel => exact ⟨by rw [HN1.out], Lib.hid ⟨HX.out, HB.out⟩⟩
      · have y_s0 := bne_t (a := se) (b := 0) h_s0
        have H_s0 := Lib.hid h_s0; clear h_s0
        have HN1 := Lib.hid (show w1b = true by rw [HW1.out]; simp [H_k1.out, H_s0.out])
        go_wp2_with (first | (with_reducible refine wpl_loadmw (o := ⟨some 23, _, _, _, _, _⟩) (by first | rfl | (go_simp; done) | fail) rfl row_tout FT.out rfl LT.out ?_) | (with_reducible refine wpl_loadmw (o := ⟨some 42, _, _, _, _, _⟩) (by first | rfl | (go_simp; done) | fail) rfl row_aid FI.out rfl LI.out ?_))
        go_meet
        case rel => exact ⟨by rw [HN1.out], Lib.hid ⟨HX.out, HB.out⟩⟩
  case rest =>
    obtain ⟨rfl, hI⟩ := hcut
    clear HX HB c0 c39 c40 c38 c5
    have HX := Lib.hid hI.out.1; have HB := Lib.hid hI.out.2
    clear hI HW1
    try clear w_
    rename World => w_
    have c0 := HX.out.blk.at_ X0.out; have c5 := HX.out.blk.at_ X5.out
    cases w1b with
    | true =>
      have HN := Lib.hid (show ck = 1 by rw [HCK2.out]; simp)
      go_wp2_with fail
      go_ret
      exact ⟨by rw [HN.out]; first | rfl | simp, HB.out⟩
    | false =>
    go_upto_region 6 with fail
    go_cut [72] from 47 to 71 (fun s72 wr => s72 = .bool w2b ∧ Hid (At wr g1 33 73 xv ∧ Below w.heap.size w wr))
    case first =>
      have FX := Lib.hid (show ∀ j u, tv[j]? = some u → w_.cell? ⟨g1, 1 + j, none⟩ = some u from fun j u hu => HX.out.blk.at_ (XX.out j u hu))
      rcases Int.lt_or_le k 2 with hk2 | hk2
      · have HH := Lib.hid (show hasTxK k = false by unfold hasTxK; simp; omega)
        have HH2 := Lib.hid (show hasCK k = false by unfold hasCK; simp; omega)
        have hk4 : k < 4 := by omega
        go_wp2_with (first | (with_reducible refine wpl_loadmw (o := ⟨some 55, _, _, _, _, _⟩) (by first | rfl | (go_simp; done) | fail) rfl row_tx FX.out rfl LX.out ?_))
        refine (HNT.out _).mono ?_
        rintro e w2_ ⟨rfl, hb_⟩
        clear c0 c5 FX
        have hb_ := hb_
        clear hb_
        have HB_ := Lib.hid (HB.out.grow' hb_)
        clear HB
        have HB := HB_
        clear HB_
        have HX_ := Lib.hid (HX.out.grow hb_)
        clear HX
        have HX := HX_
        clear HX_
        clear hb_
        try clear w_
        rename World => w_
        have c0 := HX.out.blk.at_ X0.out; have c5 := HX.out.blk.at_ X5.out
        cases nt with
        | false =>
          have HN2 := Lib.hid (show w2b = true by rw [HW2.out, HH.out]; simp)
          go_wp2_with fail
          go_meet
          case rel => exact ⟨by rw [HN2.out], Lib.hid ⟨HX.out, HB.out⟩⟩
        | true =>
          rcases Nat.eq_zero_or_pos n3 with h30 | h30
          · have HN2 := Lib.hid (show w2b = false by rw [HW2.out]; simp [h30, HH.out])
            have y5 := lt_f (a := 0) (b := (n3 : Int)) (by omega)
            have H30 := Lib.hid h30; clear h30
            go_wp2_with fail
            go_meet
            case rel => exact ⟨by rw [HN2.out]; try first | rfl | (simp [H30.out]; done) | (simp; exact H30.out), Lib.hid ⟨HX.out, HB.out⟩⟩
          · have H30 := Lib.hid h30
            have HN2 := Lib.hid (show w2b = true by rw [HW2.out, HH2.out]; simp; omega)
            have y5 := lt_t (a := 0) (b := (n3 : Int)) (by omega)
            go_wp2_with fail
            go_meet
            case rel => exact ⟨by rw [HN2.out]; try first | rfl | (simp [H30.out]; done) | (simp; exact H30.out), Lib.hid ⟨HX.out, HB.out⟩⟩
      rcases Int.lt_or_le 6 k with hk6 | hk6
      · have HH := Lib.hid (show hasTxK k = false by unfold hasTxK; simp; omega)
        have HH2 := Lib.hid (show hasCK k = false by unfold hasCK; simp; omega)
        have y2 := lt_f (a := k) (b := 2) (by omega)
        have y4 := lt_f (a := k) (b := 4) (by omega)
        go_wp2_with (first | (with_reducible refine wpl_loadmw (o := ⟨some 55, _, _, _, _, _⟩) (by first | rfl | (go_simp; done) | fail) rfl row_tx FX.out rfl LX.out ?_))
        refine (HNT.out _).mono ?_
        rintro e w2_ ⟨rfl, hb_⟩
        clear c0 c5 FX
        have hb_ := hb_
        clear hb_
        have HB_ := Lib.hid (HB.out.grow' hb_)
        clear HB
        have HB := HB_
        clear HB_
        have HX_ := Lib.hid (HX.out.grow hb_)
        clear HX
        have HX := HX_
        clear HX_
        clear hb_
        try clear w_
        rename World => w_
        have c0 := HX.out.blk.at_ X0.out; have c5 := HX.out.blk.at_ X5.out
        cases nt with
        | false =>
          have HN2 := Lib.hid (show w2b = true by rw [HW2.out, HH.out]; simp)
          go_wp2_with fail
          go_meet
          case rel => exact ⟨by rw [HN2.out], Lib.hid ⟨HX.out, HB.out⟩⟩
        | true =>
          rcases Nat.eq_zero_or_pos n3 with h30 | h30
          · have HN2 := Lib.hid (show w2b = false by rw [HW2.out]; simp [h30, HH.out])
            have y5 := lt_f (a := 0) (b := (n3 : Int)) (by omega)
            have H30 := Lib.hid h30; clear h30
            go_wp2_with fail
            go_meet
            case rel => exact ⟨by rw [HN2.out]; try first | rfl | (simp [H30.out]; done) | (simp; exact H30.out), Lib.hid ⟨HX.out, HB.out⟩⟩
          · have H30 := Lib.hid h30
            have HN2 := Lib.hid (show w2b = true by rw [HW2.out, HH2.out]; simp; omega)
            have y5 := lt_t (a := 0) (b := (n3 : Int)) (by omega)
            go_wp2_with fail
            go_meet
            case rel => exact ⟨by rw [HN2.out]; try first | rfl | (simp [H30.out]; done) | (simp; exact H30.out), Lib.hid ⟨HX.out, HB.out⟩⟩
      have HH := Lib.hid (show hasTxK k = true by unfold hasTxK; simp; omega)
      have y2 := lt_f (a := k) (b := 2) (by omega)
      have y6 := lt_f (a := 6) (b := k) (by omega)
      rcases Int.lt_or_le k 4 with hk4 | hk4
      · have HH2 := Lib.hid (show hasCK k = false by unfold hasCK; simp; omega)
        rcases Nat.eq_zero_or_pos n3 with h30 | h30
        · have HN2 := Lib.hid (show w2b = false by rw [HW2.out]; simp [h30, HH.out])
          have y5 := lt_f (a := 0) (b := (n3 : Int)) (by omega)
          have H30 := Lib.hid h30; clear h30
          go_wp2_with fail
          go_meet
          case rel => exact ⟨by rw [HN2.out]; try first | rfl | (simp [H30.out]; done) | (simp; exact H30.out), Lib.hid ⟨HX.out, HB.out⟩⟩
        · have H30 := Lib.hid h30
          have HN2 := Lib.hid (show w2b = true by rw [HW2.out, HH2.out]; simp; omega)
          have y5 := lt_t (a := 0) (b := (n3 : Int)) (by omega)
          go_wp2_with fail
          go_meet
          case rel => exact ⟨by rw [HN2.out]; try first | rfl | (simp [H30.out]; done) | (simp; exact H30.out), Lib.hid ⟨HX.out, HB.out⟩⟩
      have HH2 := Lib.hid (show hasCK k = true by unfold hasCK; simp; omega)
      have y4 := lt_f (a := k) (b := 4) (by omega)
      have HN2 := Lib.hid (show w2b = false by rw [HW2.out, HH.out, HH2.out]; simp)
      go_wp2_with fail
      go_meet
      case rel => exact ⟨by rw [HN2.out], Lib.hid ⟨HX.out, HB.out⟩⟩
    case rest =>
      obtain ⟨rfl, hI⟩ := hcut
      clear HX HB c0 c5
      have HX := Lib.hid hI.out.1; have HB := Lib.hid hI.out.2
      clear hI HW2
      try clear w_
      rename World => w_
      have c0 := HX.out.blk.at_ X0.out; have c5 := HX.out.blk.at_ X5.out
      cases w2b with
      | true =>
        have HN := Lib.hid (show ck = 1 by rw [HCK2.out]; simp)
        go_wp2_with fail
        go_ret
        exact ⟨by rw [HN.out]; first | rfl | simp, HB.out⟩
      | false =>
      have c39 := HX.out.blk.at_ X39.out; have c40 := HX.out.blk.at_ X40.out; have c38 := HX.out.blk.at_ XA.out
      rcases Int.lt_or_le se 0 with r1 | r1
      · have HN := Lib.hid (show ck = 1 by rw [HCK2.out, HW3.out]; simp [r1])
        go_wp2_with fail
        go_ret
        exact ⟨by rw [HN.out]; first | rfl | simp, HB.out⟩
      have y_r1 := lt_f (a := se) (b := 0) (by omega)
      rcases Int.lt_or_le (1099511627776 : Int) se with r2 | r2
      · have HN := Lib.hid (show ck = 1 by rw [HCK2.out, HW3.out]; simp [r2])
        go_wp2_with fail
        go_ret
        exact ⟨by rw [HN.out]; first | rfl | simp, HB.out⟩
      have y_r2 := lt_f (a := 1099511627776) (b := se) (by omega)
      rcases Int.lt_or_le (4611686018427387904 : Int) am with r3 | r3
      · have HN := Lib.hid (show ck = 1 by rw [HCK2.out, HW3.out]; simp [r3])
        go_wp2_with fail
        go_ret
        exact ⟨by rw [HN.out]; first | rfl | simp, HB.out⟩
      have y_r3 := lt_f (a := 4611686018427387904) (b := am) (by omega)
      rcases Int.lt_or_le ep 0 with r4 | r4
      · have HN := Lib.hid (show ck = 1 by rw [HCK2.out, HW3.out]; simp [r4])
        go_wp2_with fail
        go_ret
        exact ⟨by rw [HN.out]; first | rfl | simp, HB.out⟩
      have y_r4 := lt_f (a := ep) (b := 0) (by omega)
      rcases Int.lt_or_le (1099511627776 : Int) ep with r5 | r5
      · have HN := Lib.hid (show ck = 1 by rw [HCK2.out, HW3.out]; simp [r5])
        go_wp2_with fail
        go_ret
        exact ⟨by rw [HN.out]; first | rfl | simp, HB.out⟩
      have y_r5 := lt_f (a := 1099511627776) (b := ep) (by omega)
      have HCK3 := Lib.hid (show ck = if 16 < n3 then 27 else if hasTxK k && !decide (tk = 0) then tk else if bc then 16 else 0 by
        have hw3 : w3b = false := by rw [HW3.out]; simp [y_r1, y_r2, y_r3, y_r4, y_r5]
        rw [HCK2.out, hw3]; simp)
      clear HCK2 HW3
      rcases Nat.lt_or_ge 16 n3 with h16 | h16
      · have HN := Lib.hid (show ck = 27 by rw [HCK3.out, if_pos h16])
        have y16 : (16 : Int) < (n3 : Int) := by omega
        go_wp2_with fail
        go_ret
        exact ⟨by rw [HN.out]; first | rfl | simp, HB.out⟩
      have y16 := lt_f (a := 16) (b := (n3 : Int)) (by omega)
      have HCK4 := Lib.hid (show ck = if hasTxK k && !decide (tk = 0) then tk else if bc then 16 else 0 by rw [HCK3.out, if_neg (by omega)])
      clear HCK3 r1 r2 r3 r4 r5
      go_upto_region 12 with fail
      clear y_r1 y_r2 y_r3 y_r4 y_r5 y16 c39 c40 c38
      go_cut [106] from 101 to 105 (fun s106 wr => s106 = .bool (hasTxK k) ∧ Hid (At wr g1 33 73 xv ∧ Below w.heap.size w wr))
      case first =>
        rcases Int.lt_or_le k 2 with hk2 | hk2
        · have HH := Lib.hid (show hasTxK k = false by unfold hasTxK; simp; omega)
          have y2 : (2 ≤ k) = False := eq_false (by omega)
          go_wp2_with fail
          go_meet
          case rel => exact ⟨by rw [HH.out], Lib.hid ⟨HX.out, HB.out⟩⟩
        rcases Int.lt_or_le 6 k with hk6 | hk6
        · have HH := Lib.hid (show hasTxK k = false by unfold hasTxK; simp; omega)
          have y6 : (k ≤ 6) = False := eq_false (by omega)
          go_wp2_with fail
          go_meet
          case rel => exact ⟨by rw [HH.out], Lib.hid ⟨HX.out, HB.out⟩⟩
        have HH := Lib.hid (show hasTxK k = true by unfold hasTxK; simp; omega)
        go_wp2_with fail
        go_meet
        case rel => exact ⟨by rw [HH.out], Lib.hid ⟨HX.out, HB.out⟩⟩
      case rest =>
      obtain ⟨rfl, hI⟩ := hcut
      clear HX HB c0 c5
      have HX := Lib.hid hI.out.1; have HB := Lib.hid hI.out.2
      clear hI
      try clear w_
      rename World => w_
      have c0 := HX.out.blk.at_ X0.out; have c5 := HX.out.blk.at_ X5.out
      obtain ⟨hk_, hhk⟩ : ∃ z, z = hasTxK k := ⟨_, rfl⟩
      rw [← hhk] at HCK4 ⊢
      clear hhk
      go_upto_if 106 with fail
      go_cut [4] from 107 to 112 (fun s4 wr => Hid (ck = if bc then 16 else 0) ∧ Hid (At wr g1 33 73 xv ∧ Below w.heap.size w wr))
      case first =>
        have FX := Lib.hid (show ∀ j u, tv[j]? = some u → w_.cell? ⟨g1, 1 + j, none⟩ = some u from fun j u hu => HX.out.blk.at_ (XX.out j u hu))
        cases hk_ with
        | false =>
          have HN := Lib.hid (show ck = if bc then 16 else 0 by rw [HCK4.out]; simp)
          go_wp2_with fail
          go_meet
          case rel => exact ⟨HN, Lib.hid ⟨HX.out, HB.out⟩⟩
        | true =>
        go_wp2_with (first | (with_reducible refine wpl_loadmw (o := ⟨some 108, _, _, _, _, _⟩) (by first | rfl | (go_simp; done) | fail) rfl row_tx FX.out rfl LX.out ?_))
        refine (HTK.out _ HB.out).mono ?_
        rintro e w2_ ⟨rfl, hb_⟩
        clear c0 c5 FX
        have hb_ := hb_
        clear hb_
        have HB_ := Lib.hid (HB.out.grow' hb_)
        clear HB
        have HB := HB_
        clear HB_
        have HX_ := Lib.hid (HX.out.grow hb_)
        clear HX
        have HX := HX_
        clear HX_
        clear hb_
        try clear w_
        rename World => w_
        by_cases ht : tk = 0
        · have HN := Lib.hid (show ck = if bc then 16 else 0 by rw [HCK4.out]; simp [ht])
          have y7 := bne_f (a := tk) (b := 0) ht
          clear ht
          go_wp2_with fail
          go_meet
          case rel => exact ⟨HN, Lib.hid ⟨HX.out, HB.out⟩⟩
        · have HN := Lib.hid (show ck = tk by rw [HCK4.out]; simp [ht])
          have y7 := bne_t (a := tk) (b := 0) ht
          go_wp2_with fail
          go_ret
          exact ⟨by rw [HN.out]; first | rfl | simp, HB.out⟩
      case rest =>
        obtain ⟨HN5, hI⟩ := hcut
        clear HX HB c0 c5
        have HX := Lib.hid hI.out.1; have HB := Lib.hid hI.out.2
        clear hI HCK4
        try clear w_
        rename World => w_
        have c5 := HX.out.blk.at_ X5.out
        go_wp2_with fail
        go_loopw [5] (fun iv wr => ∃ j : Nat, j ≤ n3 ∧ iv = .int .i64 j ∧ Hid ((crs.take j).any badCert = false) ∧ Hid (At wr g1 33 73 xv ∧ Below w.heap.size w wr)) (fun iv _ => n3 - (intOf iv).toNat)
        case atStart => exact ⟨0, by omega, rfl, Lib.hid (by simp), Lib.hid ⟨HX.out, HB.out⟩⟩
        case round =>
          obtain ⟨j, hj, rfl, hup, hI⟩ := hrel
          clear HB HX c5
          have HX := Lib.hid hI.out.1; have HB := Lib.hid hI.out.2
          clear hI
          rename World => w_
          have c5 := HX.out.blk.at_ X5.out
          by_cases hlt : j < n3
          · obtain ⟨b, off, p, P1, pn, pc, rfl, hp, hp1, hok, hid, hbl, hc⟩ := (HCA.out w (Below.refl _ _)).at_ hlt
            have HP := Lib.hid (show crs[j]? = some p.2 by rw [HCE.out, List.getElem?_map, hp]; rfl)
            have HPC := Lib.hid (cerV_cl (v := .slice P1 pn pc) rfl hok)
            have HRE := Lib.hid (fun w => reright_any p.2.e w hok.1); have HRH := Lib.hid (fun w => rhright_any p.2.h w hok.2.2.1)
            have LE := Lib.hid (entV_length hok.1); have LH := Lib.hid (hdrV_length hok.2.2.1)
            have HBD := Lib.hid (show badCert p.2 = (!rightE p.2.e || !rightH p.2.h || decide (32 < pn)) by unfold badCert; rw [hid.2.1])
            have PE := Lib.hid (show ∀ j u, (entV p.2.e)[j]? = some u → (certV (.slice P1 pn pc) p.2)[0 + j]? = some u from fun j u hu => by
              rw [Nat.zero_add]; unfold certV; rw [List.getElem?_append_left (List.getElem?_eq_some_iff.1 hu).1]; exact hu)
            have PS := Lib.hid (show (certV (.slice P1 pn pc) p.2)[37]? = some (.slice P1 pn pc) by
              unfold certV; rw [List.getElem?_append_right (by rw [LE.out]; exact Nat.le_refl _), LE.out]; rfl)
            have PH := Lib.hid (show ∀ j u, (hdrV p.2.h)[j]? = some u → (certV (.slice P1 pn pc) p.2)[38 + j]? = some u from fun j u hu => by
              unfold certV; rw [List.getElem?_append_right (by rw [LE.out]; omega), LE.out, show 38 + j - 37 = j + 1 by omega, List.getElem?_cons_succ, List.getElem?_append_left (List.getElem?_eq_some_iff.1 hu).1]; exact hu)
            have HC := Lib.hid (show ∀ i u, (certV (.slice P1 pn pc) p.2)[i]? = some u → w_.cell? ⟨b, off + j * 137 + i, none⟩ = some u from fun i u hu => bcell HB.out (hc i u hu))
            have HSN := Lib.hid (show (crs.take (j + 1)).any badCert = ((crs.take j).any badCert || badCert p.2) by rw [List.take_add_one, HP.out, List.any_append]; simp)
            have HAB := Lib.hid (show badCert p.2 = true → bc = true from fun h => by rw [HBC.out, List.any_eq_true]; exact ⟨p.2, List.mem_of_getElem? HP.out, h⟩)
            obtain ⟨pv, hpv⟩ : ∃ z, z = certV (.slice P1 pn pc) p.2 := ⟨_, rfl⟩
            rw [← hpv] at HPC PE PS PH HC
            obtain ⟨ev, hev⟩ : ∃ z, z = entV p.2.e := ⟨_, rfl⟩
            obtain ⟨hv, hhv⟩ : ∃ z, z = hdrV p.2.h := ⟨_, rfl⟩
            rw [← hev] at PE LE HRE; rw [← hhv] at PH LH HRH
            obtain ⟨b1, hb1⟩ : ∃ z, z = rightE p.2.e := ⟨_, rfl⟩
            obtain ⟨b2, hb2⟩ : ∃ z, z = rightH p.2.h := ⟨_, rfl⟩
            obtain ⟨bd, hbd⟩ : ∃ z, z = badCert p.2 := ⟨_, rfl⟩
            rw [← hb1] at HRE HBD; rw [← hb2] at HRH HBD; rw [← hbd] at HBD HSN HAB
            clear hp hp1 hok hid hbl hc hpv hev hhv hb1 hb2 hbd
            go_wp2_with (first | (with_reducible refine wpl_loadm (o := ⟨some 124, _, _, _, _, _⟩) rfl rfl row_cert HC.out rfl HPC.out.len ?_) | (with_reducible refine wpl_alloc (o := ⟨some 6, _, _, _, _, _⟩) rfl rfl zero_cert ?_))
            intro w1_ hb1_ hbw1_ hsz1_
            have HB1_ := Lib.hid (at_mk hb1_ len_cert)
            have HBW1_ := Lib.hid hbw1_
            have HZ1_ := Lib.hid hsz1_
            clear hb1_ hbw1_ hsz1_
            go_wp2_with (first | (with_reducible refine wpl_storeb (o := ⟨none, .store _ _ _, _, _, _, _⟩) rfl rfl row_cert HB1_.out.blk rfl rfl HB1_.out.len HPC.out.len HPC.out.one ?_))
            intro w2_ hb2_ hg2_ hsz2_
            have hb_ := var_grow HBW1_.out HZ1_.out hg2_
            have HX_ := Lib.hid (at_mk hb2_ HPC.out.len)
            clear hb2_ hg2_ hsz2_ HB1_ HBW1_ HZ1_
            have HB_ := Lib.hid (HB.out.grow' hb_)
            clear HB
            have HB := HB_
            clear HB_
            have HX_ := Lib.hid (HX.out.grow hb_)
            clear HX
            have HX := HX_
            clear HX_
            generalize hg_ : w_.heap.size = g6 at HX_ ⊢
            clear hg_
            have HE := HX_
            clear hb_ HX_
            clear w1_
            try clear w_
            rename World => w_
            clear HC c5
            have ME := Lib.hid (show ∀ j u, ev[j]? = some u → w_.cell? ⟨g6, 0 + j, none⟩ = some u from fun j u hu => HE.out.blk.at_ (PE.out j u hu))
            go_wp2_with (first | (with_reducible refine wpl_loadm (o := ⟨some 126, _, _, _, _, _⟩) rfl rfl row_entry ME.out rfl LE.out ?_))
            refine (HRE.out _).mono ?_
            rintro e w_ ⟨rfl, hb_⟩
            have HB_ := Lib.hid (HB.out.grow' hb_)
            clear HB
            have HB := HB_
            clear HB_
            have HX_ := Lib.hid (HX.out.grow hb_)
            clear HX
            have HX := HX_
            clear HX_
            have HE_ := Lib.hid (HE.out.grow hb_)
            clear HE
            have HE := HE_
            clear HE_
            clear hb_
            clear ME
            have c5 := HX.out.blk.at_ X5.out
            cases b1 with
            | false =>
              have HV := Lib.hid (show bd = true by rw [HBD.out]; simp)
              have HN := Lib.hid (show ck = 16 by rw [HN5.out, HAB.out HV.out]; simp)
              go_wp2_with fail
              go_ret
              exact ⟨by rw [HN.out]; first | rfl | simp, HB.out⟩
            | true =>
              have MH := Lib.hid (show ∀ j u, hv[j]? = some u → w_.cell? ⟨g6, 38 + j, none⟩ = some u from fun j u hu => HE.out.blk.at_ (PH.out j u hu))
              go_wp2_with (first | (with_reducible refine wpl_loadmw (o := ⟨some 131, _, _, _, _, _⟩) (by first | rfl | (go_simp; done) | fail) rfl row_header MH.out rfl LH.out ?_))
              refine (HRH.out _).mono ?_
              rintro e w_ ⟨rfl, hb_⟩
              have HB_ := Lib.hid (HB.out.grow' hb_)
              clear HB
              have HB := HB_
              clear HB_
              have HX_ := Lib.hid (HX.out.grow hb_)
              clear HX
              have HX := HX_
              clear HX_
              have HE_ := Lib.hid (HE.out.grow hb_)
              clear HE
              have HE := HE_
              clear HE_
              clear hb_
              clear MH c5
              have c5 := HX.out.blk.at_ X5.out; have c37 := HE.out.blk.at_ PS.out
              cases b2 with
              | false =>
                have HV := Lib.hid (show bd = true by rw [HBD.out]; simp)
                have HN := Lib.hid (show ck = 16 by rw [HN5.out, HAB.out HV.out]; simp)
                go_wp2_with fail
                go_ret
                exact ⟨by rw [HN.out]; first | rfl | simp, HB.out⟩
              | true =>
                rcases Nat.lt_or_ge 32 pn with h32 | h32
                · have y32 : (32 : Int) < (pn : Int) := by omega
                  have HV := Lib.hid (show bd = true by rw [HBD.out]; simp [h32])
                  have HN := Lib.hid (show ck = 16 by rw [HN5.out, HAB.out HV.out]; simp)
                  go_wp2_with fail
                  go_ret
                  exact ⟨by rw [HN.out]; first | rfl | simp, HB.out⟩
                · have y32 := lt_f (a := 32) (b := (pn : Int)) (by omega)
                  have HV := Lib.hid (show bd = false by rw [HBD.out]; simp; omega)
                  have HU := Lib.hid (show (crs.take (j + 1)).any badCert = false by rw [HSN.out, hup.out, HV.out]; rfl)
                  have v1 : IntKind.i64.wrap ((j : Int) + 1) = (j : Int) + 1 := IntWalk.i64_in _ (by omega)
                  go_wp2_with fail
                  go_roundw
                  all_goals clear v1
                  case rel => exact ⟨j + 1, by omega, by go_num, HU, Lib.hid ⟨HX.out, HB.out⟩⟩
                  case measure => simp [intOf]; omega
          · obtain rfl : j = n3 := by omega
            have HN := Lib.hid (show ck = 0 by
              have h := hup.out
              rw [List.take_of_length_le (by rw [HN3.out]; exact Nat.le_refl _), ← HBC.out] at h
              rw [HN5.out, h]; simp)
            go_wp2_with fail
            go_ret
            exact ⟨by rw [HN.out]; first | rfl | simp, HB.out⟩
end Go.Proofs.Ytobmldegjajocaa

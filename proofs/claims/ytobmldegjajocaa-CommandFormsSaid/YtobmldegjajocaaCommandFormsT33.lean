/- The contract of seisinref24.Same. Printed by mkcmdb.py. -/
import Derived.Test.YtobmldegjajocaaCommandFormsT18
import Derived.Test.YtobmldegjajocaaCommandFormsT32
set_option linter.unusedSimpArgs false
/- The contract of seisinref24.Same. Printed by mkcmdb.py. -/
namespace Go.Proofs.Ytobmldegjajocaa
open Go.RowKit Go.Shelf
set_option linter.unusedVariables false
set_option maxRecDepth 100000 in
set_option maxHeartbeats 8000000 in
theorem rcmsame_any {res : Bool} {q1 q2 : CW} {m1 m2 : Cmd} (hres : res = true ↔ m1 = m2) (w : World) (h1 : CmdAt w q1 m1) (h2 : CmdAt w q2 m2) (hs : SmallC m1) :
    Calls Try.prog 13 #[.agg (q1.vs m1).toArray, .agg (q2.vs m2).toArray] w fun e w' => e = .returned (.bool res) ∧ Grow w w' := by
  obtain ⟨rt, hrt, hqt⟩ := out_eq h1.ok.2.2.2.1 h2.ok.2.2.2.1
  obtain ⟨rd, hrd, hqd⟩ := aid_eqQ m1.id m2.id h1.ok.2.2.2.2.2.2 h2.ok.2.2.2.2.2.2
  obtain ⟨rx, hrx⟩ := bool_of (m1.tx = m2.tx)
  obtain ⟨rc, hrc⟩ := bool_of (m1.certs = m2.certs)
  obtain ⟨rk, hrk⟩ := bool_of (m1.kind = m2.kind)
  obtain ⟨rs, hrs⟩ := bool_of (m1.serial = m2.serial)
  obtain ⟨re, hre⟩ := bool_of (m1.epoch = m2.epoch)
  have HRES := Lib.hid (same_parts hres hrk hrt hrs hre hrd hrx hrc)
  have HQT := Lib.hid hqt; have HQD := Lib.hid hqd
  have HTX := Lib.hid (fun (w' : World) (hg : Grow w w') => show Calls Try.prog 41 #[.agg (q1.tv m1).toArray, .agg (q2.tv m2).toArray] w' fun e w'' => e = .returned (.bool rx) ∧ Grow w' w'' from
    rtsame_any (by rw [h1.tx, h2.tx]; exact hrx) w' (by rw [← h1.n1]; have := hs.1; omega) (by rw [← h1.n2]; have := hs.2.1; omega) (fun p hp => hs.2.2.1 p.2 (by rw [h1.insE]; exact List.mem_map_of_mem hp)) (h1.ins.grow hg) (h2.ins.grow hg) (h1.outs.grow hg) (h2.outs.grow hg))
  have HC1 := Lib.hid (fun (w' : World) (hg : Grow w w') => h1.certs.grow hg); have HC2 := Lib.hid (fun (w' : World) (hg : Grow w w') => h2.certs.grow hg)
  have HPL := Lib.hid (show ∀ p ∈ q1.cl, p.2.path.length ≤ 1000000 from fun p hp => by have := hs.2.2.2.2 p.2 (by rw [h1.certsE]; exact List.mem_map_of_mem hp); omega)
  have HRC := Lib.hid (show rc = true ↔ q1.cl.map Prod.snd = q2.cl.map Prod.snd by rw [← h1.certsE, ← h2.certsE]; exact hrc)
  have HL1 := Lib.hid h1.certs.2.2.1; have HL2 := Lib.hid h2.certs.2.2.1
  have hn3 : q1.n3 ≤ 100000 := by rw [← h1.n3]; exact hs.2.2.2.1
  have HXC := Lib.hid (vs_cl (q := q1) h1.ok); have HYC := Lib.hid (vs_cl (q := q2) h2.ok)
  have X0 := Lib.hid (vs_kind q1 m1); have Y0 := Lib.hid (vs_kind q2 m2)
  have X5 := Lib.hid (vs_certs q1 m1); have Y5 := Lib.hid (vs_certs q2 m2)
  have X39 := Lib.hid (vs_serial (q := q1) h1.ok.2.2.2.1); have Y39 := Lib.hid (vs_serial (q := q2) h2.ok.2.2.2.1)
  have X40 := Lib.hid (vs_epoch (q := q1) h1.ok.2.2.2.1); have Y40 := Lib.hid (vs_epoch (q := q2) h2.ok.2.2.2.1)
  have XT := Lib.hid (fun j u (hu : (outV m1.dest)[j]? = some u) => vs_to (q := q1) hu); have YT := Lib.hid (fun j u (hu : (outV m2.dest)[j]? = some u) => vs_to (q := q2) hu)
  have XI := Lib.hid (fun j u (hu : (m1.id.map B)[j]? = some u) => vs_id (q := q1) h1.ok.2.2.2.1 hu); have YI := Lib.hid (fun j u (hu : (m2.id.map B)[j]? = some u) => vs_id (q := q2) h2.ok.2.2.2.1 hu)
  have XX := Lib.hid (fun j u (hu : (q1.tv m1)[j]? = some u) => vs_tx hu); have YX := Lib.hid (fun j u (hu : (q2.tv m2)[j]? = some u) => vs_tx hu)
  have LT := Lib.hid (outV_length h1.ok.2.2.2.1); have LU := Lib.hid (outV_length h2.ok.2.2.2.1)
  have LI := Lib.hid (show (m1.id.map B).length = 32 by rw [List.length_map]; exact h1.ok.2.2.2.2.2.2); have LJ := Lib.hid (show (m2.id.map B).length = 32 by rw [List.length_map]; exact h2.ok.2.2.2.2.2.2)
  have LX := Lib.hid (show (q1.tv m1).length = 4 from rfl); have LY := Lib.hid (show (q2.tv m2).length = 4 from rfl)
  obtain ⟨xv, hxv⟩ : ∃ z, z = q1.vs m1 := ⟨_, rfl⟩
  obtain ⟨yv, hyv⟩ : ∃ z, z = q2.vs m2 := ⟨_, rfl⟩
  obtain ⟨ts, hts⟩ : ∃ z, z = outV m1.dest := ⟨_, rfl⟩
  obtain ⟨us, hus⟩ : ∃ z, z = outV m2.dest := ⟨_, rfl⟩
  obtain ⟨is, his⟩ : ∃ z, z = m1.id.map B := ⟨_, rfl⟩
  obtain ⟨js, hjs⟩ : ∃ z, z = m2.id.map B := ⟨_, rfl⟩
  obtain ⟨tv, htv⟩ : ∃ z, z = q1.tv m1 := ⟨_, rfl⟩
  obtain ⟨uv, huv⟩ : ∃ z, z = q2.tv m2 := ⟨_, rfl⟩
  rw [← hxv] at HXC X0 X5 X39 X40 XT XI XX ⊢
  rw [← hyv] at HYC Y0 Y5 Y39 Y40 YT YI YX ⊢
  rw [← hts] at XT LT HQT; rw [← hus] at YT LU HQT
  rw [← his] at XI LI HQD; rw [← hjs] at YI LJ HQD
  rw [← htv] at XX LX HTX; rw [← huv] at YX LY HTX
  obtain ⟨k1, hk1⟩ : ∃ z, z = m1.kind := ⟨_, rfl⟩
  obtain ⟨k2, hk2⟩ : ∃ z, z = m2.kind := ⟨_, rfl⟩
  obtain ⟨s1, hs1⟩ : ∃ z, z = m1.serial := ⟨_, rfl⟩
  obtain ⟨s2, hs2⟩ : ∃ z, z = m2.serial := ⟨_, rfl⟩
  obtain ⟨e1, he1⟩ : ∃ z, z = m1.epoch := ⟨_, rfl⟩
  obtain ⟨e2, he2⟩ : ∃ z, z = m2.epoch := ⟨_, rfl⟩
  rw [← hk1] at X0 hrk; rw [← hk2] at Y0 hrk; rw [← hs1] at X39 hrs; rw [← hs2] at Y39 hrs; rw [← he1] at X40 hre; rw [← he2] at Y40 hre
  have HRK := Lib.hid hrk; have HRS := Lib.hid hrs; have HRE := Lib.hid hre
  obtain ⟨A, n, c, A2, n2, c2, A3, n3, c3, l1, cl1⟩ := q1
  obtain ⟨P, m, d, P2, o2, d2, P3, m3, d3, l2, cl2⟩ := q2
  simp only at HC1 HC2 HPL HRC HL1 HL2 hn3 X5 Y5
  clear hres h1 h2 hs hrt hqt hrd hqd hrx hrc hrk hrs hre hxv hyv hts hus his hjs htv huv hk1 hk2 hs1 hs2 he1 he2
  obtain ⟨w_, hw⟩ : ∃ x, x = w := ⟨_, rfl⟩
  have HB := Lib.hid (show Below w.heap.size w w_ by rw [hw]; exact Below.refl _ _)
  suffices H : Calls Try.prog 13 #[.agg xv.toArray, .agg yv.toArray] w_ fun e w' => e = .returned (.bool res) ∧ Grow w w' by rw [hw] at H; exact H
  clear hw
  go_enter Try.func13, Try.ntmps13
  go_wp2_with (first | (with_reducible refine wpl_box (o := ⟨some 2, _, _, _, _, _⟩) rfl rfl rfl ?_))
  intro w2_ hb2_ hb_ hsz2_
  have HX_ := Lib.hid (at_mk hb2_ HXC.out.len)
  clear hb2_ hsz2_
  have HG_ := Lib.hid HB.out.size
  have HB_ := Lib.hid (HB.out.grow' hb_)
  clear HB
  have HB := HB_
  clear HB_
  generalize hg_ : w_.heap.size = g1 at HX_ HG_ ⊢
  clear hg_
  have HX_g := HG_
  clear HG_
  have HX := HX_
  clear hb_ HX_
  try clear w_
  rename World => w_
  go_wp2_with (first | (with_reducible refine wpl_box (o := ⟨some 3, _, _, _, _, _⟩) rfl rfl rfl ?_))
  intro w2_ hb2_ hb_ hsz2_
  have HX_ := Lib.hid (at_mk hb2_ HYC.out.len)
  clear hb2_ hsz2_
  have HG_ := Lib.hid HB.out.size
  have HB_ := Lib.hid (HB.out.grow' hb_)
  clear HB
  have HB := HB_
  clear HB_
  have HX_ := Lib.hid (HX.out.grow hb_)
  clear HX
  have HX := HX_
  clear HX_
  generalize hg_ : w_.heap.size = g2 at HX_ HG_ ⊢
  clear hg_
  have HY_g := HG_
  clear HG_
  have HY := HX_
  clear hb_ HX_
  try clear w_
  rename World => w_
  have c0 := HX.out.blk.at_ X0.out; have d0 := HY.out.blk.at_ Y0.out
  have FT := Lib.hid (show ∀ j u, ts[j]? = some u → w_.cell? ⟨g1, 6 + j, none⟩ = some u from fun j u hu => HX.out.blk.at_ (XT.out j u hu))
  have FU := Lib.hid (show ∀ j u, us[j]? = some u → w_.cell? ⟨g2, 6 + j, none⟩ = some u from fun j u hu => HY.out.blk.at_ (YT.out j u hu))
  have FI := Lib.hid (show ∀ j u, is[j]? = some u → w_.cell? ⟨g1, 41 + j, none⟩ = some u from fun j u hu => HX.out.blk.at_ (XI.out j u hu))
  have FJ := Lib.hid (show ∀ j u, js[j]? = some u → w_.cell? ⟨g2, 41 + j, none⟩ = some u from fun j u hu => HY.out.blk.at_ (YI.out j u hu))
  have FX := Lib.hid (show ∀ j u, tv[j]? = some u → w_.cell? ⟨g1, 1 + j, none⟩ = some u from fun j u hu => HX.out.blk.at_ (XX.out j u hu))
  have FY := Lib.hid (show ∀ j u, uv[j]? = some u → w_.cell? ⟨g2, 1 + j, none⟩ = some u from fun j u hu => HY.out.blk.at_ (YX.out j u hu))
  have c39 := HX.out.blk.at_ X39.out; have d39 := HY.out.blk.at_ Y39.out; have c40 := HX.out.blk.at_ X40.out; have d40 := HY.out.blk.at_ Y40.out
  have heqt := HQT.out; have heqd := HQD.out
  cases rk with
  | false =>
    have z_ : k1 ≠ k2 := fun h => by have := HRK.out.2 h; cases this
    have z1 : (k1 == k2) = false := by simpa using z_
    have z2 : (k1 != k2) = true := by simpa using z_
    clear z_
    have HN := Lib.hid (show res = false by rw [HRES.out]; simp)
    go_wp2_with (first | (with_reducible refine wpl_loadmw (o := ⟨some 13, _, _, _, _, _⟩) (by first | rfl | (go_simp; done) | fail) rfl row_tout FT.out rfl LT.out ?_) | (with_reducible refine wpl_loadmw (o := ⟨some 15, _, _, _, _, _⟩) (by first | rfl | (go_simp; done) | fail) rfl row_tout FU.out rfl LU.out ?_) | (with_reducible refine wpl_loadmw (o := ⟨some 34, _, _, _, _, _⟩) (by first | rfl | (go_simp; done) | fail) rfl row_aid FI.out rfl LI.out ?_) | (with_reducible refine wpl_loadmw (o := ⟨some 36, _, _, _, _, _⟩) (by first | rfl | (go_simp; done) | fail) rfl row_aid FJ.out rfl LJ.out ?_) | (with_reducible refine wpl_loadmw (o := ⟨some 41, _, _, _, _, _⟩) (by first | rfl | (go_simp; done) | fail) rfl row_tx FX.out rfl LX.out ?_) | (with_reducible refine wpl_loadmw (o := ⟨some 43, _, _, _, _, _⟩) (by first | rfl | (go_simp; done) | fail) rfl row_tx FY.out rfl LY.out ?_))
    go_ret
    exact ⟨by rw [HN.out]; first | rfl | simp, HB.out⟩
  | true =>
    have z_ : k1 = k2 := HRK.out.1 rfl
    have z1 : (k1 == k2) = true := by simpa using z_
    have z2 : (k1 != k2) = false := by simpa using z_
    clear z_
    cases rt with
    | false =>
      have HN := Lib.hid (show res = false by rw [HRES.out]; simp)
      go_wp2_with (first | (with_reducible refine wpl_loadmw (o := ⟨some 13, _, _, _, _, _⟩) (by first | rfl | (go_simp; done) | fail) rfl row_tout FT.out rfl LT.out ?_) | (with_reducible refine wpl_loadmw (o := ⟨some 15, _, _, _, _, _⟩) (by first | rfl | (go_simp; done) | fail) rfl row_tout FU.out rfl LU.out ?_) | (with_reducible refine wpl_loadmw (o := ⟨some 34, _, _, _, _, _⟩) (by first | rfl | (go_simp; done) | fail) rfl row_aid FI.out rfl LI.out ?_) | (with_reducible refine wpl_loadmw (o := ⟨some 36, _, _, _, _, _⟩) (by first | rfl | (go_simp; done) | fail) rfl row_aid FJ.out rfl LJ.out ?_) | (with_reducible refine wpl_loadmw (o := ⟨some 41, _, _, _, _, _⟩) (by first | rfl | (go_simp; done) | fail) rfl row_tx FX.out rfl LX.out ?_) | (with_reducible refine wpl_loadmw (o := ⟨some 43, _, _, _, _, _⟩) (by first | rfl | (go_simp; done) | fail) rfl row_tx FY.out rfl LY.out ?_))
      go_ret
      exact ⟨by rw [HN.out]; first | rfl | simp, HB.out⟩
    | true =>
      cases rs with
      | false =>
        have z_ : s1 ≠ s2 := fun h => by have := HRS.out.2 h; cases this
        have z3 : (s1 == s2) = false := by simpa using z_
        have z4 : (s1 != s2) = true := by simpa using z_
        clear z_
        have HN := Lib.hid (show res = false by rw [HRES.out]; simp)
        go_wp2_with (first | (with_reducible refine wpl_loadmw (o := ⟨some 13, _, _, _, _, _⟩) (by first | rfl | (go_simp; done) | fail) rfl row_tout FT.out rfl LT.out ?_) | (with_reducible refine wpl_loadmw (o := ⟨some 15, _, _, _, _, _⟩) (by first | rfl | (go_simp; done) | fail) rfl row_tout FU.out rfl LU.out ?_) | (with_reducible refine wpl_loadmw (o := ⟨some 34, _, _, _, _, _⟩) (by first | rfl | (go_simp; done) | fail) rfl row_aid FI.out rfl LI.out ?_) | (with_reducible refine wpl_loadmw (o := ⟨some 36, _, _, _, _, _⟩) (by first | rfl | (go_simp; done) | fail) rfl row_aid FJ.out rfl LJ.out ?_) | (with_reducible refine wpl_loadmw (o := ⟨some 41, _, _, _, _, _⟩) (by first | rfl | (go_simp; done) | fail) rfl row_tx FX.out rfl LX.out ?_) | (with_reducible refine wpl_loadmw (o := ⟨some 43, _, _, _, _, _⟩) (by first | rfl | (go_simp; done) | fail) rfl row_tx FY.out rfl LY.out ?_))
        go_ret
        exact ⟨by rw [HN.out]; first | rfl | simp, HB.out⟩
      | true =>
        have z_ : s1 = s2 := HRS.out.1 rfl
        have z3 : (s1 == s2) = true := by simpa using z_
        have z4 : (s1 != s2) = false := by simpa using z_
        clear z_
        cases re with
        | false =>
          have z_ : e1 ≠ e2 := fun h => by have := HRE.out.2 h; cases this
          have z5 : (e1 == e2) = false := by simpa using z_
          have z6 : (e1 != e2) = true := by simpa using z_
          clear z_
          have HN := Lib.hid (show res = false by rw [HRES.out]; simp)
          go_wp2_with (first | (with_reducible refine wpl_loadmw (o := ⟨some 13, _, _, _, _, _⟩) (by first | rfl | (go_simp; done) | fail) rfl row_tout FT.out rfl LT.out ?_) | (with_reducible refine wpl_loadmw (o := ⟨some 15, _, _, _, _, _⟩) (by first | rfl | (go_simp; done) | fail) rfl row_tout FU.out rfl LU.out ?_) | (with_reducible refine wpl_loadmw (o := ⟨some 34, _, _, _, _, _⟩) (by first | rfl | (go_simp; done) | fail) rfl row_aid FI.out rfl LI.out ?_) | (with_reducible refine wpl_loadmw (o := ⟨some 36, _, _, _, _, _⟩) (by first | rfl | (go_simp; done) | fail) rfl row_aid FJ.out rfl LJ.out ?_) | (with_reducible refine wpl_loadmw (o := ⟨some 41, _, _, _, _, _⟩) (by first | rfl | (go_simp; done) | fail) rfl row_tx FX.out rfl LX.out ?_) | (with_reducible refine wpl_loadmw (o := ⟨some 43, _, _, _, _, _⟩) (by first | rfl | (go_simp; done) | fail) rfl row_tx FY.out rfl LY.out ?_))
          go_ret
          exact ⟨by rw [HN.out]; first | rfl | simp, HB.out⟩
        | true =>
          have z_ : e1 = e2 := HRE.out.1 rfl
          have z5 : (e1 == e2) = true := by simpa using z_
          have z6 : (e1 != e2) = false := by simpa using z_
          clear z_
          cases rd with
          | false =>
            have HN := Lib.hid (show res = false by rw [HRES.out]; simp)
            go_wp2_with (first | (with_reducible refine wpl_loadmw (o := ⟨some 13, _, _, _, _, _⟩) (by first | rfl | (go_simp; done) | fail) rfl row_tout FT.out rfl LT.out ?_) | (with_reducible refine wpl_loadmw (o := ⟨some 15, _, _, _, _, _⟩) (by first | rfl | (go_simp; done) | fail) rfl row_tout FU.out rfl LU.out ?_) | (with_reducible refine wpl_loadmw (o := ⟨some 34, _, _, _, _, _⟩) (by first | rfl | (go_simp; done) | fail) rfl row_aid FI.out rfl LI.out ?_) | (with_reducible refine wpl_loadmw (o := ⟨some 36, _, _, _, _, _⟩) (by first | rfl | (go_simp; done) | fail) rfl row_aid FJ.out rfl LJ.out ?_) | (with_reducible refine wpl_loadmw (o := ⟨some 41, _, _, _, _, _⟩) (by first | rfl | (go_simp; done) | fail) rfl row_tx FX.out rfl LX.out ?_) | (with_reducible refine wpl_loadmw (o := ⟨some 43, _, _, _, _, _⟩) (by first | rfl | (go_simp; done) | fail) rfl row_tx FY.out rfl LY.out ?_))
            go_ret
            exact ⟨by rw [HN.out]; first | rfl | simp, HB.out⟩
          | true =>
            go_wp2_with (first | (with_reducible refine wpl_loadmw (o := ⟨some 13, _, _, _, _, _⟩) (by first | rfl | (go_simp; done) | fail) rfl row_tout FT.out rfl LT.out ?_) | (with_reducible refine wpl_loadmw (o := ⟨some 15, _, _, _, _, _⟩) (by first | rfl | (go_simp; done) | fail) rfl row_tout FU.out rfl LU.out ?_) | (with_reducible refine wpl_loadmw (o := ⟨some 34, _, _, _, _, _⟩) (by first | rfl | (go_simp; done) | fail) rfl row_aid FI.out rfl LI.out ?_) | (with_reducible refine wpl_loadmw (o := ⟨some 36, _, _, _, _, _⟩) (by first | rfl | (go_simp; done) | fail) rfl row_aid FJ.out rfl LJ.out ?_) | (with_reducible refine wpl_loadmw (o := ⟨some 41, _, _, _, _, _⟩) (by first | rfl | (go_simp; done) | fail) rfl row_tx FX.out rfl LX.out ?_) | (with_reducible refine wpl_loadmw (o := ⟨some 43, _, _, _, _, _⟩) (by first | rfl | (go_simp; done) | fail) rfl row_tx FY.out rfl LY.out ?_))
            refine (HTX.out _ HB.out).mono ?_
            clear c0 d0 c39 d39 c40 d40 heqt heqd FT FU FI FJ FX FY z1 z2 z3 z4 z5 z6
            rintro e w2_ ⟨rfl, hb_⟩
            have hb_ := hb_
            clear hb_
            have HB_ := Lib.hid (HB.out.grow' hb_)
            clear HB
            have HB := HB_
            clear HB_
            have HX_ := Lib.hid (HX.out.grow hb_)
            clear HX
            have HX := HX_
            clear HX_
            have HY_ := Lib.hid (HY.out.grow hb_)
            clear HY
            have HY := HY_
            clear HY_
            clear hb_
            try clear w_
            rename World => w_
            have c5 := HX.out.blk.at_ X5.out; have d5 := HY.out.blk.at_ Y5.out
            cases rx with
            | false =>
              have HN := Lib.hid (show res = false by rw [HRES.out]; simp)
              go_wp2_with fail
              go_ret
              exact ⟨by rw [HN.out]; first | rfl | simp, HB.out⟩
            | true =>
              by_cases hl : n3 = m3
              · subst hl
                have g2 : ((n3 : Int) != (n3 : Int)) = false := by simp
                go_wp2_with fail
                clear g2
                go_loopw [5] (fun i wr => ∃ k : Nat, k ≤ n3 ∧ i = .int .i64 k ∧ Hid ((cl1.map Prod.snd).take k = (cl2.map Prod.snd).take k) ∧ Hid (At wr g1 33 73 xv ∧ At wr g2 33 73 yv ∧ Below w.heap.size w wr)) (fun i _ => n3 - (intOf i).toNat)
                case atStart => exact ⟨0, by omega, rfl, Lib.hid (by simp), Lib.hid ⟨HX.out, HY.out, HB.out⟩⟩
                case round =>
                  obtain ⟨k, hk, rfl, hup, hI⟩ := hrel
                  clear HB HX HY c5 d5
                  have HX := Lib.hid hI.out.1; have HY := Lib.hid hI.out.2.1; have HB := Lib.hid hI.out.2.2
                  clear hI
                  rename World => w_
                  have c5 := HX.out.blk.at_ X5.out; have d5 := HY.out.blk.at_ Y5.out
                  by_cases hlt : k < n3
                  · obtain ⟨b, off, p, P1, pn, pc, rfl, hp, hp1, hok, hid, hbl, hc⟩ := (HC1.out w (Below.refl _ _)).at_ hlt
                    obtain ⟨b2, off2, q, Q1, qn, qc, rfl, hp2, hq1, hok2, hid2, hbl2, hc2⟩ := (HC2.out w (Below.refl _ _)).at_ hlt
                    have HP := Lib.hid (show (cl1.map Prod.snd)[k]? = some p.2 by rw [List.getElem?_map, hp]; rfl)
                    have HP2 := Lib.hid (show (cl2.map Prod.snd)[k]? = some q.2 by rw [List.getElem?_map, hp2]; rfl)
                    have HPC := Lib.hid (cerV_cl (v := .slice P1 pn pc) rfl hok); have HQC := Lib.hid (cerV_cl (v := .slice Q1 qn qc) rfl hok2)
                    obtain ⟨r, hr⟩ := bool_of (p.2 = q.2)
                    have HRR := Lib.hid hr
                    have HL := Lib.hid (fun (w' : World) (hg : Grow w w') => rcsame_any (res := r) (by rw [Bool.eq_iff_iff, hr, decide_eq_true_eq]) w' hok hok2 (by rw [← hid.2.1]; exact HPL.out p (List.mem_of_getElem? hp)) (hid.grow hg) (hid2.grow hg))
                    have HC := Lib.hid (fun (w' : World) (hg : Grow w w') j u (hu : (certV (.slice P1 pn pc) p.2)[j]? = some u) => bcell hg (hc j u hu))
                    have HD := Lib.hid (fun (w' : World) (hg : Grow w w') j u (hu : (certV (.slice Q1 qn qc) q.2)[j]? = some u) => bcell hg (hc2 j u hu))
                    obtain ⟨pv, hpv⟩ : ∃ z, z = certV (.slice P1 pn pc) p.2 := ⟨_, rfl⟩
                    obtain ⟨qv, hqv⟩ : ∃ z, z = certV (.slice Q1 qn qc) q.2 := ⟨_, rfl⟩
                    rw [← hpv] at HPC HC HL
                    rw [← hqv] at HQC HD HL
                    clear hr hp hp2 hp1 hq1 hok hok2 hid hid2 hbl hbl2 hc hc2 hpv hqv
                    go_wp2_with fail
                    repeat' (first | (with_reducible refine wp_phase (id := 6) (fun (_ : Nat) w' => Below w_.heap.size w_ w') [] [(0,0),(0,0),(0,0),(0,0),(0,0),(0,0),(0,0),(0,0),(0,0),(0,0),(0,0),(0,0)] (by kernel_rfl) (by kernel_rfl) ?_ ?_) | go_values | go_skip | go_guarded | go_step | go_upon | go_back)
                    · exact Drawn.all (Drawn.one w_)
                    refine ph_value rfl (by first | rfl | go_simp) (fun k_ _ _ w_ hC_ => by first | (go_simp; rfl) | (go_simp; done) | rfl) (fun K hK => ?_)
                    go_simp
                    refine hK _ ?_
                    clear hK K
                    refine ph_value rfl (by first | rfl | go_simp) (fun k_ _ _ w_ hC_ => by have c1 := bcell hC_ c5; first | (go_simp; rfl) | (go_simp; done) | rfl) (fun K hK => ?_)
                    go_simp
                    refine hK _ ?_
                    clear hK K
                    refine ph_value rfl (by first | rfl | go_simp) (fun k_ _ _ w_ hC_ => by first | (go_simp; rfl) | (go_simp; done) | rfl) (fun K hK => ?_)
                    go_simp
                    refine hK _ ?_
                    clear hK K
                    refine ph_value rfl (by first | rfl | go_simp) (fun k_ _ _ w_ hC_ => by first | (go_simp; rfl) | (go_simp; done) | rfl) (fun K hK => ?_)
                    go_simp
                    refine hK _ ?_
                    clear hK K
                    refine ph_loadmk rfl (by first | rfl | go_simp) rfl row_cert (fun k _ _ w h j u hu => HC.out w (HB.out.grow' h) j u hu) (by first | rfl | (go_simp; done)) HPC.out.len ?_
                    (intro K hK; go_simp; refine hK _ ?_; clear hK K)
                    refine ph_value rfl (by first | rfl | go_simp) (fun k_ _ _ w_ hC_ => by first | (go_simp; rfl) | (go_simp; done) | rfl) (fun K hK => ?_)
                    go_simp
                    refine hK _ ?_
                    clear hK K
                    refine ph_value rfl (by first | rfl | go_simp) (fun k_ _ _ w_ hC_ => by have c1 := bcell hC_ d5; first | (go_simp; rfl) | (go_simp; done) | rfl) (fun K hK => ?_)
                    go_simp
                    refine hK _ ?_
                    clear hK K
                    refine ph_value rfl (by first | rfl | go_simp) (fun k_ _ _ w_ hC_ => by first | (go_simp; rfl) | (go_simp; done) | rfl) (fun K hK => ?_)
                    go_simp
                    refine hK _ ?_
                    clear hK K
                    refine ph_value rfl (by first | rfl | go_simp) (fun k_ _ _ w_ hC_ => by first | (go_simp; rfl) | (go_simp; done) | rfl) (fun K hK => ?_)
                    go_simp
                    refine hK _ ?_
                    clear hK K
                    refine ph_loadmk rfl (by first | rfl | go_simp) rfl row_cert (fun k _ _ w h j u hu => HD.out w (HB.out.grow' h) j u hu) (by first | rfl | (go_simp; done)) HQC.out.len ?_
                    (intro K hK; go_simp; refine hK _ ?_; clear hK K)
                    refine ph_call rfl (by first | rfl | go_simp) (fun w => by first | rfl | (go_simp; rfl) | go_simp) (fun k _ _ w h => (HL.out w (HB.out.grow' h)).mono fun e w' ⟨he, hb⟩ => ⟨he, below_step h h.size hb⟩) ?_
                    (intro K hK; go_simp; refine hK _ ?_; clear hK K)
                    refine ph_value rfl (by first | rfl | go_simp) (fun k_ _ _ w_ hC_ => by first | (go_simp; rfl) | (go_simp; done) | rfl) (fun K hK => ?_)
                    go_simp
                    refine hK _ ?_
                    clear hK K
                    refine ph_nil ?_
                    intro w3_ hb_
                    clear c5 d5 HL HC HD
                    have hb_ := hb_
                    clear hb_
                    have HB_ := Lib.hid (HB.out.grow' hb_)
                    clear HB
                    have HB := HB_
                    clear HB_
                    have HX_ := Lib.hid (HX.out.grow hb_)
                    clear HX
                    have HX := HX_
                    clear HX_
                    have HY_ := Lib.hid (HY.out.grow hb_)
                    clear HY
                    have HY := HY_
                    clear HY_
                    clear hb_
                    try clear w_
                    rename World => w_
                    have v1 : IntKind.i64.wrap ((k : Int) + 1) = (k : Int) + 1 := IntWalk.i64_in _ (by omega)
                    cases r with
                    | true =>
                      have HEQ := Lib.hid (show p.2 = q.2 from HRR.out.1 rfl)
                      go_wp2_with fail
                      go_roundw
                      all_goals clear v1
                      case rel => exact ⟨k + 1, by omega, by go_num, Lib.hid (by rw [List.take_add_one, List.take_add_one, HP.out, HP2.out, hup.out, HEQ.out]), Lib.hid ⟨HX.out, HY.out, HB.out⟩⟩
                      case measure => simp [intOf]; omega
                    | false =>
                      have HN := Lib.hid (show res = false by
                        rw [HRES.out]
                        cases rc with
                        | false => simp
                        | true =>
                          have h := HRC.out.1 rfl
                          have h1 := HP.out
                          rw [h, HP2.out] at h1
                          have := HRR.out.2 (Option.some.inj h1).symm
                          cases this)
                      clear v1
                      go_wp2_with fail
                      go_ret
                      exact ⟨by rw [HN.out]; rfl, HB.out⟩
                  · have HN := Lib.hid (show res = true by
                        rw [HRES.out]
                        have h := hup.out
                        rw [List.take_of_length_le (by rw [List.length_map, HL1.out]; omega), List.take_of_length_le (by rw [List.length_map, HL2.out]; omega)] at h
                        rw [HRC.out.2 h]; simp)
                    go_wp2_with fail
                    go_ret
                    exact ⟨by rw [HN.out]; rfl, HB.out⟩
              · have g2 : ((n3 : Int) != (m3 : Int)) = true := by simp; omega
                have HN := Lib.hid (show res = false by
                  rw [HRES.out]
                  cases rc with
                  | false => simp
                  | true => have h := congrArg List.length (HRC.out.1 rfl); rw [List.length_map, List.length_map, HL1.out, HL2.out] at h; exact absurd h hl)
                clear hl
                go_wp2_with fail
                go_ret
                exact ⟨by rw [HN.out]; first | rfl | simp, HB.out⟩
end Go.Proofs.Ytobmldegjajocaa

/- The given statement CommandSameSaid, out of the walk cmSame_walk: for every input the law returns true, and each argument reads as it did. No condition. -/
import Derived.Test.YtobmldegjajocaaCommandSameT18
import Derived.Test.YtobmldegjajocaaCommandSameT32
import Derived.Test.YtobmldegjajocaaCommandSameT15
import Derived.Test.YtobmldegjajocaaCommandSameT31
import Derived.Test.YtobmldegjajocaaRows
import Derived.ProofKit
import Derived.OpenShut
import Derived.ShutString
import Derived.ChangeOld
import Derived.Below
set_option linter.unusedSimpArgs false
/- The contract of seisinref24.Same. Printed by mkcmdb.py. -/
namespace Go.Proofs.Ytobmldegjajocaa
open Go.RowKit Go.Shelf
set_option linter.unusedVariables false
set_option maxRecDepth 100000 in
set_option maxHeartbeats 8000000 in
theorem rcmsame_any {res : Bool} {q1 q2 : CW} {m1 m2 : Cmd} (hres : res = true ↔ m1 = m2) (w : World) (h1 : CmdAt w q1 m1) (h2 : CmdAt w q2 m2) (hs : SmallC m1) :
    Calls Try.prog 13 #[.agg (q1.vs m1).toArray, .agg (q2.vs m2).toArray] w fun e w' => e = .returned (.bool res) ∧ Grow w w' := by
  obtain ⟨rt, hrt, hqt⟩ := out_eq h1.ok.2.2.2.1 h2.ok.2.2.2.1
  obtain ⟨rd, hrd, hqd⟩ := aid_eqQ m1.id m2.id h1.ok.2.2.2.2.2.2 h2.ok.2.2.2.2.2.2
  obtain ⟨rx, hrx⟩ := bool_of (m1.tx = m2.tx)
  obtain ⟨rc, hrc⟩ := bool_of (m1.certs = m2.certs)
  obtain ⟨rk, hrk⟩ := bool_of (m1.kind = m2.kind)
  obtain ⟨rs, hrs⟩ := bool_of (m1.serial = m2.serial)
  obtain ⟨re, hre⟩ := bool_of (m1.epoch = m2.epoch)
  have HRES := Lib.hid (same_parts hres hrk hrt hrs hre hrd hrx hrc)
  have HQT := Lib.hid hqt; have HQD := Lib.hid hqd
  have HTX := Lib.hid (fun (w' : World) (hg : Grow w w') => show Calls Try.prog 41 #[.agg (q1.tv m1).toArray, .agg (q2.tv m2).toArray] w' fun e w'' => e = .returned (.bool rx) ∧ Grow w' w'' from
    rtsame_any (by rw [h1.tx, h2.tx]; exact hrx) w' (by rw [← h1.n1]; have := hs.1; omega) (by rw [← h1.n2]; have := hs.2.1; omega) (fun p hp => hs.2.2.1 p.2 (by rw [h1.insE]; exact List.mem_map_of_mem hp)) (h1.ins.grow hg) (h2.ins.grow hg) (h1.outs.grow hg) (h2.outs.grow hg))
  have HC1 := Lib.hid (fun (w' : World) (hg : Grow w w') => h1.certs.grow hg); have HC2 := Lib.hid (fun (w' : World) (hg : Grow w w') => h2.certs.grow hg)
  have HPL := Lib.hid (show ∀ p ∈ q1.cl, p.2.path.length ≤ 1000000 from fun p hp => by have := hs.2.2.2.2 p.2 (by rw [h1.certsE]; exact List.mem_map_of_mem hp); omega)
  have HRC := Lib.hid (show rc = true ↔ q1.cl.map Prod.snd = q2.cl.map Prod.snd by rw [← h1.certsE, ← h2.certsE]; exact hrc)
  have HL1 := Lib.hid h1.certs.2.2.1; have HL2 := Lib.hid h2.certs.2.2.1
  have hn3 : q1.n3 ≤ 100000 := by rw [← h1.n3]; exact hs.2.2.2.1
  have HXC := Lib.hid (vs_cl (q := q1) h1.ok); have HYC := Lib.hid (vs_cl (q := q2) h2.ok)
  have X0 := Lib.hid (vs_kind q1 m1); have Y0 := Lib.hid (vs_kind q2 m2)
  have X5 := Lib.hid (vs_certs q1 m1); have Y5 := Lib.hid (vs_certs q2 m2)
  have X39 := Lib.hid (vs_serial (q := q1) h1.ok.2.2.2.1); have Y39 := Lib.hid (vs_serial (q := q2) h2.ok.2.2.2.1)
  have X40 := Lib.hid (vs_epoch (q := q1) h1.ok.2.2.2.1); have Y40 := Lib.hid (vs_epoch (q := q2) h2.ok.2.2.2.1)
  have XT := Lib.hid (fun j u (hu : (outV m1.dest)[j]? = some u) => vs_to (q := q1) hu); have YT := Lib.hid (fun j u (hu : (outV m2.dest)[j]? = some u) => vs_to (q := q2) hu)
  have XI := Lib.hid (fun j u (hu : (m1.id.map B)[j]? = some u) => vs_id (q := q1) h1.ok.2.2.2.1 hu); have YI := Lib.hid (fun j u (hu : (m2.id.map B)[j]? = some u) => vs_id (q := q2) h2.ok.2.2.2.1 hu)
  have XX := Lib.hid (fun j u (hu : (q1.tv m1)[j]? = some u) => vs_tx hu); have YX := Lib.hid (fun j u (hu : (q2.tv m2)[j]? = some u) => vs_tx hu)
  have LT := Lib.hid (outV_length h1.ok.2.2.2.1); have LU := Lib.hid (outV_length h2.ok.2.2.2.1)
  have LI := Lib.hid (show (m1.id.map B).length = 32 by rw [List.length_map]; exact h1.ok.2.2.2.2.2.2); have LJ := Lib.hid (show (m2.id.map B).length = 32 by rw [List.length_map]; exact h2.ok.2.2.2.2.2.2)
  have LX := Lib.hid (show (q1.tv m1).length = 4 from rfl); have LY := Lib.hid (show (q2.tv m2).length = 4 from rfl)
  obtain ⟨xv, hxv⟩ : ∃ z, z = q1.vs m1 := ⟨_, rfl⟩
  obtain ⟨yv, hyv⟩ : ∃ z, z = q2.vs m2 := ⟨_, rfl⟩
  obtain ⟨ts, hts⟩ : ∃ z, z = outV m1.dest := ⟨_, rfl⟩
  obtain ⟨us, hus⟩ : ∃ z, z = outV m2.dest := ⟨_, rfl⟩
  obtain ⟨is, his⟩ : ∃ z, z = m1.id.map B := ⟨_, rfl⟩
  obtain ⟨js, hjs⟩ : ∃ z, z = m2.id.map B := ⟨_, rfl⟩
  obtain ⟨tv, htv⟩ : ∃ z, z = q1.tv m1 := ⟨_, rfl⟩
  obtain ⟨uv, huv⟩ : ∃ z, z = q2.tv m2 := ⟨_, rfl⟩
  rw [← hxv] at HXC X0 X5 X39 X40 XT XI XX ⊢
  rw [← hyv] at HYC Y0 Y5 Y39 Y40 YT YI YX ⊢
  rw [← hts] at XT LT HQT; rw [← hus] at YT LU HQT
  rw [← his] at XI LI HQD; rw [← hjs] at YI LJ HQD
  rw [← htv] at XX LX HTX; rw [← huv] at YX LY HTX
  obtain ⟨k1, hk1⟩ : ∃ z, z = m1.kind := ⟨_, rfl⟩
  obtain ⟨k2, hk2⟩ : ∃ z, z = m2.kind := ⟨_, rfl⟩
  obtain ⟨s1, hs1⟩ : ∃ z, z = m1.serial := ⟨_, rfl⟩
  obtain ⟨s2, hs2⟩ : ∃ z, z = m2.serial := ⟨_, rfl⟩
  obtain ⟨e1, he1⟩ : ∃ z, z = m1.epoch := ⟨_, rfl⟩
  obtain ⟨e2, he2⟩ : ∃ z, z = m2.epoch := ⟨_, rfl⟩
  rw [← hk1] at X0 hrk; rw [← hk2] at Y0 hrk; rw [← hs1] at X39 hrs; rw [← hs2] at Y39 hrs; rw [← he1] at X40 hre; rw [← he2] at Y40 hre
  have HRK := Lib.hid hrk; have HRS := Lib.hid hrs; have HRE := Lib.hid hre
  obtain ⟨A, n, c, A2, n2, c2, A3, n3, c3, l1, cl1⟩ := q1
  obtain ⟨P, m, d, P2, o2, d2, P3, m3, d3, l2, cl2⟩ := q2
  simp only at HC1 HC2 HPL HRC HL1 HL2 hn3 X5 Y5
  clear hres h1 h2 hs hrt hqt hrd hqd hrx hrc hrk hrs hre hxv hyv hts hus his hjs htv huv hk1 hk2 hs1 hs2 he1 he2
  obtain ⟨w_, hw⟩ : ∃ x, x = w := ⟨_, rfl⟩
  have HB := Lib.hid (show Below w.heap.size w w_ by rw [hw]; exact Below.refl _ _)
  suffices H : Calls Try.prog 13 #[.agg xv.toArray, .agg yv.toArray] w_ fun e w' => e = .returned (.bool res) ∧ Grow w w' by rw [hw] at H; exact H
  clear hw
  go_enter Try.func13, Try.ntmps13
  go_wp2_with (first | (with_reducible refine wpl_box (o := ⟨some 2, _, _, _, _, _⟩) rfl rfl rfl ?_))
  intro w2_ hb2_ hb_ hsz2_
  have HX_ := Lib.hid (at_mk hb2_ HXC.out.len)
  clear hb2_ hsz2_
  have HG_ := Lib.hid HB.out.size
  have HB_ := Lib.hid (HB.out.grow' hb_)
  clear HB
  have HB := HB_
  clear HB_
  generalize hg_ : w_.heap.size = g1 at HX_ HG_ ⊢
  clear hg_
  have HX_g := HG_
  clear HG_
  have HX := HX_
  clear hb_ HX_
  try clear w_
  rename World => w_
  go_wp2_with (first | (with_reducible refine wpl_box (o := ⟨some 3, _, _, _, _, _⟩) rfl rfl rfl ?_))
  intro w2_ hb2_ hb_ hsz2_
  have HX_ := Lib.hid (at_mk hb2_ HYC.out.len)
  clear hb2_ hsz2_
  have HG_ := Lib.hid HB.out.size
  have HB_ := Lib.hid (HB.out.grow' hb_)
  clear HB
  have HB := HB_
  clear HB_
  have HX_ := Lib.hid (HX.out.grow hb_)
  clear HX
  have HX := HX_
  clear HX_
  generalize hg_ : w_.heap.size = g2 at HX_ HG_ ⊢
  clear hg_
  have HY_g := HG_
  clear HG_
  have HY := HX_
  clear hb_ HX_
  try clear w_
  rename World => w_
  have c0 := HX.out.blk.at_ X0.out; have d0 := HY.out.blk.at_ Y0.out
  have FT := Lib.hid (show ∀ j u, ts[j]? = some u → w_.cell? ⟨g1, 6 + j, none⟩ = some u from fun j u hu => HX.out.blk.at_ (XT.out j u hu))
  have FU := Lib.hid (show ∀ j u, us[j]? = some u → w_.cell? ⟨g2, 6 + j, none⟩ = some u from fun j u hu => HY.out.blk.at_ (YT.out j u hu))
  have FI := Lib.hid (show ∀ j u, is[j]? = some u → w_.cell? ⟨g1, 41 + j, none⟩ = some u from fun j u hu => HX.out.blk.at_ (XI.out j u hu))
  have FJ := Lib.hid (show ∀ j u, js[j]? = some u → w_.cell? ⟨g2, 41 + j, none⟩ = some u from fun j u hu => HY.out.blk.at_ (YI.out j u hu))
  have FX := Lib.hid (show ∀ j u, tv[j]? = some u → w_.cell? ⟨g1, 1 + j, none⟩ = some u from fun j u hu => HX.out.blk.at_ (XX.out j u hu))
  have FY := Lib.hid (show ∀ j u, uv[j]? = some u → w_.cell? ⟨g2, 1 + j, none⟩ = some u from fun j u hu => HY.out.blk.at_ (YX.out j u hu))
  have c39 := HX.out.blk.at_ X39.out; have d39 := HY.out.blk.at_ Y39.out; have c40 := HX.out.blk.at_ X40.out; have d40 := HY.out.blk.at_ Y40.out
  have heqt := HQT.out; have heqd := HQD.out
  cases rk with
  | false =>
    have z_ : k1 ≠ k2 := fun h => by have := HRK.out.2 h; cases this
    have z1 : (k1 == k2) = false := by simpa using z_
    have z2 : (k1 != k2) = true := by simpa using z_
    clear z_
    have HN := Lib.hid (show res = false by rw [HRES.out]; simp)
    go_wp2_with (first | (with_reducible refine wpl_loadmw (o := ⟨some 13, _, _, _, _, _⟩) (by first | rfl | (go_simp; done) | fail) rfl row_tout FT.out rfl LT.out ?_) | (with_reducible refine wpl_loadmw (o := ⟨some 15, _, _, _, _, _⟩) (by first | rfl | (go_simp; done) | fail) rfl row_tout FU.out rfl LU.out ?_) | (with_reducible refine wpl_loadmw (o := ⟨some 34, _, _, _, _, _⟩) (by first | rfl | (go_simp; done) | fail) rfl row_aid FI.out rfl LI.out ?_) | (with_reducible refine wpl_loadmw (o := ⟨some 36, _, _, _, _, _⟩) (by first | rfl | (go_simp; done) | fail) rfl row_aid FJ.out rfl LJ.out ?_) | (with_reducible refine wpl_loadmw (o := ⟨some 41, _, _, _, _, _⟩) (by first | rfl | (go_simp; done) | fail) rfl row_tx FX.out rfl LX.out ?_) | (with_reducible refine wpl_loadmw (o := ⟨some 43, _, _, _, _, _⟩) (by first | rfl | (go_simp; done) | fail) rfl row_tx FY.out rfl LY.out ?_))
    go_ret
    exact ⟨by rw [HN.out]; first | rfl | simp, HB.out⟩
  | true =>
    have z_ : k1 = k2 := HRK.out.1 rfl
    have z1 : (k1 == k2) = true := by simpa using z_
    have z2 : (k1 != k2) = false := by simpa using z_
    clear z_
    cases rt with
    | false =>
      have HN := Lib.hid (show res = false by rw [HRES.out]; simp)
      go_wp2_with (first | (with_reducible refine wpl_loadmw (o := ⟨some 13, _, _, _, _, _⟩) (by first | rfl | (go_simp; done) | fail) rfl row_tout FT.out rfl LT.out ?_) | (with_reducible refine wpl_loadmw (o := ⟨some 15, _, _, _, _, _⟩) (by first | rfl | (go_simp; done) | fail) rfl row_tout FU.out rfl LU.out ?_) | (with_reducible refine wpl_loadmw (o := ⟨some 34, _, _, _, _, _⟩) (by first | rfl | (go_simp; done) | fail) rfl row_aid FI.out rfl LI.out ?_) | (with_reducible refine wpl_loadmw (o := ⟨some 36, _, _, _, _, _⟩) (by first | rfl | (go_simp; done) | fail) rfl row_aid FJ.out rfl LJ.out ?_) | (with_reducible refine wpl_loadmw (o := ⟨some 41, _, _, _, _, _⟩) (by first | rfl | (go_simp; done) | fail) rfl row_tx FX.out rfl LX.out ?_) | (with_reducible refine wpl_loadmw (o := ⟨some 43, _, _, _, _, _⟩) (by first | rfl | (go_simp; done) | fail) rfl row_tx FY.out rfl LY.out ?_))
      go_ret
      exact ⟨by rw [HN.out]; first | rfl | simp, HB.out⟩
    | true =>
      cases rs with
      | false =>
        have z_ : s1 ≠ s2 := fun h => by have := HRS.out.2 h; cases this
        have z3 : (s1 == s2) = false := by simpa using z_
        have z4 : (s1 != s2) = true := by simpa using z_
        clear z_
        have HN := Lib.hid (show res = false by rw [HRES.out]; simp)
        go_wp2_with (first | (with_reducible refine wpl_loadmw (o := ⟨some 13, _, _, _, _, _⟩) (by first | rfl | (go_simp; done) | fail) rfl row_tout FT.out rfl LT.out ?_) | (with_reducible refine wpl_loadmw (o := ⟨some 15, _, _, _, _, _⟩) (by first | rfl | (go_simp; done) | fail) rfl row_tout FU.out rfl LU.out ?_) | (with_reducible refine wpl_loadmw (o := ⟨some 34, _, _, _, _, _⟩) (by first | rfl | (go_simp; done) | fail) rfl row_aid FI.out rfl LI.out ?_) | (with_reducible refine wpl_loadmw (o := ⟨some 36, _, _, _, _, _⟩) (by first | rfl | (go_simp; done) | fail) rfl row_aid FJ.out rfl LJ.out ?_) | (with_reducible refine wpl_loadmw (o := ⟨some 41, _, _, _, _, _⟩) (by first | rfl | (go_simp; done) | fail) rfl row_tx FX.out rfl LX.out ?_) | (with_reducible refine wpl_loadmw (o := ⟨some 43, _, _, _, _, _⟩) (by first | rfl | (go_simp; done) | fail) rfl row_tx FY.out rfl LY.out ?_))
        go_ret
        exact ⟨by rw [HN.out]; first | rfl | simp, HB.out⟩
      | true =>
        have z_ : s1 = s2 := HRS.out.1 rfl
        have z3 : (s1 == s2) = true := by simpa using z_
        have z4 : (s1 != s2) = false := by simpa using z_
        clear z_
        cases re with
        | false =>
          have z_ : e1 ≠ e2 := fun h => by have := HRE.out.2 h; cases this
          have z5 : (e1 == e2) = false := by simpa using z_
          have z6 : (e1 != e2) = true := by simpa using z_
          clear z_
          have HN := Lib.hid (show res = false by rw [HRES.out]; simp)
          go_wp2_with (first | (with_reducible refine wpl_loadmw (o := ⟨some 13, _, _, _, _, _⟩) (by first | rfl | (go_simp; done) | fail) rfl row_tout FT.out rfl LT.out ?_) | (with_reducible refine wpl_loadmw (o := ⟨some 15, _, _, _, _, _⟩) (by first | rfl | (go_simp; done) | fail) rfl row_tout FU.out rfl LU.out ?_) | (with_reducible refine wpl_loadmw (o := ⟨some 34, _, _, _, _, _⟩) (by first | rfl | (go_simp; done) | fail) rfl row_aid FI.out rfl LI.out ?_) | (with_reducible refine wpl_loadmw (o := ⟨some 36, _, _, _, _, _⟩) (by first | rfl | (go_simp; done) | fail) rfl row_aid FJ.out rfl LJ.out ?_) | (with_reducible refine wpl_loadmw (o := ⟨some 41, _, _, _, _, _⟩) (by first | rfl | (go_simp; done) | fail) rfl row_tx FX.out rfl LX.out ?_) | (with_reducible refine wpl_loadmw (o := ⟨some 43, _, _, _, _, _⟩) (by first | rfl | (go_simp; done) | fail) rfl row_tx FY.out rfl LY.out ?_))
          go_ret
          exact ⟨by rw [HN.out]; first | rfl | simp, HB.out⟩
        | true =>
          have z_ : e1 = e2 := HRE.out.1 rfl
          have z5 : (e1 == e2) = true := by simpa using z_
          have z6 : (e1 != e2) = false := by simpa using z_
          clear z_
          cases rd with
          | false =>
            have HN := Lib.hid (show res = false by rw [HRES.out]; simp)
            go_wp2_with (first | (with_reducible refine wpl_loadmw (o := ⟨some 13, _, _, _, _, _⟩) (by first | rfl | (go_simp; done) | fail) rfl row_tout FT.out rfl LT.out ?_) | (with_reducible refine wpl_loadmw (o := ⟨some 15, _, _, _, _, _⟩) (by first | rfl | (go_simp; done) | fail) rfl row_tout FU.out rfl LU.out ?_) | (with_reducible refine wpl_loadmw (o := ⟨some 34, _, _, _, _, _⟩) (by first | rfl | (go_simp; done) | fail) rfl row_aid FI.out rfl LI.out ?_) | (with_reducible refine wpl_loadmw (o := ⟨some 36, _, _, _, _, _⟩) (by first | rfl | (go_simp; done) | fail) rfl row_aid FJ.out rfl LJ.out ?_) | (with_reducible refine wpl_loadmw (o := ⟨some 41, _, _, _, _, _⟩) (by first | rfl | (go_simp; done) | fail) rfl row_tx FX.out rfl LX.out ?_) | (with_reducible refine wpl_loadmw (o := ⟨some 43, _, _, _, _, _⟩) (by first | rfl | (go_simp; done) | fail) rfl row_tx FY.out rfl LY.out ?_))
            go_ret
            exact ⟨by rw [HN.out]; first | rfl | simp, HB.out⟩
          | true =>
            go_wp2_with (first | (with_reducible refine wpl_loadmw (o := ⟨some 13, _, _, _, _, _⟩) (by first | rfl | (go_simp; done) | fail) rfl row_tout FT.out rfl LT.out ?_) | (with_reducible refine wpl_loadmw (o := ⟨some 15, _, _, _, _, _⟩) (by first | rfl | (go_simp; done) | fail) rfl row_tout FU.out rfl LU.out ?_) | (with_reducible refine wpl_loadmw (o := ⟨some 34, _, _, _, _, _⟩) (by first | rfl | (go_simp; done) | fail) rfl row_aid FI.out rfl LI.out ?_) | (with_reducible refine wpl_loadmw (o := ⟨some 36, _, _, _, _, _⟩) (by first | rfl | (go_simp; done) | fail) rfl row_aid FJ.out rfl LJ.out ?_) | (with_reducible refine wpl_loadmw (o := ⟨some 41, _, _, _, _, _⟩) (by first | rfl | (go_simp; done) | fail) rfl row_tx FX.out rfl LX.out ?_) | (with_reducible refine wpl_loadmw (o := ⟨some 43, _, _, _, _, _⟩) (by first | rfl | (go_simp; done) | fail) rfl row_tx FY.out rfl LY.out ?_))
            refine (HTX.out _ HB.out).mono ?_
            clear c0 d0 c39 d39 c40 d40 heqt heqd FT FU FI FJ FX FY z1 z2 z3 z4 z5 z6
            rintro e w2_ ⟨rfl, hb_⟩
            have hb_ := hb_
            clear hb_
            have HB_ := Lib.hid (HB.out.grow' hb_)
            clear HB
            have HB := HB_
            clear HB_
            have HX_ := Lib.hid (HX.out.grow hb_)
            clear HX
            have HX := HX_
            clear HX_
            have HY_ := Lib.hid (HY.out.grow hb_)
            clear HY
            have HY := HY_
            clear HY_
            clear hb_
            try clear w_
            rename World => w_
            have c5 := HX.out.blk.at_ X5.out; have d5 := HY.out.blk.at_ Y5.out
            cases rx with
            | false =>
              have HN := Lib.hid (show res = false by rw [HRES.out]; simp)
              go_wp2_with fail
              go_ret
              exact ⟨by rw [HN.out]; first | rfl | simp, HB.out⟩
            | true =>
              by_cases hl : n3 = m3
              · subst hl
                have g2 : ((n3 : Int) != (n3 : Int)) = false := by simp
                go_wp2_with fail
                clear g2
                go_loopw [5] (fun i wr => ∃ k : Nat, k ≤ n3 ∧ i = .int .i64 k ∧ Hid ((cl1.map Prod.snd).take k = (cl2.map Prod.snd).take k) ∧ Hid (At wr g1 33 73 xv ∧ At wr g2 33 73 yv ∧ Below w.heap.size w wr)) (fun i _ => n3 - (intOf i).toNat)
                case atStart => exact ⟨0, by omega, rfl, Lib.hid (by simp), Lib.hid ⟨HX.out, HY.out, HB.out⟩⟩
                case round =>
                  obtain ⟨k, hk, rfl, hup, hI⟩ := hrel
                  clear HB HX HY c5 d5
                  have HX := Lib.hid hI.out.1; have HY := Lib.hid hI.out.2.1; have HB := Lib.hid hI.out.2.2
                  clear hI
                  rename World => w_
                  have c5 := HX.out.blk.at_ X5.out; have d5 := HY.out.blk.at_ Y5.out
                  by_cases hlt : k < n3
                  · obtain ⟨b, off, p, P1, pn, pc, rfl, hp, hp1, hok, hid, hbl, hc⟩ := (HC1.out w (Below.refl _ _)).at_ hlt
                    obtain ⟨b2, off2, q, Q1, qn, qc, rfl, hp2, hq1, hok2, hid2, hbl2, hc2⟩ := (HC2.out w (Below.refl _ _)).at_ hlt
                    have HP := Lib.hid (show (cl1.map Prod.snd)[k]? = some p.2 by rw [List.getElem?_map, hp]; rfl)
                    have HP2 := Lib.hid (show (cl2.map Prod.snd)[k]? = some q.2 by rw [List.getElem?_map, hp2]; rfl)
                    have HPC := Lib.hid (cerV_cl (v := .slice P1 pn pc) rfl hok); have HQC := Lib.hid (cerV_cl (v := .slice Q1 qn qc) rfl hok2)
                    obtain ⟨r, hr⟩ := bool_of (p.2 = q.2)
                    have HRR := Lib.hid hr
                    have HL := Lib.hid (fun (w' : World) (hg : Grow w w') => rcsame_any (res := r) (by rw [Bool.eq_iff_iff, hr, decide_eq_true_eq]) w' hok hok2 (by rw [← hid.2.1]; exact HPL.out p (List.mem_of_getElem? hp)) (hid.grow hg) (hid2.grow hg))
                    have HC := Lib.hid (fun (w' : World) (hg : Grow w w') j u (hu : (certV (.slice P1 pn pc) p.2)[j]? = some u) => bcell hg (hc j u hu))
                    have HD := Lib.hid (fun (w' : World) (hg : Grow w w') j u (hu : (certV (.slice Q1 qn qc) q.2)[j]? = some u) => bcell hg (hc2 j u hu))
                    obtain ⟨pv, hpv⟩ : ∃ z, z = certV (.slice P1 pn pc) p.2 := ⟨_, rfl⟩
                    obtain ⟨qv, hqv⟩ : ∃ z, z = certV (.slice Q1 qn qc) q.2 := ⟨_, rfl⟩
                    rw [← hpv] at HPC HC HL
                    rw [← hqv] at HQC HD HL
                    clear hr hp hp2 hp1 hq1 hok hok2 hid hid2 hbl hbl2 hc hc2 hpv hqv
                    go_wp2_with fail
                    repeat' (first | (with_reducible refine wp_phase (id := 6) (fun (_ : Nat) w' => Below w_.heap.size w_ w') [] [(0,0),(0,0),(0,0),(0,0),(0,0),(0,0),(0,0),(0,0),(0,0),(0,0),(0,0),(0,0)] (by kernel_rfl) (by kernel_rfl) ?_ ?_) | go_values | go_skip | go_guarded | go_step | go_upon | go_back)
                    · exact Drawn.all (Drawn.one w_)
                    refine ph_value rfl (by first | rfl | go_simp) (fun k_ _ _ w_ hC_ => by first | (go_simp; rfl) | (go_simp; done) | rfl) (fun K hK => ?_)
                    go_simp
                    refine hK _ ?_
                    clear hK K
                    refine ph_value rfl (by first | rfl | go_simp) (fun k_ _ _ w_ hC_ => by have c1 := bcell hC_ c5; first | (go_simp; rfl) | (go_simp; done) | rfl) (fun K hK => ?_)
                    go_simp
                    refine hK _ ?_
                    clear hK K
                    refine ph_value rfl (by first | rfl | go_simp) (fun k_ _ _ w_ hC_ => by first | (go_simp; rfl) | (go_simp; done) | rfl) (fun K hK => ?_)
                    go_simp
                    refine hK _ ?_
                    clear hK K
                    refine ph_value rfl (by first | rfl | go_simp) (fun k_ _ _ w_ hC_ => by first | (go_simp; rfl) | (go_simp; done) | rfl) (fun K hK => ?_)
                    go_simp
                    refine hK _ ?_
                    clear hK K
                    refine ph_loadmk rfl (by first | rfl | go_simp) rfl row_cert (fun k _ _ w h j u hu => HC.out w (HB.out.grow' h) j u hu) (by first | rfl | (go_simp; done)) HPC.out.len ?_
                    (intro K hK; go_simp; refine hK _ ?_; clear hK K)
                    refine ph_value rfl (by first | rfl | go_simp) (fun k_ _ _ w_ hC_ => by first | (go_simp; rfl) | (go_simp; done) | rfl) (fun K hK => ?_)
                    go_simp
                    refine hK _ ?_
                    clear hK K
                    refine ph_value rfl (by first | rfl | go_simp) (fun k_ _ _ w_ hC_ => by have c1 := bcell hC_ d5; first | (go_simp; rfl) | (go_simp; done) | rfl) (fun K hK => ?_)
                    go_simp
                    refine hK _ ?_
                    clear hK K
                    refine ph_value rfl (by first | rfl | go_simp) (fun k_ _ _ w_ hC_ => by first | (go_simp; rfl) | (go_simp; done) | rfl) (fun K hK => ?_)
                    go_simp
                    refine hK _ ?_
                    clear hK K
                    refine ph_value rfl (by first | rfl | go_simp) (fun k_ _ _ w_ hC_ => by first | (go_simp; rfl) | (go_simp; done) | rfl) (fun K hK => ?_)
                    go_simp
                    refine hK _ ?_
                    clear hK K
                    refine ph_loadmk rfl (by first | rfl | go_simp) rfl row_cert (fun k _ _ w h j u hu => HD.out w (HB.out.grow' h) j u hu) (by first | rfl | (go_simp; done)) HQC.out.len ?_
                    (intro K hK; go_simp; refine hK _ ?_; clear hK K)
                    refine ph_call rfl (by first | rfl | go_simp) (fun w => by first | rfl | (go_simp; rfl) | go_simp) (fun k _ _ w h => (HL.out w (HB.out.grow' h)).mono fun e w' ⟨he, hb⟩ => ⟨he, below_step h h.size hb⟩) ?_
                    (intro K hK; go_simp; refine hK _ ?_; clear hK K)
                    refine ph_value rfl (by first | rfl | go_simp) (fun k_ _ _ w_ hC_ => by first | (go_simp; rfl) | (go_simp; done) | rfl) (fun K hK => ?_)
                    go_simp
                    refine hK _ ?_
                    clear hK K
                    refine ph_nil ?_
                    intro w3_ hb_
                    clear c5 d5 HL HC HD
                    have hb_ := hb_
                    clear hb_
                    have HB_ := Lib.hid (HB.out.grow' hb_)
                    clear HB
                    have HB := HB_
                    clear HB_
                    have HX_ := Lib.hid (HX.out.grow hb_)
                    clear HX
                    have HX := HX_
                    clear HX_
                    have HY_ := Lib.hid (HY.out.grow hb_)
                    clear HY
                    have HY := HY_
                    clear HY_
                    clear hb_
                    try clear w_
                    rename World => w_
                    have v1 : IntKind.i64.wrap ((k : Int) + 1) = (k : Int) + 1 := IntWalk.i64_in _ (by omega)
                    cases r with
                    | true =>
                      have HEQ := Lib.hid (show p.2 = q.2 from HRR.out.1 rfl)
                      go_wp2_with fail
                      go_roundw
                      all_goals clear v1
                      case rel => exact ⟨k + 1, by omega, by go_num, Lib.hid (by rw [List.take_add_one, List.take_add_one, HP.out, HP2.out, hup.out, HEQ.out]), Lib.hid ⟨HX.out, HY.out, HB.out⟩⟩
                      case measure => simp [intOf]; omega
                    | false =>
                      have HN := Lib.hid (show res = false by
                        rw [HRES.out]
                        cases rc with
                        | false => simp
                        | true =>
                          have h := HRC.out.1 rfl
                          have h1 := HP.out
                          rw [h, HP2.out] at h1
                          have := HRR.out.2 (Option.some.inj h1).symm
                          cases this)
                      clear v1
                      go_wp2_with fail
                      go_ret
                      exact ⟨by rw [HN.out]; rfl, HB.out⟩
                  · have HN := Lib.hid (show res = true by
                        rw [HRES.out]
                        have h := hup.out
                        rw [List.take_of_length_le (by rw [List.length_map, HL1.out]; omega), List.take_of_length_le (by rw [List.length_map, HL2.out]; omega)] at h
                        rw [HRC.out.2 h]; simp)
                    go_wp2_with fail
                    go_ret
                    exact ⟨by rw [HN.out]; rfl, HB.out⟩
              · have g2 : ((n3 : Int) != (m3 : Int)) = true := by simp; omega
                have HN := Lib.hid (show res = false by
                  rw [HRES.out]
                  cases rc with
                  | false => simp
                  | true => have h := congrArg List.length (HRC.out.1 rfl); rw [List.length_map, List.length_map, HL1.out, HL2.out] at h; exact absurd h hl)
                clear hl
                go_wp2_with fail
                go_ret
                exact ⟨by rw [HN.out]; first | rfl | simp, HB.out⟩
end Go.Proofs.Ytobmldegjajocaa
/- A command that is given is opened, with its sizes. -/
namespace Go.Proofs.Ytobmldegjajocaa
open Go.RowKit Go.ChangeShapes Go.WideShapes
set_option linter.unusedVariables false
set_option maxRecDepth 100000
section
variable {H : Type} {enc : TypeId × Value → H} {w : World} {r : Reach} {b0 base : Nat} {spare : Nat → Bool} {held : Bool}
theorem trod_txM {fuel : Nat} {cs : List Value} {y : DataW H × List MemPlace} (hl0 : cs.length = 4) (hf : DataW.trod enc Try.prog w base spare held fuel 26 cs = some y) :
    ∃ A n c A2 n2 c2, ∃ l : List (Value × Inp), ∃ os : List Outp, ∃ fee ex : Int, cs = txV A n c A2 n2 c2 fee ex ∧ InsAt w A n c l ∧ OutsAt w A2 n2 c2 os ∧ U64 fee ∧ I64 ex ∧ n ≤ maxLen ∧ n2 ≤ maxLen := by
  obtain ⟨xs, n, _, _, hl, hxs, hg⟩ := DataW.trod_struct Try.underlying26 hf
  replace hg := fun i f h => hg i f h
  have hxs5 : xs.length = 4 := hxs
  obtain ⟨y0, h0⟩ := got (hg 0 _ rfl) (by omega)
  obtain ⟨y1, h1⟩ := got (hg 1 _ rfl) (by omega)
  obtain ⟨y2, h2⟩ := got (hg 2 _ rfl) (by omega)
  obtain ⟨y3, h3⟩ := got (hg 3 _ rfl) (by omega)
  replace h0 : DataW.trod enc Try.prog w base spare held n 22 ((cs.drop 0).take (Try.prog.cellsOf 22)) = some y0 := h0
  replace h1 : DataW.trod enc Try.prog w base spare held n 23 ((cs.drop 1).take (Try.prog.cellsOf 23)) = some y1 := h1
  replace h2 : DataW.trod enc Try.prog w base spare held n 24 ((cs.drop 2).take (Try.prog.cellsOf 24)) = some y2 := h2
  replace h3 : DataW.trod enc Try.prog w base spare held n 3 ((cs.drop 3).take (Try.prog.cellsOf 3)) = some y3 := h3
  rw [cells_stin] at h0
  rw [cells_stout] at h1
  rw [cells_u64] at h2
  rw [cells_int] at h3
  obtain ⟨A, m, c, l, e0, l0, m0, x0, s0, k0, _⟩ := open_list0 (fun p : Value × Inp => inV p.1 p.2) (fun p => InOK w w.heap.size p) Try.underlying22 cells_tin (show 0 < 35 by omega) (fun fuel cs y hl ht => trod_in hl ht) h0
  obtain ⟨A2, m2, c2, os, e1, l1, m1, x1, s1, k1, _⟩ := open_list0 outV Outp.ok Try.underlying23 cells_tout (show 0 < 33 by omega) (fun fuel cs y hl ht => trod_out hl ht) h1
  obtain ⟨z2, e2, _, w2⟩ := DataW.trod_int Try.underlying24 h2
  obtain ⟨z3, e3, _, w3⟩ := DataW.trod_int Try.underlying3 h3
  refine ⟨A, m, c, A2, m2, c2, l, os, z2, z3, ?_, ⟨s0, k0, l0, m0⟩, ⟨s1, k1, l1, m1⟩, u64_of w2, i64_of w3, Nat.le_trans m0 x0, Nat.le_trans m1 x1⟩
  have a4 : cs.drop 4 = [] := List.drop_of_length_le (by omega)
  have a3 := cut_eq e3 a4
  have a2 := cut_eq e2 a3
  have a1 := cut_eq e1 a2
  have a0 := cut_eq e0 a1
  rw [List.drop_zero] at a0
  rw [a0]; simp [txV]
theorem trod_cmdM {fuel : Nat} {cs : List Value} {y : DataW H × List MemPlace} (hl0 : cs.length = 73) (hf : DataW.trod enc Try.prog w base spare held fuel 33 cs = some y) :
    ∃ (q : CW) (m : Cmd), cs = q.vs m ∧ CmdAt w q m ∧ q.n ≤ 9223372036854775807 ∧ q.n2 ≤ 9223372036854775807 ∧ q.n3 ≤ 9223372036854775807 := by
  obtain ⟨xs, n, _, _, hl, hxs, hg⟩ := DataW.trod_struct Try.underlying33 hf
  replace hg := fun i f h => hg i f h
  have hxs5 : xs.length = 7 := hxs
  obtain ⟨y0, h0⟩ := got (hg 0 _ rfl) (by omega)
  obtain ⟨y1, h1⟩ := got (hg 1 _ rfl) (by omega)
  obtain ⟨y2, h2⟩ := got (hg 2 _ rfl) (by omega)
  obtain ⟨y3, h3⟩ := got (hg 3 _ rfl) (by omega)
  obtain ⟨y4, h4⟩ := got (hg 4 _ rfl) (by omega)
  obtain ⟨y5, h5⟩ := got (hg 5 _ rfl) (by omega)
  obtain ⟨y6, h6⟩ := got (hg 6 _ rfl) (by omega)
  replace h0 : DataW.trod enc Try.prog w base spare held n 3 ((cs.drop 0).take (Try.prog.cellsOf 3)) = some y0 := h0
  replace h1 : DataW.trod enc Try.prog w base spare held n 26 ((cs.drop 1).take (Try.prog.cellsOf 26)) = some y1 := h1
  replace h2 : DataW.trod enc Try.prog w base spare held n 27 ((cs.drop 5).take (Try.prog.cellsOf 27)) = some y2 := h2
  replace h3 : DataW.trod enc Try.prog w base spare held n 31 ((cs.drop 6).take (Try.prog.cellsOf 31)) = some y3 := h3
  replace h4 : DataW.trod enc Try.prog w base spare held n 3 ((cs.drop 39).take (Try.prog.cellsOf 3)) = some y4 := h4
  replace h5 : DataW.trod enc Try.prog w base spare held n 3 ((cs.drop 40).take (Try.prog.cellsOf 3)) = some y5 := h5
  replace h6 : DataW.trod enc Try.prog w base spare held n 29 ((cs.drop 41).take (Try.prog.cellsOf 29)) = some y6 := h6
  rw [cells_int] at h0
  rw [cells_tx] at h1
  rw [cells_scert] at h2
  rw [cells_tout] at h3
  rw [cells_int] at h4
  rw [cells_int] at h5
  rw [cells_id] at h6
  obtain ⟨z0, e0, _, w0⟩ := DataW.trod_int Try.underlying3 h0
  obtain ⟨A, m, c, A2, m2, c2, l, os, fee, ex, e1, hi1, ho1, hf1, hx1, hm1, hm2⟩ := trod_txM (by rw [List.length_take, List.length_drop]; omega) h1
  obtain ⟨A3, m3, c3, cl, e2, l2, x2, y2, s2, k2, _⟩ := open_list0 (fun p : Value × Cer => certV p.1 p.2) (fun p => CerOK w w.heap.size p) Try.underlying27 cells_cert (show 0 < 137 by omega) (fun fuel cs y hl ht => trod_certQ hl ht) h2
  obtain ⟨dst, e3, k3⟩ := trod_out (by rw [List.length_take, List.length_drop]; omega) h3
  obtain ⟨z4, e4, _, w4⟩ := DataW.trod_int Try.underlying3 h4
  obtain ⟨z5, e5, _, w5⟩ := DataW.trod_int Try.underlying3 h5
  obtain ⟨d6, e6, l6⟩ := trod_bytes Try.underlying29 Try.underlying5 cells_u8 cells_id h6
  refine ⟨⟨A, m, c, A2, m2, c2, A3, m3, c3, l, cl⟩, ⟨z0, ⟨l.map Prod.snd, os, fee, ex⟩, cl.map Prod.snd, dst, z4, z5, d6⟩, ?_, ⟨hi1, ho1, ⟨s2, k2, l2, x2⟩, rfl, rfl, i64_of w0, ⟨fun i hi => by obtain ⟨p, hp, rfl⟩ := List.mem_map.1 hi; exact (hi1.2.1 p hp).2, ho1.2.1, hf1, hx1⟩, fun x hx => by obtain ⟨p, hp, rfl⟩ := List.mem_map.1 hx; exact (k2 p hp).2, k3, i64_of w4, i64_of w5, l6⟩, by unfold maxLen at hm1; simp only; omega, by unfold maxLen at hm2; simp only; omega, by unfold maxLen at y2; simp only; omega⟩
  have a7 : cs.drop 73 = [] := List.drop_of_length_le (by omega)
  have a6 := cut_eq e6 a7
  have a5 := cut_eq e5 a6
  have a4 := cut_eq e4 a5
  have a3 := cut_eq e3 a4
  have a2 := cut_eq e2 a3
  have a1 := cut_eq e1 a2
  have a0 := cut_eq e0 a1
  rw [List.drop_zero] at a0
  rw [a0]; simp [CW.vs, CW.tv, cmdV]
theorem open_cmdM {v : Value} {d : DataW H} {ps : List MemPlace} (hval : Value.okWide Try.prog w r b0 33 v) (h : DataW.Trod enc Try.prog w base spare held 33 v d ps) :
    ∃ (q : CW) (m : Cmd), v = .agg (q.vs m).toArray ∧ CmdAt w q m ∧ q.n ≤ 9223372036854775807 ∧ q.n2 ≤ 9223372036854775807 ∧ q.n3 ≤ 9223372036854775807 := by
  obtain ⟨cs, rfl, hsz⟩ := okWide_struct Try.underlying33 hval
  obtain ⟨fuel, hf⟩ := h
  rw [cells_cmd] at hsz
  obtain ⟨q, m, e, hc⟩ := trod_cmdM (cs := cs.toList) (by simpa using hsz) hf
  exact ⟨q, m, by rw [← e], hc⟩
end
end Go.Proofs.Ytobmldegjajocaa
/- The walk of CommandSame. -/
namespace Go.Proofs.Ytobmldegjajocaa
open Go.RowKit Go.Shelf
set_option linter.unusedVariables false
theorem great_noC {m : Cmd} (h : greatCm m = false) : SmallC m ∧ m.certs.length ≤ 20 := by
  unfold greatCm at h
  simp only [Bool.or_eq_false_iff, decide_eq_false_iff_not, List.any_eq_false] at h
  obtain ⟨h1, h2, h3⟩ := h
  unfold greatT at h3
  simp only [Bool.or_eq_false_iff, decide_eq_false_iff_not, List.any_eq_false, decide_eq_true_eq] at h3
  refine ⟨⟨by omega, by omega, fun i hi => ?_, by omega, fun x hx => ?_⟩, by omega⟩
  · have := h3.2 i hi; omega
  · rw [List.take_of_length_le (by omega)] at h1
    have := h1 x hx
    unfold bigPath at this
    simp at this; omega
theorem formC_ok {m : Cmd} (h : (formC m).2 = 0) : checkC m = 0 ∧ (putCm m).length ≤ 8192 ∧ (formC m).1 = putCm m := by
  unfold formC at h ⊢
  by_cases h1 : checkC m ≠ 0
  · rw [if_pos h1] at h; exact absurd h h1
  · rw [if_neg h1] at h ⊢
    by_cases h2 : 8192 < (putCm m).length
    · rw [if_pos h2] at h; exact absurd h (by decide)
    · rw [if_neg h2]; exact ⟨by simpa using h1, by omega, rfl⟩
theorem formC_le (m : Cmd) : (formC m).1.length ≤ 8192 := by
  unfold formC
  by_cases h1 : checkC m ≠ 0
  · rw [if_pos h1]; simp
  · rw [if_neg h1]
    by_cases h2 : 8192 < (putCm m).length
    · rw [if_pos h2]; simp
    · rw [if_neg h2]; show (putCm m).length ≤ 8192; omega
set_option maxRecDepth 100000 in
set_option maxHeartbeats 8000000 in
theorem cmSame_walk (q1 : CW) (m1 : Cmd) (q2 : CW) (m2 : Cmd) (w : World) (h1 : CmdAt w q1 m1) (h1n : q1.n ≤ 9223372036854775807) (h1o : q1.n2 ≤ 9223372036854775807) (h1c : q1.n3 ≤ 9223372036854775807) (h2 : CmdAt w q2 m2) (h2n : q2.n ≤ 9223372036854775807) (h2o : q2.n2 ≤ 9223372036854775807) (h2c : q2.n3 ≤ 9223372036854775807) :
    Calls Try.prog 5 #[.agg (q1.vs m1).toArray, .agg (q2.vs m2).toArray] w fun e w' => e = .returned (.bool true) ∧ Below w.heap.size w w' := by
  have HXC := Lib.hid (vs_cl (q := q1) h1.ok); have HYC := Lib.hid (vs_cl (q := q2) h2.ok)
  have G1 := Lib.hid (fun (w' : World) (hg : Grow w w') => great24_any w' (h1.grow hg) h1n h1o)
  have G2 := Lib.hid (fun (w' : World) (hg : Grow w w') => great24_any w' (h2.grow hg) h2n h2o)
  obtain ⟨s, hs⟩ := bool_of (m1 = m2)
  have HRS := Lib.hid (fun (hz : SmallC m1) (w' : World) (hg : Grow w w') => rcmsame_any hs w' (h1.grow hg) (h2.grow hg) hz)
  have HS1 := Lib.hid (fun (hz : SmallC m1) (w' : World) (hg : Grow w w') => cmsame_any hs w' (h1.grow hg) (h2.grow hg) hz)
  have HS2 := Lib.hid (fun (hz : SmallC m1) (w' : World) (hg : Grow w w') => cmsame_any (res := true) (by simp) w' (h1.grow hg) (h1.grow hg) hz)
  have HP1 := Lib.hid (fun (hz : SmallC m1) (w' : World) (hg : Grow w w') => cmput_any w' (h1.grow hg) hz)
  have HP2 := Lib.hid (fun (hz : SmallC m2) (w' : World) (hg : Grow w w') => cmput_any w' (h2.grow hg) hz)
  obtain ⟨sm, hsm⟩ : ∃ q, decide ((formC m1).1 = (formC m2).1) = q := ⟨_, rfl⟩
  have HSM := Lib.hid (show (formC m1).2 = 0 → (formC m2).2 = 0 → sm = s from fun e1 e2 => by
    obtain ⟨a1, a2, a3⟩ := formC_ok e1; obtain ⟨b1, b2, b3⟩ := formC_ok e2
    rw [← hsm, Bool.eq_iff_iff, decide_eq_true_eq, hs, a3, b3]
    exact ⟨fun h => putCm_inj h1.ok h2.ok a1 b1 a2 h, fun h => by rw [h]⟩)
  have HLA := Lib.hid (formC_le m1)
  have HSA := Lib.hid (fun h => (great_noC (m := m1) h).1); have HSB := Lib.hid (fun h => (great_noC (m := m2) h).1)
  obtain ⟨ga, hga⟩ : ∃ z, z = greatCm m1 := ⟨_, rfl⟩
  obtain ⟨gb, hgb⟩ : ∃ z, z = greatCm m2 := ⟨_, rfl⟩
  rw [← hga] at G1 HSA; rw [← hgb] at G2 HSB
  obtain ⟨ea, hea⟩ : ∃ z, z = (formC m1).2 := ⟨_, rfl⟩
  obtain ⟨eb, heb⟩ : ∃ z, z = (formC m2).2 := ⟨_, rfl⟩
  rw [← hea] at HP1 HSM; rw [← heb] at HP2 HSM
  obtain ⟨xa, hxa⟩ : ∃ z, z = (formC m1).1 := ⟨_, rfl⟩
  obtain ⟨xb, hxb⟩ : ∃ z, z = (formC m2).1 := ⟨_, rfl⟩
  rw [← hxa] at HP1 hsm HLA; rw [← hxb] at HP2 hsm
  have HBY := Lib.hid (fun (w : World) (A : Option Addr) (c : Nat) (A2 : Option Addr) (c2 : Nat) (k1 : Sl w w.heap.size 1 A xa.length (xa.map B)) (k2 : Sl w w.heap.size 1 A2 xb.length (xb.map B)) => bytesq_any (c := c) (c2 := c2) hsm w k1 k2 (by have := HLA.out; omega))
  obtain ⟨la, hla⟩ : ∃ z, z = xa.length := ⟨_, rfl⟩
  obtain ⟨lb, hlb⟩ : ∃ z, z = xb.length := ⟨_, rfl⟩
  rw [← hla] at HP1 HBY; rw [← hlb] at HP2 HBY
  obtain ⟨xv, hxv⟩ : ∃ z, z = q1.vs m1 := ⟨_, rfl⟩
  obtain ⟨yv, hyv⟩ : ∃ z, z = q2.vs m2 := ⟨_, rfl⟩
  rw [← hxv] at HXC G1 HRS HS1 HS2 HP1 ⊢
  rw [← hyv] at HYC G2 HRS HS1 HP2 ⊢
  have zs : (s == s) = true := by simp
  clear h1 h1n h1o h1c h2 h2n h2o h2c hs hsm hga hgb hea heb hxa hxb hla hlb hxv hyv
  obtain ⟨w_, hw⟩ : ∃ x, x = w := ⟨_, rfl⟩
  have HB := Lib.hid (show Below w.heap.size w w_ by rw [hw]; exact Below.refl _ _)
  suffices H : Calls Try.prog 5 #[.agg xv.toArray, .agg yv.toArray] w_ fun e w' => e = .returned (.bool true) ∧ Below w.heap.size w w' by rw [hw] at H; exact H
  clear hw
  go_enter Try.func5, Try.ntmps5
  go_wp2_with (first | (with_reducible refine wpl_box (o := ⟨some 2, _, _, _, _, _⟩) rfl rfl rfl ?_))
  intro w2_ hb2_ hb_ hsz2_
  have HX_ := Lib.hid (at_mk hb2_ HXC.out.len)
  clear hb2_ hsz2_
  have HG_ := Lib.hid HB.out.size
  have HB_ := Lib.hid (HB.out.grow' hb_)
  clear HB
  have HB := HB_
  clear HB_
  generalize hg_ : w_.heap.size = g1 at HX_ HG_ ⊢
  clear hg_
  have HX_g := HG_
  clear HG_
  have HX := HX_
  clear hb_ HX_
  try clear w_
  rename World => w_
  go_wp2_with (first | (with_reducible refine wpl_box (o := ⟨some 3, _, _, _, _, _⟩) rfl rfl rfl ?_))
  intro w2_ hb2_ hb_ hsz2_
  have HX_ := Lib.hid (at_mk hb2_ HYC.out.len)
  clear hb2_ hsz2_
  have HG_ := Lib.hid HB.out.size
  have HB_ := Lib.hid (HB.out.grow' hb_)
  clear HB
  have HB := HB_
  clear HB_
  have HX_ := Lib.hid (HX.out.grow hb_)
  clear HX
  have HX := HX_
  clear HX_
  generalize hg_ : w_.heap.size = g2 at HX_ HG_ ⊢
  clear hg_
  have HY_g := HG_
  clear HG_
  have HY := HX_
  clear hb_ HX_
  try clear w_
  rename World => w_
  go_wp2_with (first | (with_reducible refine wpl_loadb (o := ⟨_, .load _ _, _, _, _, _⟩) rfl rfl row_cmd HX.out.blk rfl HX.out.len ?_) | (with_reducible refine wpl_loadw (o := ⟨_, .load _ _, _, _, _, _⟩) (by first | rfl | (go_simp; done) | fail) rfl row_cmd HX.out.blk rfl HX.out.len ?_) | (with_reducible refine wpl_loadb (o := ⟨_, .load _ _, _, _, _, _⟩) rfl rfl row_cmd HY.out.blk rfl HY.out.len ?_) | (with_reducible refine wpl_loadw (o := ⟨_, .load _ _, _, _, _, _⟩) (by first | rfl | (go_simp; done) | fail) rfl row_cmd HY.out.blk rfl HY.out.len ?_))
  refine (G1.out _ HB.out).mono ?_
  rintro e w_ ⟨rfl, hb_⟩
  have HB_ := Lib.hid (HB.out.grow' hb_)
  clear HB
  have HB := HB_
  clear HB_
  have HX_ := Lib.hid (HX.out.grow hb_)
  clear HX
  have HX := HX_
  clear HX_
  have HY_ := Lib.hid (HY.out.grow hb_)
  clear HY
  have HY := HY_
  clear HY_
  clear hb_
  cases ga with
  | true =>
    go_wp2_with fail
    refine (awake24_any _).mono ?_
    rintro e w_ ⟨rfl, hb_⟩
    have HB_ := Lib.hid (HB.out.grow' hb_)
    clear HB
    have HB := HB_
    clear HB_
    clear hb_
    go_wp2_with fail
    go_ret
    exact ⟨rfl, HB.out⟩
  | false =>
  have ZA := Lib.hid (HSA.out rfl)
  clear G1 HSA
  go_wp2_with (first | (with_reducible refine wpl_loadb (o := ⟨_, .load _ _, _, _, _, _⟩) rfl rfl row_cmd HX.out.blk rfl HX.out.len ?_) | (with_reducible refine wpl_loadw (o := ⟨_, .load _ _, _, _, _, _⟩) (by first | rfl | (go_simp; done) | fail) rfl row_cmd HX.out.blk rfl HX.out.len ?_) | (with_reducible refine wpl_loadb (o := ⟨_, .load _ _, _, _, _, _⟩) rfl rfl row_cmd HY.out.blk rfl HY.out.len ?_) | (with_reducible refine wpl_loadw (o := ⟨_, .load _ _, _, _, _, _⟩) (by first | rfl | (go_simp; done) | fail) rfl row_cmd HY.out.blk rfl HY.out.len ?_))
  refine (G2.out _ HB.out).mono ?_
  rintro e w_ ⟨rfl, hb_⟩
  have HB_ := Lib.hid (HB.out.grow' hb_)
  clear HB
  have HB := HB_
  clear HB_
  have HX_ := Lib.hid (HX.out.grow hb_)
  clear HX
  have HX := HX_
  clear HX_
  have HY_ := Lib.hid (HY.out.grow hb_)
  clear HY
  have HY := HY_
  clear HY_
  clear hb_
  cases gb with
  | true =>
    go_wp2_with fail
    refine (awake24_any _).mono ?_
    rintro e w_ ⟨rfl, hb_⟩
    have HB_ := Lib.hid (HB.out.grow' hb_)
    clear HB
    have HB := HB_
    clear HB_
    clear hb_
    go_wp2_with fail
    go_ret
    exact ⟨rfl, HB.out⟩
  | false =>
  have ZB := Lib.hid (HSB.out rfl)
  clear G2 HSB
  go_wp2_with (first | (with_reducible refine wpl_loadb (o := ⟨_, .load _ _, _, _, _, _⟩) rfl rfl row_cmd HX.out.blk rfl HX.out.len ?_) | (with_reducible refine wpl_loadw (o := ⟨_, .load _ _, _, _, _, _⟩) (by first | rfl | (go_simp; done) | fail) rfl row_cmd HX.out.blk rfl HX.out.len ?_) | (with_reducible refine wpl_loadb (o := ⟨_, .load _ _, _, _, _, _⟩) rfl rfl row_cmd HY.out.blk rfl HY.out.len ?_) | (with_reducible refine wpl_loadw (o := ⟨_, .load _ _, _, _, _, _⟩) (by first | rfl | (go_simp; done) | fail) rfl row_cmd HY.out.blk rfl HY.out.len ?_))
  refine (HRS.out ZA.out _ HB.out).mono ?_
  rintro e w_ ⟨rfl, hb_⟩
  have HB_ := Lib.hid (HB.out.grow' hb_)
  clear HB
  have HB := HB_
  clear HB_
  have HX_ := Lib.hid (HX.out.grow hb_)
  clear HX
  have HX := HX_
  clear HX_
  have HY_ := Lib.hid (HY.out.grow hb_)
  clear HY
  have HY := HY_
  clear HY_
  clear hb_
  go_wp2_with (first | (with_reducible refine wpl_loadb (o := ⟨_, .load _ _, _, _, _, _⟩) rfl rfl row_cmd HX.out.blk rfl HX.out.len ?_) | (with_reducible refine wpl_loadw (o := ⟨_, .load _ _, _, _, _, _⟩) (by first | rfl | (go_simp; done) | fail) rfl row_cmd HX.out.blk rfl HX.out.len ?_) | (with_reducible refine wpl_loadb (o := ⟨_, .load _ _, _, _, _, _⟩) rfl rfl row_cmd HY.out.blk rfl HY.out.len ?_) | (with_reducible refine wpl_loadw (o := ⟨_, .load _ _, _, _, _, _⟩) (by first | rfl | (go_simp; done) | fail) rfl row_cmd HY.out.blk rfl HY.out.len ?_))
  refine (HP1.out ZA.out _ HB.out).mono ?_
  rintro e w2_ ⟨A5, c5, rfl, ho, hc, hb_⟩
  have HS5 := Lib.hid (Sl.of_own ho)
  clear ho hc
  have hb_ := hb_
  clear hb_
  have HB_ := Lib.hid (HB.out.grow' hb_)
  clear HB
  have HB := HB_
  clear HB_
  have HX_ := Lib.hid (HX.out.grow hb_)
  clear HX
  have HX := HX_
  clear HX_
  have HY_ := Lib.hid (HY.out.grow hb_)
  clear HY
  have HY := HY_
  clear HY_
  clear hb_
  try clear w_
  rename World => w_
  go_wp2_with (first | (with_reducible refine wpl_loadb (o := ⟨_, .load _ _, _, _, _, _⟩) rfl rfl row_cmd HX.out.blk rfl HX.out.len ?_) | (with_reducible refine wpl_loadw (o := ⟨_, .load _ _, _, _, _, _⟩) (by first | rfl | (go_simp; done) | fail) rfl row_cmd HX.out.blk rfl HX.out.len ?_) | (with_reducible refine wpl_loadb (o := ⟨_, .load _ _, _, _, _, _⟩) rfl rfl row_cmd HY.out.blk rfl HY.out.len ?_) | (with_reducible refine wpl_loadw (o := ⟨_, .load _ _, _, _, _, _⟩) (by first | rfl | (go_simp; done) | fail) rfl row_cmd HY.out.blk rfl HY.out.len ?_))
  refine (HP2.out ZB.out _ HB.out).mono ?_
  rintro e w2_ ⟨A6, c6, rfl, ho, hc, hb_⟩
  have HS6 := Lib.hid (Sl.of_own ho)
  clear ho hc
  have hb_ := hb_
  clear hb_
  have HB_ := Lib.hid (HB.out.grow' hb_)
  clear HB
  have HB := HB_
  clear HB_
  have HX_ := Lib.hid (HX.out.grow hb_)
  clear HX
  have HX := HX_
  clear HX_
  have HY_ := Lib.hid (HY.out.grow hb_)
  clear HY
  have HY := HY_
  clear HY_
  have HS5_ := Lib.hid (HS5.out.grow hb_)
  clear HS5
  have HS5 := HS5_
  clear HS5_
  clear hb_
  try clear w_
  rename World => w_
  go_wp2_with (first | (with_reducible refine wpl_loadb (o := ⟨_, .load _ _, _, _, _, _⟩) rfl rfl row_cmd HX.out.blk rfl HX.out.len ?_) | (with_reducible refine wpl_loadw (o := ⟨_, .load _ _, _, _, _, _⟩) (by first | rfl | (go_simp; done) | fail) rfl row_cmd HX.out.blk rfl HX.out.len ?_) | (with_reducible refine wpl_loadb (o := ⟨_, .load _ _, _, _, _, _⟩) rfl rfl row_cmd HY.out.blk rfl HY.out.len ?_) | (with_reducible refine wpl_loadw (o := ⟨_, .load _ _, _, _, _, _⟩) (by first | rfl | (go_simp; done) | fail) rfl row_cmd HY.out.blk rfl HY.out.len ?_))
  refine (HS1.out ZA.out _ HB.out).mono ?_
  rintro e w_ ⟨rfl, hb_⟩
  have HB_ := Lib.hid (HB.out.grow' hb_)
  clear HB
  have HB := HB_
  clear HB_
  have HX_ := Lib.hid (HX.out.grow hb_)
  clear HX
  have HX := HX_
  clear HX_
  have HY_ := Lib.hid (HY.out.grow hb_)
  clear HY
  have HY := HY_
  clear HY_
  have HS5_ := Lib.hid (HS5.out.grow hb_)
  clear HS5
  have HS5 := HS5_
  clear HS5_
  have HS6_ := Lib.hid (HS6.out.grow hb_)
  clear HS6
  have HS6 := HS6_
  clear HS6_
  clear hb_
  go_wp2_with (first | (with_reducible refine wpl_loadb (o := ⟨_, .load _ _, _, _, _, _⟩) rfl rfl row_cmd HX.out.blk rfl HX.out.len ?_) | (with_reducible refine wpl_loadw (o := ⟨_, .load _ _, _, _, _, _⟩) (by first | rfl | (go_simp; done) | fail) rfl row_cmd HX.out.blk rfl HX.out.len ?_) | (with_reducible refine wpl_loadb (o := ⟨_, .load _ _, _, _, _, _⟩) rfl rfl row_cmd HY.out.blk rfl HY.out.len ?_) | (with_reducible refine wpl_loadw (o := ⟨_, .load _ _, _, _, _, _⟩) (by first | rfl | (go_simp; done) | fail) rfl row_cmd HY.out.blk rfl HY.out.len ?_))
  refine (HS2.out ZA.out _ HB.out).mono ?_
  rintro e w_ ⟨rfl, hb_⟩
  have HB_ := Lib.hid (HB.out.grow' hb_)
  clear HB
  have HB := HB_
  clear HB_
  have HS5_ := Lib.hid (HS5.out.grow hb_)
  clear HS5
  have HS5 := HS5_
  clear HS5_
  have HS6_ := Lib.hid (HS6.out.grow hb_)
  clear HS6
  have HS6 := HS6_
  clear HS6_
  clear hb_
  clear HRS HP1 HP2 HS1 HS2 HX HY
  by_cases e1 : ea = 0
  · have z1 : (ea != 0) = false := by simp [e1]
    by_cases e2 : eb = 0
    · have z2 : (eb != 0) = false := by simp [e2]
      have HE := Lib.hid (HSM.out e1 e2)
      clear e1 e2
      go_wp2_with fail
      refine (HBY.out _ _ _ _ _ HS5.out HS6.out).mono ?_
      rintro e w_ ⟨rfl, hb_⟩
      have HB_ := Lib.hid (HB.out.grow' hb_)
      clear HB
      have HB := HB_
      clear HB_
      clear hb_
      have z3 : (sm == s) = true := by rw [HE.out]; simp
      go_wp2_with fail
      refine (awake24_any _).mono ?_
      rintro e w_ ⟨rfl, hb_⟩
      have HB_ := Lib.hid (HB.out.grow' hb_)
      clear HB
      have HB := HB_
      clear HB_
      clear hb_
      go_wp2_with fail
      go_ret
      exact ⟨rfl, HB.out⟩
    · have z2 : (eb != 0) = true := by simp [e2]
      clear e1 e2
      go_wp2_with fail
      refine (awake24_any _).mono ?_
      rintro e w_ ⟨rfl, hb_⟩
      have HB_ := Lib.hid (HB.out.grow' hb_)
      clear HB
      have HB := HB_
      clear HB_
      clear hb_
      go_wp2_with fail
      go_ret
      exact ⟨rfl, HB.out⟩
  · have z1 : (ea != 0) = true := by simp [e1]
    clear e1
    go_wp2_with fail
    refine (awake24_any _).mono ?_
    rintro e w_ ⟨rfl, hb_⟩
    have HB_ := Lib.hid (HB.out.grow' hb_)
    clear HB
    have HB := HB_
    clear HB_
    clear hb_
    go_wp2_with fail
    go_ret
    exact ⟨rfl, HB.out⟩
end Go.Proofs.Ytobmldegjajocaa
/- The given statement CommandSameSaid, out of the walk cmSame_walk: for every input the law returns true, and each argument reads as it did. No condition. -/
namespace Go.Proofs.Ytobmldegjajocaa.lawCommandSame
open Go.ChangeShapes Go.WideShapes Go.ChangeAt Go.RowKit
open Go.ChangeMaps (open_string shut_string)
set_option linter.unusedVariables false
theorem own : ownKnob Try.prog.godebug = none := by kernel_rfl
theorem laidOut : laidOutB Try.prog = true := by kernel_rfl
set_option maxRecDepth 100000 in
theorem lifted (os : Os) (started : os.Started) (H : Type) (enc : TypeId × Value → H) :
    ReturnsInHanded {} Try.checked os 5 .any (Rows.commandSameSpec.pre6 enc Try.prog Try.f5 Rows.commandSameRow.domain false) (Rows.commandSameSpec.post enc Try.prog Try.f5 false true false false) := by
  refine returnsInHanded_of_change (C := Try.checked) own started (by kernel_rfl) Try.func5
    (ChangeSpec.witness6 (enc := enc) (C := Try.checked) false ⟨#[], #[.agg (noCW.vs noCmd).toArray, .agg (noCW.vs noCmd).toArray], []⟩ 8 (by kernel_rfl) (by kernel_rfl) (by kernel_rfl) (by kernel_rfl)) ?_
  intro W base args ds gs before hval0 hW hcnd _
  have hval : ∀ (j : Nat) t v, Try.f5.params[j]? = some t → args[j]? = some v → Value.okWide Try.prog W .any base t v := hval0
  have hW' := hW
  obtain ⟨p, q, hA0, hV, rfl, hfz, hnd⟩ := hW
  have hA : DataW.TrodAll enc Try.prog W 0 (fun _ => true) true Try.f5.params.toList args.toList ds p := hA0
  rw [Try.params5] at hA hval
  obtain ⟨v0, vs0, d0, ds0, p0, q0, hargs, rfl, rfl, h0, r0⟩ := trodAll_cons hA
  obtain ⟨v1, vs1, d1, ds1, p1, q1, rfl, rfl, rfl, h1, r1⟩ := trodAll_cons r0
  obtain ⟨rfl, rfl, rfl⟩ := trodAll_nil r1
  obtain rfl : args = #[v0, v1] := by cases args; simp_all
  obtain ⟨rfl, rfl⟩ := trodVars_none hV
  have k0 := h0
  have lt0 : ∀ x ∈ p0, x.block < W.heap.size := by obtain ⟨m, hm⟩ := k0; exact DataW.trod_lt m _ _ _ hm
  obtain ⟨x0_0, x0_1, rfl, f0_0, f0_1, f0_2, f0_3⟩ := open_cmdM (hval 0 33 v0 rfl rfl) h0
  have k1 := h1
  have lt1 : ∀ x ∈ p1, x.block < W.heap.size := by obtain ⟨m, hm⟩ := k1; exact DataW.trod_lt m _ _ _ hm
  obtain ⟨x1_0, x1_1, rfl, f1_0, f1_1, f1_2, f1_3⟩ := open_cmdM (hval 1 33 v1 rfl rfl) h1
  clear hA0 hval0
  refine (cmSame_walk x0_0 x0_1 x1_0 x1_1 W f0_0 f0_1 f0_2 f0_3 f1_0 f1_1 f1_2 f1_3).mono fun e W' ⟨he, bel⟩ => ?_
  subst he
  exact ⟨_, rfl, _, _, _, [], _, [], hW', trodAll_mk1 (shut_bool Try.underlying4 _), (trodAll_cons_mk (Below.trod laidOut (by kernel_rfl) (of_decide_eq_true (by kernel_rfl)) k0 bel lt0) (trodAll_cons_mk (Below.trod laidOut (by kernel_rfl) (of_decide_eq_true (by kernel_rfl)) k1 bel lt1) trodAll_mk0)), rfl, bel.frame _, fun h => by cases h⟩
theorem proved : Rows.CommandSameSaid :=
  OpenClaim.holds_of_wide 5 Try.f5 rfl rfl rfl rfl rfl rfl rfl ⟨rfl, rfl, rfl, rfl, rfl⟩ rfl rfl rfl rfl rfl (by kernel_rfl) Try.func5 (by kernel_rfl)
    (of_decide_eq_true (by kernel_rfl)) (by unfold Func.isWrapper; first | (rw [if_pos (by decide +kernel)]; kernel_rfl) | (rw [if_neg (by decide +kernel)]; exact ⟨rfl, rfl⟩))
    (fun os started H enc _ => lifted os started H enc)
#print axioms proved
end Go.Proofs.Ytobmldegjajocaa.lawCommandSame

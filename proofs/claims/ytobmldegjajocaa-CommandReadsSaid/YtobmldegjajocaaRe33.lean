/- The contract of seisinref24.Same. Printed by mkcmdb.py. -/
import Derived.Test.YtobmldegjajocaaRe32
import Derived.Test.YtobmldegjajocaaRe22
set_option linter.unusedSimpArgs false
set_option linter.unusedVariables false
set_option maxRecDepth 100000
set_option maxHeartbeats 16000000
namespace Go.Proofs.Ytobmldegjajocaa
open Go.RowKit Go.Shelf
theorem rcmsame_any {res : Bool} {q1 q2 : CW} {m1 m2 : Cmd} (hres : res = true ↔ m1 = m2) (w : World) (h1 : CmdAt w q1 m1) (h2 : CmdAt w q2 m2) (hs : SmallC m1) :
  Calls Try.prog 13 #[.agg (q1.vs m1).toArray, .agg (q2.vs m2).toArray] w fun e w' => e = .returned (.bool res) ∧ Grow w w' := by
 obtain ⟨rt, hrt, hqt⟩ := out_eq h1.ok.2.2.2.1 h2.ok.2.2.2.1;obtain ⟨rd, hrd, hqd⟩ := aid_eqQ m1.id m2.id h1.ok.2.2.2.2.2.2 h2.ok.2.2.2.2.2.2;obtain ⟨rx, hrx⟩ := bool_of (m1.tx = m2.tx);obtain ⟨rc, hrc⟩ := bool_of (m1.certs = m2.certs);obtain ⟨rk, hrk⟩ := bool_of (m1.kind = m2.kind);obtain ⟨rs, hrs⟩ := bool_of (m1.serial = m2.serial);obtain ⟨re, hre⟩ := bool_of (m1.epoch = m2.epoch);have HRES := kp (same_parts hres hrk hrt hrs hre hrd hrx hrc);have HQT := kp hqt; have HQD := kp hqd
 have HTX := kp (fun (w' : World) (hg : Grow w w') => show Calls Try.prog 41 #[.agg (q1.tv m1).toArray, .agg (q2.tv m2).toArray] w' fun e w'' => e = .returned (.bool rx) ∧ Grow w' w'' from
  rtsame_any (by rw [h1.tx, h2.tx]; exact hrx) w' (by rw [← h1.n1]; have := hs.1; omega) (by rw [← h1.n2]; have := hs.2.1; omega) (fun p hp => hs.2.2.1 p.2 (by rw [h1.insE]; exact List.mem_map_of_mem hp)) (h1.ins.grow hg) (h2.ins.grow hg) (h1.outs.grow hg) (h2.outs.grow hg))
 have HC1 := kp (fun (w' : World) (hg : Grow w w') => h1.certs.grow hg); have HC2 := kp (fun (w' : World) (hg : Grow w w') => h2.certs.grow hg);have HPL := kq (∀ p ∈ q1.cl, p.2.path.length ≤ 1000000) (fun p hp => by have := hs.2.2.2.2 p.2 (by rw [h1.certsE]; exact List.mem_map_of_mem hp); omega);have HRC := kq (rc = true ↔ q1.cl.map Prod.snd = q2.cl.map Prod.snd) (by rw [← h1.certsE, ← h2.certsE]; exact hrc);have HL1 := kp h1.certs.2.2.1; have HL2 := kp h2.certs.2.2.1;have hn3 : q1.n3 ≤ 100000 := by rw [← h1.n3]; exact hs.2.2.2.1
 have HXC := kp (vs_cl (q := q1) h1.ok); have HYC := kp (vs_cl (q := q2) h2.ok);have X0 := kp (vs_kind q1 m1); have Y0 := kp (vs_kind q2 m2);have X5 := kp (vs_certs q1 m1); have Y5 := kp (vs_certs q2 m2);have X39 := kp (vs_serial (q := q1) h1.ok.2.2.2.1); have Y39 := kp (vs_serial (q := q2) h2.ok.2.2.2.1);have X40 := kp (vs_epoch (q := q1) h1.ok.2.2.2.1); have Y40 := kp (vs_epoch (q := q2) h2.ok.2.2.2.1);have XT := kp (fun j u (hu : (outV m1.dest)[j]? = some u) => vs_to (q := q1) hu); have YT := kp (fun j u (hu : (outV m2.dest)[j]? = some u) => vs_to (q := q2) hu);have XI := kp (fun j u (hu : (m1.id.map B)[j]? = some u) => vs_id (q := q1) h1.ok.2.2.2.1 hu); have YI := kp (fun j u (hu : (m2.id.map B)[j]? = some u) => vs_id (q := q2) h2.ok.2.2.2.1 hu);have XX := kp (fun j u (hu : (q1.tv m1)[j]? = some u) => vs_tx hu); have YX := kp (fun j u (hu : (q2.tv m2)[j]? = some u) => vs_tx hu);have LT := kp (outV_length h1.ok.2.2.2.1); have LU := kp (outV_length h2.ok.2.2.2.1);have LI := kq ((m1.id.map B).length = 32) (by rw [List.length_map]; exact h1.ok.2.2.2.2.2.2); have LJ := kq ((m2.id.map B).length = 32) (by rw [List.length_map]; exact h2.ok.2.2.2.2.2.2);have LX := kq ((q1.tv m1).length = 4) rfl; have LY := kq ((q2.tv m2).length = 4) rfl;obtain ⟨xv, hxv⟩ := xe (q1.vs m1);obtain ⟨yv, hyv⟩ := xe (q2.vs m2);obtain ⟨ts, hts⟩ := xe (outV m1.dest);obtain ⟨us, hus⟩ := xe (outV m2.dest);obtain ⟨is, his⟩ := xe (m1.id.map B);obtain ⟨js, hjs⟩ := xe (m2.id.map B);obtain ⟨tv, htv⟩ := xe (q1.tv m1);obtain ⟨uv, huv⟩ := xe (q2.tv m2);rw [← hxv] at HXC X0 X5 X39 X40 XT XI XX ⊢;rw [← hyv] at HYC Y0 Y5 Y39 Y40 YT YI YX ⊢;rw [← hts] at XT LT HQT; rw [← hus] at YT LU HQT;rw [← his] at XI LI HQD; rw [← hjs] at YI LJ HQD;rw [← htv] at XX LX HTX; rw [← huv] at YX LY HTX;obtain ⟨k1, hk1⟩ := xe m1.kind;obtain ⟨k2, hk2⟩ := xe m2.kind;obtain ⟨s1, hs1⟩ := xe m1.serial;obtain ⟨s2, hs2⟩ := xe m2.serial;obtain ⟨e1, he1⟩ := xe m1.epoch;obtain ⟨e2, he2⟩ := xe m2.epoch;rw [← hk1] at X0 hrk; rw [← hk2] at Y0 hrk; rw [← hs1] at X39 hrs; rw [← hs2] at Y39 hrs; rw [← he1] at X40 hre; rw [← he2] at Y40 hre;have HRK := kp hrk; have HRS := kp hrs; have HRE := kp hre;obtain ⟨A, n, c, A2, n2, c2, A3, n3, c3, l1, cl1⟩ := q1;obtain ⟨P, m, d, P2, o2, d2, P3, m3, d3, l2, cl2⟩ := q2;simp only at HC1 HC2 HPL HRC HL1 HL2 hn3 X5 Y5;clear hres h1 h2 hs hrt hqt hrd hqd hrx hrc hrk hrs hre hxv hyv hts hus his hjs htv huv hk1 hk2 hs1 hs2 he1 he2;refine bq (fun w_ HB => ?_)
 go_enter Try.func13, Try.ntmps13
 go_wp2_with (with_reducible refine wbx 2 ?_);intro v_ b_ y_ s_;have HX_ := kp (at_mk b_ HXC.o.len);clear b_ s_;have HG_ := kp HB.o.size;replace HB := kp (HB.o.grow' y_);generalize hg_ : w_.heap.size = g1 at HX_ HG_ ⊢;clear hg_;have HX_g := HG_;clear HG_;have HX := HX_;clear y_ HX_;try clear w_
 rename World => w_;go_wp2_with (with_reducible refine wbx 3 ?_);intro v_ b_ y_ s_;have HX_ := kp (at_mk b_ HYC.o.len);clear b_ s_;have HG_ := kp HB.o.size;replace HB := kp (HB.o.grow' y_);replace HX := kp (HX.o.grow y_);generalize hg_ : w_.heap.size = g2 at HX_ HG_ ⊢;clear hg_;have HY_g := HG_;clear HG_;have HY := HX_;clear y_ HX_;try clear w_
 rename World => w_;have c0 := HX.o.blk.at_ X0.o; have d0 := HY.o.blk.at_ Y0.o;have FT := kq (∀ j u, ts[j]? = some u → w_.cell? ⟨g1, 6 + j, none⟩ = some u) (fun j u hu => HX.o.blk.at_ (XT.o j u hu));have FU := kq (∀ j u, us[j]? = some u → w_.cell? ⟨g2, 6 + j, none⟩ = some u) (fun j u hu => HY.o.blk.at_ (YT.o j u hu));have FI := kq (∀ j u, is[j]? = some u → w_.cell? ⟨g1, 41 + j, none⟩ = some u) (fun j u hu => HX.o.blk.at_ (XI.o j u hu));have FJ := kq (∀ j u, js[j]? = some u → w_.cell? ⟨g2, 41 + j, none⟩ = some u) (fun j u hu => HY.o.blk.at_ (YI.o j u hu));have FX := kq (∀ j u, tv[j]? = some u → w_.cell? ⟨g1, 1 + j, none⟩ = some u) (fun j u hu => HX.o.blk.at_ (XX.o j u hu));have FY := kq (∀ j u, uv[j]? = some u → w_.cell? ⟨g2, 1 + j, none⟩ = some u) (fun j u hu => HY.o.blk.at_ (YX.o j u hu));have c39 := HX.o.blk.at_ X39.o; have d39 := HY.o.blk.at_ Y39.o; have c40 := HX.o.blk.at_ X40.o; have d40 := HY.o.blk.at_ Y40.o;have heqt := HQT.o; have heqd := HQD.o;cases rk with
 | false =>
  have z_ : k1 ≠ k2 := fun h => by have := HRK.o.2 h; cases this
  have z1 : (k1 == k2) = false := by simpa using z_
  have z2 : (k1 != k2) = true := by simpa using z_
  clear z_;have HN := kq (res = false) (by rw [HRES.o]; simp);go_wp2_with (with_reducible first | refine wlw 13 row_tout FT.o LT.o ?_ | refine wlw 15 row_tout FU.o LU.o ?_ | refine wlw 34 row_aid FI.o LI.o ?_ | refine wlw 36 row_aid FJ.o LJ.o ?_ | refine wlw 41 row_tx FX.o LX.o ?_ | refine wlw 43 row_tx FY.o LY.o ?_);go_ret
  exact ⟨by rw [HN.o]; first | rfl | simp, HB.o⟩
 | true =>
  have z_ : k1 = k2 := HRK.o.1 rfl;have z1 : (k1 == k2) = true := by simpa using z_
  have z2 : (k1 != k2) = false := by simpa using z_
  clear z_;cases rt with
  | false =>
   have HN := kq (res = false) (by rw [HRES.o]; simp);go_wp2_with (with_reducible first | refine wlw 13 row_tout FT.o LT.o ?_ | refine wlw 15 row_tout FU.o LU.o ?_ | refine wlw 34 row_aid FI.o LI.o ?_ | refine wlw 36 row_aid FJ.o LJ.o ?_ | refine wlw 41 row_tx FX.o LX.o ?_ | refine wlw 43 row_tx FY.o LY.o ?_);go_ret
   exact ⟨by rw [HN.o]; first | rfl | simp, HB.o⟩
  | true =>
   cases rs with
   | false =>
    have z_ : s1 ≠ s2 := fun h => by have := HRS.o.2 h; cases this
    have z3 : (s1 == s2) = false := by simpa using z_
    have z4 : (s1 != s2) = true := by simpa using z_
    clear z_;have HN := kq (res = false) (by rw [HRES.o]; simp);go_wp2_with (with_reducible first | refine wlw 13 row_tout FT.o LT.o ?_ | refine wlw 15 row_tout FU.o LU.o ?_ | refine wlw 34 row_aid FI.o LI.o ?_ | refine wlw 36 row_aid FJ.o LJ.o ?_ | refine wlw 41 row_tx FX.o LX.o ?_ | refine wlw 43 row_tx FY.o LY.o ?_);go_ret
    exact ⟨by rw [HN.o]; first | rfl | simp, HB.o⟩
   | true =>
    have z_ : s1 = s2 := HRS.o.1 rfl;have z3 : (s1 == s2) = true := by simpa using z_
    have z4 : (s1 != s2) = false := by simpa using z_
    clear z_;cases re with
    | false =>
     have z_ : e1 ≠ e2 := fun h => by have := HRE.o.2 h; cases this
     have z5 : (e1 == e2) = false := by simpa using z_
     have z6 : (e1 != e2) = true := by simpa using z_
     clear z_;have HN := kq (res = false) (by rw [HRES.o]; simp);go_wp2_with (with_reducible first | refine wlw 13 row_tout FT.o LT.o ?_ | refine wlw 15 row_tout FU.o LU.o ?_ | refine wlw 34 row_aid FI.o LI.o ?_ | refine wlw 36 row_aid FJ.o LJ.o ?_ | refine wlw 41 row_tx FX.o LX.o ?_ | refine wlw 43 row_tx FY.o LY.o ?_);go_ret
     exact ⟨by rw [HN.o]; first | rfl | simp, HB.o⟩
    | true =>
     have z_ : e1 = e2 := HRE.o.1 rfl;have z5 : (e1 == e2) = true := by simpa using z_
     have z6 : (e1 != e2) = false := by simpa using z_
     clear z_;cases rd with
     | false =>
      have HN := kq (res = false) (by rw [HRES.o]; simp);go_wp2_with (with_reducible first | refine wlw 13 row_tout FT.o LT.o ?_ | refine wlw 15 row_tout FU.o LU.o ?_ | refine wlw 34 row_aid FI.o LI.o ?_ | refine wlw 36 row_aid FJ.o LJ.o ?_ | refine wlw 41 row_tx FX.o LX.o ?_ | refine wlw 43 row_tx FY.o LY.o ?_);go_ret
      exact ⟨by rw [HN.o]; first | rfl | simp, HB.o⟩
     | true =>
      go_wp2_with (with_reducible first | refine wlw 13 row_tout FT.o LT.o ?_ | refine wlw 15 row_tout FU.o LU.o ?_ | refine wlw 34 row_aid FI.o LI.o ?_ | refine wlw 36 row_aid FJ.o LJ.o ?_ | refine wlw 41 row_tx FX.o LX.o ?_ | refine wlw 43 row_tx FY.o LY.o ?_);refine (HTX.o _ HB.o).mono ?_;clear c0 d0 c39 d39 c40 d40 heqt heqd FT FU FI FJ FX FY z1 z2 z3 z4 z5 z6;rintro e v_ ⟨rfl, y_⟩;have y_ := y_;clear y_;replace HB := kp (HB.o.grow' y_);replace HX := kp (HX.o.grow y_);replace HY := kp (HY.o.grow y_);clear y_;try clear w_
      rename World => w_;have c5 := HX.o.blk.at_ X5.o; have d5 := HY.o.blk.at_ Y5.o;cases rx with
      | false =>
       have HN := kq (res = false) (by rw [HRES.o]; simp);go_wp2_with fail;go_ret
       exact ⟨by rw [HN.o]; first | rfl | simp, HB.o⟩
      | true =>
       by_cases hl : n3 = m3
       ·subst hl;have g2 : ((n3 : Int) != (n3 : Int)) = false := by simp
        go_wp2_with fail;clear g2;go_loopw [5] (fun i wr => ∃ k : Nat, k ≤ n3 ∧ i = .int .i64 k ∧ Hid ((cl1.map Prod.snd).take k = (cl2.map Prod.snd).take k) ∧ Hid (At wr g1 33 73 xv ∧ At wr g2 33 73 yv ∧ Below w.heap.size w wr)) (fun i _ => n3 - (intOf i).toNat)
        case atStart => exact ⟨0, by omega, rfl, kp (by simp), kp ⟨HX.o, HY.o, HB.o⟩⟩
        case round =>
         obtain ⟨k, hk, rfl, hup, hI⟩ := hrel;clear HB HX HY c5 d5;have HX := kp hI.o.1; have HY := kp hI.o.2.1; have HB := kp hI.o.2.2;clear hI;rename World => w_;have c5 := HX.o.blk.at_ X5.o; have d5 := HY.o.blk.at_ Y5.o;by_cases hlt : k < n3
         ·obtain ⟨b, off, p, P1, pn, pc, rfl, hp, hp1, hok, hid, hbl, hc⟩ := (HC1.o w (Below.refl _ _)).at_ hlt;obtain ⟨b2, off2, q, Q1, qn, qc, rfl, hp2, hq1, hok2, hid2, hbl2, hc2⟩ := (HC2.o w (Below.refl _ _)).at_ hlt;have HP := kq ((cl1.map Prod.snd)[k]? = some p.2) (by rw [List.getElem?_map, hp]; rfl);have HP2 := kq ((cl2.map Prod.snd)[k]? = some q.2) (by rw [List.getElem?_map, hp2]; rfl);have HPC := kp (cerV_cl (v := .slice P1 pn pc) rfl hok); have HQC := kp (cerV_cl (v := .slice Q1 qn qc) rfl hok2);obtain ⟨r, hr⟩ := bool_of (p.2 = q.2);have HRR := kp hr;have HL := kp (fun (w' : World) (hg : Grow w w') => rcsame_any (res := r) (by rw [Bool.eq_iff_iff, hr, decide_eq_true_eq]) w' hok hok2 (by rw [← hid.2.1]; exact HPL.o p (List.mem_of_getElem? hp)) (hid.grow hg) (hid2.grow hg));have HC := kp (fun (w' : World) (hg : Grow w w') j u (hu : (certV (.slice P1 pn pc) p.2)[j]? = some u) => bcell hg (hc j u hu));have HD := kp (fun (w' : World) (hg : Grow w w') j u (hu : (certV (.slice Q1 qn qc) q.2)[j]? = some u) => bcell hg (hc2 j u hu));obtain ⟨pv, hpv⟩ := xe (certV (.slice P1 pn pc) p.2);obtain ⟨qv, hqv⟩ := xe (certV (.slice Q1 qn qc) q.2);rw [← hpv] at HPC HC HL;rw [← hqv] at HQC HD HL;clear hr hp hp2 hp1 hq1 hok hok2 hid hid2 hbl hbl2 hc hc2 hpv hqv;go_wp2_with fail;repeat' (first | (with_reducible refine wp_phase (id := 6) (fun (_ : Nat) w' => Below w_.heap.size w_ w') [] [(0,0),(0,0),(0,0),(0,0),(0,0),(0,0),(0,0),(0,0),(0,0),(0,0),(0,0),(0,0)] (by kernel_rfl) (by kernel_rfl) ?_ ?_) | go_values | go_skip | go_guarded | go_step | go_upon | go_back)
          ·exact Drawn.all (Drawn.one w_)
          refine ph_value rfl (by first | rfl | go_simp) (fun k_ _ _ w_ hC_ => by first | (go_simp; rfl) | (go_simp; done) | rfl) (fun K hK => ?_);go_simp;refine hK _ ?_;clear hK K;refine ph_value rfl (by first | rfl | go_simp) (fun k_ _ _ w_ hC_ => by have c1 := bcell hC_ c5; first | (go_simp; rfl) | (go_simp; done) | rfl) (fun K hK => ?_);go_simp;refine hK _ ?_;clear hK K;refine ph_value rfl (by first | rfl | go_simp) (fun k_ _ _ w_ hC_ => by first | (go_simp; rfl) | (go_simp; done) | rfl) (fun K hK => ?_);go_simp;refine hK _ ?_;clear hK K;refine ph_value rfl (by first | rfl | go_simp) (fun k_ _ _ w_ hC_ => by first | (go_simp; rfl) | (go_simp; done) | rfl) (fun K hK => ?_);go_simp;refine hK _ ?_;clear hK K;refine ph_loadmk rfl (by first | rfl | go_simp) rfl row_cert (fun k _ _ w h j u hu => HC.o w (HB.o.grow' h) j u hu) (by first | rfl | (go_simp; done)) HPC.o.len ?_
          (intro K hK; go_simp; refine hK _ ?_; clear hK K)
          refine ph_value rfl (by first | rfl | go_simp) (fun k_ _ _ w_ hC_ => by first | (go_simp; rfl) | (go_simp; done) | rfl) (fun K hK => ?_);go_simp;refine hK _ ?_;clear hK K;refine ph_value rfl (by first | rfl | go_simp) (fun k_ _ _ w_ hC_ => by have c1 := bcell hC_ d5; first | (go_simp; rfl) | (go_simp; done) | rfl) (fun K hK => ?_);go_simp;refine hK _ ?_;clear hK K;refine ph_value rfl (by first | rfl | go_simp) (fun k_ _ _ w_ hC_ => by first | (go_simp; rfl) | (go_simp; done) | rfl) (fun K hK => ?_);go_simp;refine hK _ ?_;clear hK K;refine ph_value rfl (by first | rfl | go_simp) (fun k_ _ _ w_ hC_ => by first | (go_simp; rfl) | (go_simp; done) | rfl) (fun K hK => ?_);go_simp;refine hK _ ?_;clear hK K;refine ph_loadmk rfl (by first | rfl | go_simp) rfl row_cert (fun k _ _ w h j u hu => HD.o w (HB.o.grow' h) j u hu) (by first | rfl | (go_simp; done)) HQC.o.len ?_
          (intro K hK; go_simp; refine hK _ ?_; clear hK K)
          refine ph_call rfl (by first | rfl | go_simp) (fun w => by first | rfl | (go_simp; rfl) | go_simp) (fun k _ _ w h => (HL.o w (HB.o.grow' h)).mono fun e w' ⟨he, hb⟩ => ⟨he, below_step h h.size hb⟩) ?_
          (intro K hK; go_simp; refine hK _ ?_; clear hK K)
          refine ph_value rfl (by first | rfl | go_simp) (fun k_ _ _ w_ hC_ => by first | (go_simp; rfl) | (go_simp; done) | rfl) (fun K hK => ?_);go_simp;refine hK _ ?_;clear hK K;refine ph_nil ?_;intro w3_ y_;clear c5 d5 HL HC HD;have y_ := y_;clear y_;replace HB := kp (HB.o.grow' y_);replace HX := kp (HX.o.grow y_);replace HY := kp (HY.o.grow y_);clear y_;try clear w_
          rename World => w_;have v1 : IntKind.i64.wrap ((k : Int) + 1) = (k : Int) + 1 := IntWalk.i64_in _ (by omega);cases r with
          | true =>
           have HEQ := kq (p.2 = q.2) (HRR.o.1 rfl);go_wp2_with fail;go_roundw
           all_goals clear v1
           case rel => exact ⟨k + 1, by omega, by go_num, kp (by rw [List.take_add_one, List.take_add_one, HP.o, HP2.o, hup.o, HEQ.o]), kp ⟨HX.o, HY.o, HB.o⟩⟩
           case measure => simp [intOf]; omega
          | false =>
           have HN := kp (show res = false by
            rw [HRES.o];cases rc with
            | false => simp
            | true =>
             have h := HRC.o.1 rfl;have h1 := HP.o;rw [h, HP2.o] at h1;have := HRR.o.2 (Option.some.inj h1).symm
             cases this)
           clear v1;go_wp2_with fail;go_ret
           exact ⟨by rw [HN.o]; rfl, HB.o⟩
         ·have HN := kp (show res = true by
            rw [HRES.o];have h := hup.o;rw [List.take_of_length_le (by rw [List.length_map, HL1.o]; omega), List.take_of_length_le (by rw [List.length_map, HL2.o]; omega)] at h
            rw [HRC.o.2 h]; simp)
          go_wp2_with fail;go_ret
          exact ⟨by rw [HN.o]; rfl, HB.o⟩
       ·have g2 : ((n3 : Int) != (m3 : Int)) = true := by simp; omega
        have HN := kp (show res = false by
         rw [HRES.o];cases rc with
         | false => simp
         | true => have h := congrArg List.length (HRC.o.1 rfl); rw [List.length_map, List.length_map, HL1.o, HL2.o] at h; exact absurd h hl)
        clear hl;go_wp2_with fail;go_ret
        exact ⟨by rw [HN.o]; first | rfl | simp, HB.o⟩
abbrev YS := List UInt8 × Nat
def stY {α : Type} (f : List UInt8 → Re α) (z : α) (s : YS) : α × YS :=
 if s.2 ≠ 0 then (z, s) else match f s.1 with
  | .error x => (z, ([], x))
  | .ok (v, t) => (v, (t, 0))
theorem stY_err {α : Type} {f : List UInt8 → Re α} {z : α} {s : YS} (h : s.2 ≠ 0) : stY f z s = (z, s) := by unfold stY; rw [if_pos h]
theorem stY_no {α : Type} {f : List UInt8 → Re α} {z : α} {s : YS} {x : Nat} (h : s.2 = 0) (hf : f s.1 = .error x) : stY f z s = (z, ([], x)) := by unfold stY; rw [if_neg (by simpa using h), hf]
theorem stY_ok {α : Type} {f : List UInt8 → Re α} {z : α} {s : YS} {v : α} {t : List UInt8} (h : s.2 = 0) (hf : f s.1 = .ok (v, t)) : stY f z s = (v, (t, 0)) := by unfold stY; rw [if_neg (by simpa using h), hf]
theorem stY_len {α : Type} {f : List UInt8 → Re α} {z : α} {s : YS} (hf : ∀ l v t, f l = .ok (v, t) → t.length ≤ l.length) : (stY f z s).2.1.length ≤ s.1.length := by
 unfold stY;split
 ·exact Nat.le_refl _
 ·split
  ·simp
  ·rename_i v t h; exact hf _ _ _ h
def idY (s : YS) := stY (takeR 32) zeroD s
def numY (m : Nat) (s : YS) := stY (numR m) 0 s
def textY (m : Nat) (s : YS) := stY (textR m) [] s
theorem idY_len (s : YS) : (idY s).2.1.length ≤ s.1.length := stY_len (fun l v t h => (takeR_le h).2)
theorem numY_len (m : Nat) (s : YS) : (numY m s).2.1.length ≤ s.1.length := stY_len (fun l v t h => (numR_le h).2.2)
theorem textY_len (m : Nat) (s : YS) : (textY m s).2.1.length ≤ s.1.length := stY_len (fun l v t h => (textR_le h).2)
theorem idY_32 (s : YS) : (idY s).1.length = 32 := by
 unfold idY stY;split
 ·simp [zeroD]
 ·split
  ·simp [zeroD]
  ·rename_i v t h; exact (takeR_le h).1
theorem numY_le (m : Nat) (s : YS) : (numY m s).1 ≤ m ∧ (numY m s).1 ≤ 18446744073709551615 := by
 unfold numY stY;split
 ·simp
 ·split
  ·simp
  ·rename_i v t h; exact ⟨(numR_le h).1, (numR_le h).2.1⟩
theorem textY_le (m : Nat) (s : YS) : (textY m s).1.length ≤ m := by
 unfold textY stY;split
 ·simp
 ·split
  ·simp
  ·rename_i v t h; exact (textR_le h).1
def Stg (l : List UInt8) (s : YS) (P : List UInt8 → Prop) : Prop := (s.2 = 0 ∧ P s.1) ∨ (s.2 ≠ 0 ∧ lookT l = .error s.2)
theorem Stg.err {l : List UInt8} {s : YS} {P Q : List UInt8 → Prop} (h : Stg l s P) (hs : s.2 ≠ 0) : Stg l s Q := by
 rcases h with h | h
 ·exact absurd h.1 hs
 ·exact .inr h
theorem Stg.step {α : Type} {f : List UInt8 → Re α} {z : α} {l : List UInt8} {s : YS} {P : List UInt8 → Prop} {Q : α → List UInt8 → Prop} (h : Stg l s P) (hz : ∀ x l, f l = .error x → x ≠ 0)
  (hE : ∀ x, P s.1 → f s.1 = .error x → lookT l = .error x) (hO : ∀ v t, P s.1 → f s.1 = .ok (v, t) → Q v t) : Stg l (stY f z s).2 (Q (stY f z s).1) := by
 rcases h with ⟨h1, h2⟩ | ⟨h1, h2⟩
 ·cases hf : f s.1 with
  | error x => rw [stY_no h1 hf]; exact .inr ⟨hz x _ hf, hE x h2 hf⟩
  | ok p => obtain ⟨v, t⟩ := p; rw [stY_ok h1 hf]; exact .inl ⟨rfl, hO v t h2 hf⟩
 ·rw [stY_err h1]; exact .inr ⟨h1, h2⟩
def P1 (l : List UInt8) (n : Nat) (t : List UInt8) : Prop := numR 16 l = .ok (n, t)
def P2 (l : List UInt8) (n k : Nat) (is : List Inp) (t : List UInt8) : Prop := ∃ t1, numR 16 l = .ok (n, t1) ∧ lookN lookI k t1 = .ok (is, t)
def P2a (l : List UInt8) (n k : Nat) (is : List Inp) (d : List UInt8) (t : List UInt8) : Prop := ∃ t1, P2 l n k is t1 ∧ takeR 32 t1 = .ok (d, t)
def P2b (l : List UInt8) (n k : Nat) (is : List Inp) (d : List UInt8) (x : Nat) (t : List UInt8) : Prop := ∃ t1, P2a l n k is d t1 ∧ numR 15 t1 = .ok (x, t)
def P2c (l : List UInt8) (n k : Nat) (is : List Inp) (d : List UInt8) (x a : Nat) (t : List UInt8) : Prop := ∃ t1, P2b l n k is d x t1 ∧ numR 18446744073709551615 t1 = .ok (a, t)
def P3 (l : List UInt8) (is : List Inp) (m : Nat) (t : List UInt8) : Prop := ∃ n t1, P2 l n n is t1 ∧ numR 16 t1 = .ok (m, t)
def P4 (l : List UInt8) (is : List Inp) (m k : Nat) (os : List Outp) (t : List UInt8) : Prop := ∃ t1, P3 l is m t1 ∧ lookN lookO k t1 = .ok (os, t)
def P4a (l : List UInt8) (is : List Inp) (m k : Nat) (os : List Outp) (d : List UInt8) (t : List UInt8) : Prop := ∃ t1, P4 l is m k os t1 ∧ takeR 32 t1 = .ok (d, t)
def P5 (l : List UInt8) (is : List Inp) (os : List Outp) (t : List UInt8) : Prop := ∃ m, P4 l is m m os t
def P6 (l : List UInt8) (is : List Inp) (os : List Outp) (f : Nat) (t : List UInt8) : Prop := ∃ t1, P5 l is os t1 ∧ numR 18446744073709551615 t1 = .ok (f, t)
def P7 (l : List UInt8) (is : List Inp) (os : List Outp) (f e : Nat) (t : List UInt8) : Prop := lookT l = .ok (⟨is, os, (f : Int), (e : Int)⟩, t)
theorem lookT_insE {l t : List UInt8} {n k x : Nat} {is : List Inp} (h : P2 l n k is t) (hk : k < n) (he : lookI t = .error x) : lookT l = .error x := by
 obtain ⟨t1, h1, h2⟩ := h;have h3 : lookN lookI (k + 1) t1 = .error x := by rw [lookN_snoc, h2]; simp only; rw [he]
 have h4 := lookN_err h3 (n - (k + 1));rw [show k + 1 + (n - (k + 1)) = n by omega] at h4;unfold lookT;rw [h1]; simp only; rw [h4]
theorem lookT_outE {l t : List UInt8} {m k x : Nat} {is : List Inp} {os : List Outp} (h : P4 l is m k os t) (hk : k < m) (he : lookO t = .error x) : lookT l = .error x := by
 obtain ⟨t1, ⟨n, t0, ⟨t00, h0, h00⟩, h1⟩, h2⟩ := h;have h3 : lookN lookO (k + 1) t1 = .error x := by rw [lookN_snoc, h2]; simp only; rw [he]
 have h4 := lookN_err h3 (m - (k + 1));rw [show k + 1 + (m - (k + 1)) = m by omega] at h4;unfold lookT;rw [h0]; simp only; rw [h00]; simp only; rw [h1]; simp only; rw [h4]
theorem st0 (l : List UInt8) : Stg l (l, 0) (fun t => t = l) := .inl ⟨rfl, rfl⟩
theorem st1 {l : List UInt8} : Stg l (numY 16 (l, 0)).2 (P1 l (numY 16 (l, 0)).1) :=
 (st0 l).step (Q := fun v => P1 l v) (fun x l h => numR_err h) (fun x h e => by rw [h] at e; unfold lookT; rw [e]) (fun v t h e => by rw [h] at e; exact e)
theorem st2 {l : List UInt8} {n : Nat} {s : YS} (h : Stg l s (P1 l n)) : Stg l s (P2 l n 0 []) := by
 rcases h with ⟨h1, h2⟩ | h
 ·exact .inl ⟨h1, s.1, h2, rfl⟩
 ·exact .inr h
theorem st2a {l : List UInt8} {n k : Nat} {is : List Inp} {s : YS} (h : Stg l s (P2 l n k is)) (hk : k < n) : Stg l (idY s).2 (P2a l n k is (idY s).1) :=
 h.step (Q := fun v => P2a l n k is v) (fun x l h => takeR_err h) (fun x h e => lookT_insE h hk (by unfold lookI; rw [e])) (fun v t h e => ⟨_, h, e⟩)
theorem st2b {l : List UInt8} {n k : Nat} {is : List Inp} {d : List UInt8} {s : YS} (h : Stg l s (P2a l n k is d)) (hk : k < n) : Stg l (numY 15 s).2 (P2b l n k is d (numY 15 s).1) :=
 h.step (Q := fun v => P2b l n k is d v) (fun x l h => numR_err h) (fun x h e => by
  obtain ⟨t1, h1, h2⟩ := h
  exact lookT_insE h1 hk (by unfold lookI; rw [h2]; simp only; rw [e])) (fun v t h e => ⟨_, h, e⟩)
theorem st2c {l : List UInt8} {n k : Nat} {is : List Inp} {d : List UInt8} {x : Nat} {s : YS} (h : Stg l s (P2b l n k is d x)) (hk : k < n) : Stg l (numY 18446744073709551615 s).2 (P2c l n k is d x (numY 18446744073709551615 s).1) :=
 h.step (Q := fun v => P2c l n k is d x v) (fun x l h => numR_err h) (fun y h e => by
  obtain ⟨t2, ⟨t1, h1, h2⟩, h3⟩ := h
  exact lookT_insE h1 hk (by unfold lookI; rw [h2]; simp only; rw [h3]; simp only; rw [e])) (fun v t h e => ⟨_, h, e⟩)
theorem st2d {l : List UInt8} {n k : Nat} {is : List Inp} {d : List UInt8} {x a : Nat} {s : YS} (h : Stg l s (P2c l n k is d x a)) (hk : k < n) : Stg l (textY 64 s).2 (P2 l n (k + 1) (is ++ [⟨d, (x : Int), (a : Int), (textY 64 s).1⟩])) :=
 Stg.step (f := textR 64) (z := []) (Q := fun (v : List UInt8) => P2 l n (k + 1) (is ++ [Inp.mk d (x : Int) (a : Int) v])) h (fun x l h => textR_err h) (fun y h e => by
  obtain ⟨t3, ⟨t2, ⟨t1, h1, h2⟩, h3⟩, h4⟩ := h;exact lookT_insE h1 hk (by unfold lookI; rw [h2]; simp only; rw [h3]; simp only; rw [h4]; simp only; rw [e])) (fun v t h e => by
  obtain ⟨t3, ⟨t2, ⟨t1, ⟨t0, h0, h1⟩, h2⟩, h3⟩, h4⟩ := h;refine ⟨t0, h0, ?_⟩;rw [lookN_snoc, h1]; simp only;have : lookI t1 = .ok (⟨d, (x : Int), (a : Int), v⟩, t) := by unfold lookI; rw [h2]; simp only; rw [h3]; simp only; rw [h4]; simp only; rw [e]
  rw [this])
theorem st3 {l : List UInt8} {n : Nat} {is : List Inp} {s : YS} (h : Stg l s (P2 l n n is)) : Stg l (numY 16 s).2 (P3 l is (numY 16 s).1) :=
 h.step (Q := fun v => P3 l is v) (fun x l h => numR_err h) (fun x h e => by
  obtain ⟨t1, h1, h2⟩ := h
  unfold lookT; rw [h1]; simp only; rw [h2]; simp only; rw [e]) (fun v t h e => ⟨n, _, h, e⟩)
theorem st4 {l : List UInt8} {m : Nat} {is : List Inp} {s : YS} (h : Stg l s (P3 l is m)) : Stg l s (P4 l is m 0 []) := by
 rcases h with ⟨h1, h2⟩ | h
 ·exact .inl ⟨h1, s.1, h2, rfl⟩
 ·exact .inr h
theorem st4a {l : List UInt8} {m k : Nat} {is : List Inp} {os : List Outp} {s : YS} (h : Stg l s (P4 l is m k os)) (hk : k < m) : Stg l (idY s).2 (P4a l is m k os (idY s).1) :=
 h.step (Q := fun v => P4a l is m k os v) (fun x l h => takeR_err h) (fun x h e => lookT_outE h hk (by unfold lookO; rw [e])) (fun v t h e => ⟨_, h, e⟩)
theorem st4b {l : List UInt8} {m k : Nat} {is : List Inp} {os : List Outp} {d : List UInt8} {s : YS} (h : Stg l s (P4a l is m k os d)) (hk : k < m) : Stg l (numY 18446744073709551615 s).2 (P4 l is m (k + 1) (os ++ [⟨d, ((numY 18446744073709551615 s).1 : Int)⟩])) :=
 Stg.step (f := numR 18446744073709551615) (z := 0) (Q := fun (v : Nat) => P4 l is m (k + 1) (os ++ [Outp.mk d (v : Int)])) h (fun x l h => numR_err h) (fun y h e => by
  obtain ⟨t1, h1, h2⟩ := h;exact lookT_outE h1 hk (by unfold lookO; rw [h2]; simp only; rw [e])) (fun v t h e => by
  obtain ⟨t1, ⟨t0, h0, h1⟩, h2⟩ := h;refine ⟨t0, h0, ?_⟩;rw [lookN_snoc, h1]; simp only;have : lookO t1 = .ok (⟨d, (v : Int)⟩, t) := by unfold lookO; rw [h2]; simp only; rw [e]
  rw [this])
theorem st5 {l : List UInt8} {m : Nat} {is : List Inp} {os : List Outp} {s : YS} (h : Stg l s (P4 l is m m os)) : Stg l s (P5 l is os) := by
 rcases h with ⟨h1, h2⟩ | h
 ·exact .inl ⟨h1, m, h2⟩
 ·exact .inr h
theorem st6 {l : List UInt8} {is : List Inp} {os : List Outp} {s : YS} (h : Stg l s (P5 l is os)) : Stg l (numY 18446744073709551615 s).2 (P6 l is os (numY 18446744073709551615 s).1) :=
 h.step (Q := fun v => P6 l is os v) (fun x l h => numR_err h) (fun x h e => by
  obtain ⟨m, t1, ⟨n, t0, ⟨t00, h0, h00⟩, h1⟩, h2⟩ := h
  unfold lookT; rw [h0]; simp only; rw [h00]; simp only; rw [h1]; simp only; rw [h2]; simp only; rw [e]) (fun v t h e => ⟨_, h, e⟩)
theorem st7 {l : List UInt8} {is : List Inp} {os : List Outp} {f : Nat} {s : YS} (h : Stg l s (P6 l is os f)) : Stg l (numY 1099511627776 s).2 (P7 l is os f (numY 1099511627776 s).1) :=
 h.step (Q := fun v => P7 l is os f v) (fun x l h => numR_err h) (fun x h e => by
  obtain ⟨t2, ⟨m, t1, ⟨n, t0, ⟨t00, h0, h00⟩, h1⟩, h2⟩, h3⟩ := h;unfold lookT; rw [h0]; simp only; rw [h00]; simp only; rw [h1]; simp only; rw [h2]; simp only; rw [h3]; simp only; rw [e]) (fun v t h e => by
  obtain ⟨t2, ⟨m, t1, ⟨n, t0, ⟨t00, h0, h00⟩, h1⟩, h2⟩, h3⟩ := h
  unfold P7 lookT; rw [h0]; simp only; rw [h00]; simp only; rw [h1]; simp only; rw [h2]; simp only; rw [h3]; simp only; rw [e])
theorem readY {l : List UInt8} {is : List Inp} {os : List Outp} {f e : Nat} {s : YS} (h : Stg l s (P7 l is os f e)) :
  (s.2 ≠ 0 ∧ readT l = .error s.2) ∨ (s.2 = 0 ∧ s.1 ≠ [] ∧ readT l = .error 3) ∨ (s.2 = 0 ∧ s.1 = [] ∧ (⟨is, os, (f : Int), (e : Int)⟩ : Txn).ok ∧ readT l = if checkT ⟨is, os, (f : Int), (e : Int)⟩ ≠ 0 then .error (checkT ⟨is, os, (f : Int), (e : Int)⟩).toNat else .ok ⟨is, os, (f : Int), (e : Int)⟩) := by
 rcases h with ⟨h1, h2⟩ | ⟨h1, h2⟩
 ·by_cases h3 : s.1 = []
  ·refine .inr (.inr ⟨h1, h3, (lookT_ok h2).1, ?_⟩);unfold readT; rw [h2]; simp only; rw [if_neg (by simpa using h3)]
  ·refine .inr (.inl ⟨h1, h3, ?_⟩);unfold readT; rw [h2]; simp only; rw [if_pos h3]
 ·exact .inl ⟨h1, by unfold readT; rw [h2]⟩
theorem upto_id {l : List UInt8} {i : Nat} {x : UInt8} {k n : Int} {b : Value} (hl : 32 ≤ l.length) (hi : i < 32) (hx : l[i]? = some x) (f : List UInt8 → List Value) (hf : ∀ d, f d = fieldV k n b d) (e : Int) (left : Value) :
  (gotV (f (l.take i ++ List.replicate (32 - i) 0)) e left).set (3 + i) (B x) = gotV (f (l.take (i + 1) ++ List.replicate (32 - (i + 1)) 0)) e left := by
 rw [hf, hf];have h0 : (l.take i).length = i := by rw [List.length_take]; omega
 have hr : List.replicate (32 - i) (0 : UInt8) = 0 :: List.replicate (32 - (i + 1)) 0 := by rw [show 32 - i = (32 - (i + 1)) + 1 by omega, List.replicate_succ]
 have e1 : gotV (fieldV k n b (l.take i ++ List.replicate (32 - i) 0)) e left = ([.int .i64 k, .int .u64 n, b] ++ (l.take i).map B) ++ (B 0 :: ((List.replicate (32 - (i + 1)) 0).map B ++ [.int .i64 e, left])) := by
  rw [hr]; simp [gotV, fieldV]
 have e2 : gotV (fieldV k n b (l.take (i + 1) ++ List.replicate (32 - (i + 1)) 0)) e left = ([.int .i64 k, .int .u64 n, b] ++ (l.take i).map B) ++ (B x :: ((List.replicate (32 - (i + 1)) 0).map B ++ [.int .i64 e, left])) := by
  rw [take_snoc hx]; simp [gotV, fieldV]
 have hp : ([.int .i64 k, .int .u64 n, b] ++ (l.take i).map B).length = 3 + i := by simp [h0]; omega
 rw [e1, e2, ← hp];simp
theorem rtake_id {Bd : Nat} {A : Option Addr} {n c : Nat} {l : List UInt8} {m : Int} (w : World) (hs : Sl w Bd 1 A n (l.map B)) (hbd : Bd ≤ w.heap.size) (hc : n ≤ c) (hn : n ≤ 1000000) :
  Calls Try.prog 80 #[.slice A n c, .agg (fieldV 2 m nilS zeroD).toArray] w fun e w' => GotR (takeR 32 l) idF Bd w w' e := by
 have HS := kp hs;have HBD := kp hbd;clear hbd;have hln : l.length = n := by have := hs.len; simpa using this
 have HLN := kp hln;have HFC := kq (Cl 35 (fieldV 2 m nilS zeroD)) (fieldV_cl rfl (by simp [zeroD]));have IF := kq ((fieldV 2 m nilS zeroD)[0]? = some (.int .i64 2)) rfl;obtain ⟨fv, hfv⟩ := xe (fieldV 2 m nilS zeroD);rw [← hfv] at HFC IF ⊢;obtain ⟨nf, hnf⟩ := xe noF;obtain ⟨z0, hz0⟩ := xe (gotV noF 0 nilS);obtain ⟨gz, hgz⟩ := xe (gotV noF 2 nilS);have HGZ := kq (Cl 37 gz) (by rw [hgz]; exact gotV_cl noF_cl rfl);have TE := kq (Try.prog.built 142 [(1, .int .i64 2)] = some gz.toArray) (by rw [hgz]; exact bt_gote);have HZE := kp hgz;obtain ⟨w_, hw⟩ := xe w;have HB := kq (Below w.heap.size w w_) (by rw [hw]; exact Below.refl _ _)
 suffices H : Calls Try.prog 80 #[.slice A n c, .agg fv.toArray] w_ fun e w' => GotR (takeR 32 l) idF Bd w w' e by rw [hw] at H; exact H
 clear hw hs hln hfv hnf hz0 hgz;by_cases h32 : n < 32
 ·have d1 : decide ((n : Int) < 32) = true := by simp; omega
  go_enter Try.func80, Try.ntmps80
  go_wp2_with (with_reducible refine wbx 3 ?_);intro v_ b_ y_ s_;have HX_ := kp (at_mk b_ HFC.o.len);clear b_ s_;have HG_ := kp HB.o.size;replace HB := kp (HB.o.grow' y_);generalize hg_ : w_.heap.size = g3 at HX_ HG_ ⊢;clear hg_;have HF_g := HG_;clear HG_;have HF := HX_;clear y_ HX_;try clear w_
  rename World => w_;go_wp2_with (with_reducible refine wal 4 zero_got ?_);intro v_ b_ y_ s_;have HX_ := kp (at_mk b_ len_got);clear b_ s_;have HG_ := kp HB.o.size;replace HB := kp (HB.o.grow' y_);replace HF := kp (HF.o.grow y_);generalize hg_ : w_.heap.size = g4 at HX_ HG_ ⊢;clear hg_;have HV_g := HG_;clear HG_;have HV := HX_;clear y_ HX_;try clear w_
  rename World => w_;have c0 := HF.o.blk.at_ IF.o;go_wp2_with (with_reducible refine wst 17 ?_);refine stop_go ?_;refine wpl_build rfl rfl TE.o ?_;go_wp2_with (with_reducible refine wsb row_got HV.o.blk HV.o.len HGZ.o.len HGZ.o.one ?_);intro v_ b_ g_ s_;replace HB := kp (put_below HB.o HV_g.o g_);replace HV := kp (at_mk b_ HGZ.o.len);clear b_ g_ s_;try clear w_
  rename World => w_;clear c0;go_wp2_with fail;refine ret_cell rfl row_got HV.o.blk rfl HV.o.len rfl ?_;exact .err (x := 2) (by unfold takeR; rw [if_neg (by have := HLN.o; omega)]) (by rw [HZE.o]; rfl) HB.o
 ·have d1 : decide ((n : Int) < 32) = false := by simp; omega
  obtain ⟨b, off, hA, hb, hcell⟩ := HS.o.2 (by omega);subst hA;have HCELL := kp hcell;have HC := kp hc;clear hcell hb;by_cases h : c = 32
  ·subst h;obtain rfl : n = 32 := by omega
   have HF2 := kq (Cl 35 (fieldV 2 0 nilS zeroD)) (fieldV_cl rfl (by simp [zeroD]));have TF := kp (bt_fldk (k := 2));have TG := kp (bt_got (A := (some ⟨b, off, none⟩)) (n := 0) (c := 0) HF2.o);obtain ⟨f2, hf2⟩ := xe (fieldV 2 0 nilS zeroD);rw [← hf2] at HF2 TF TG;obtain ⟨g2, hg2⟩ := xe (gotV f2 0 (.slice (some ⟨b, off, none⟩) 0 0));have HG2 := kq (Cl 37 g2) (by rw [hg2]; exact gotV_cl HF2.o rfl);have HG2E := kq (g2 = gotV (fieldV 2 0 nilS (l.take 0 ++ List.replicate (32 - 0) 0)) 0 (.slice (some ⟨b, off, none⟩) 0 0)) (by rw [hg2, hf2]; rfl);rw [← hg2] at TG;clear hf2 hg2
   go_enter Try.func80, Try.ntmps80
   go_wp2_with (with_reducible refine wbx 3 ?_);intro v_ b_ y_ s_;have HX_ := kp (at_mk b_ HFC.o.len);clear b_ s_;have HG_ := kp HB.o.size;replace HB := kp (HB.o.grow' y_);generalize hg_ : w_.heap.size = g3 at HX_ HG_ ⊢;clear hg_;have HF_g := HG_;clear HG_;have HF := HX_;clear y_ HX_;try clear w_
   rename World => w_;go_wp2_with (with_reducible refine wal 4 zero_got ?_);intro v_ b_ y_ s_;have HX_ := kp (at_mk b_ len_got);clear b_ s_;have HG_ := kp HB.o.size;replace HB := kp (HB.o.grow' y_);replace HF := kp (HF.o.grow y_);generalize hg_ : w_.heap.size = g4 at HX_ HG_ ⊢;clear hg_;have HV_g := HG_;clear HG_;have HV := HX_;clear y_ HX_;try clear w_
   rename World => w_;have c0 := HF.o.blk.at_ IF.o;go_wp2_with (with_reducible refine wst 18 ?_);refine stop_go ?_;refine wpl_build rfl rfl TF.o ?_;go_wp2_with (with_reducible refine wst 21 ?_);refine stop_go ?_;refine wpl_build rfl rfl TG.o ?_;go_wp2_with (with_reducible refine wal 5 zero_got ?_);intro v_ b_ y_ s_;obtain ⟨g5, hg5⟩ := xe w_.heap.size;have H5 := kp (at_mk b_ len_got);have H5_g := kp HB.o.size;rw [← hg5] at H5 H5_g ⊢;have H54 := kq (g5 ≠ g4) (by have := HV.o.lt; omega);clear b_ s_ hg5 c0;replace HB := kp (HB.o.grow' y_);replace HV := kp (HV.o.grow y_);clear HF y_;try clear w_
   rename World => w_;go_wp2_with (with_reducible refine wsb row_got H5.o.blk H5.o.len HG2.o.len HG2.o.one ?_);intro v_ b_ g_ s_;have HB_ := kp (put_below HB.o H5_g.o g_);have HV_ := kq (At v_ g4 142 37 (gotV noF 0 nilS)) ⟨Blk.grown HV.o.blk g_ (fun e => H54.o (by injection e with e; exact e.symm)), HV.o.len⟩;have H5_ := kp (at_mk b_ HG2.o.len);rw [HG2E.o] at H5_;clear b_ g_ s_ HB HV H5 HG2;go_wp2_with fail;go_loopw [6] (fun iv wr => ∃ i : Nat, i ≤ 32 ∧ iv = .int .i64 i ∧ Hid (At wr g5 142 37 (gotV (fieldV 2 0 nilS (l.take i ++ List.replicate (32 - i) 0)) 0 (.slice (some ⟨b, off, none⟩) 0 0)) ∧ At wr g4 142 37 (gotV noF 0 nilS) ∧ Below w.heap.size w wr)) (fun iv _ => 32 - (intOf iv).toNat)
   case atStart => exact ⟨0, by omega, rfl, kp ⟨H5_.o, HV_.o, HB_.o⟩⟩
   case round =>
    obtain ⟨i, hi, rfl, hI⟩ := hrel;have H5 := kp hI.o.1; have HV := kp hI.o.2.1; have HB := kp hI.o.2.2;clear hI H5_ HV_ HB_;by_cases hlt : i < 32
    ·obtain ⟨x, hx⟩ : ∃ x, l[i]? = some x := ⟨l[i]'(by have := HLN.o; omega), List.getElem?_eq_getElem _⟩;have hbc := bcell HB.o (HCELL.o i (B x) (by rw [List.getElem?_map, hx]; rfl));have HX := kp (upto_id (by have := HLN.o; omega) hlt hx (fun d => fieldV 2 0 nilS d) (fun d => rfl) 0 (.slice (some ⟨b, off, none⟩) 0 0));have v3 : IntKind.i64.wrap ((i : Int) + 1) = (i : Int) + 1 := IntWalk.i64_in _ (by omega);have v4 : RowKit.wrap64 ((i : Int) + 1) = (i : Int) + 1 := wrap64_in _ (by omega);obtain ⟨bx, hbx⟩ := xe (B x);have HCE := kq (bx.cells = #[bx] ∧ bx.oneCell' = true) (by rw [hbx]; exact ⟨rfl, rfl⟩);rw [← hbx] at hbc HX;clear hbx hx;go_wp2_with (first | (refine wpl_store1 (o := ⟨none, .store _ _ _, _, _, _, _⟩) rfl rfl H5.o.blk rfl rfl (by kernel_rfl) HCE.o.1 HCE.o.2 (by first | (rw [H5.o.len]; omega) | fail) ?_));intro v_ b_ g_ s_;have HB_ := kp (put_below HB.o H5_g.o g_);have HV_ := kq (At v_ g4 142 37 (gotV noF 0 nilS)) ⟨Blk.grown HV.o.blk g_ (fun e => H54.o (by injection e with e; exact e.symm)), HV.o.len⟩;have H5_ := kq (At v_ g5 142 37 (gotV (fieldV 2 0 nilS (l.take (i + 1) ++ List.replicate (32 - (i + 1)) 0)) 0 (.slice (some ⟨b, off, none⟩) 0 0))) (at_mk (by rw [← HX.o]; exact b_) (by rw [← HX.o, List.length_set]; exact H5.o.len));clear b_ g_ s_ HB HV H5;go_wp2_with fail;go_roundw
     case rel => exact ⟨i + 1, by omega, by go_num, kp ⟨H5_.o, HV_.o, HB_.o⟩⟩
     case measure => simp [intOf]; omega
    ·obtain rfl : i = 32 := by omega
     rename World => w_;have HH5 := kq (At w_ g5 142 37 (gotV (fieldV 2 0 nilS (l.take 32)) 0 (.slice (some ⟨b, off, none⟩) 0 0))) (by have h := H5.o; simp only [Nat.sub_self, List.replicate_zero, List.append_nil] at h; exact h);have HCF := kq (Cl 35 (fieldV 2 0 nilS (l.take 32))) (fieldV_cl rfl (by rw [List.length_take]; have := HLN.o; omega));have HCO := kq (Cl 37 (gotV (fieldV 2 0 nilS (l.take 32)) 0 (.slice (some ⟨b, off, none⟩) 0 0))) (gotV_cl HCF.o rfl);obtain ⟨ov, hov⟩ := xe (gotV (fieldV 2 0 nilS (l.take 32)) 0 (.slice (some ⟨b, off, none⟩) 0 0));have HOV := kp hov;rw [← hov] at HH5 HCO;clear hov H5;go_wp2_with (with_reducible first | refine wlb 34 row_got HH5.o.blk HH5.o.len ?_ | refine wsb row_got HV.o.blk HV.o.len HCO.o.len HCO.o.one ?_);intro v_ b_ g_ s_;have HB_ := kp (put_below HB.o HV_g.o g_);have HV_ := kp (at_mk b_ HCO.o.len);clear b_ g_ s_ HB HV HH5;go_wp2_with fail;refine ret_cell rfl row_got HV_.o.blk rfl HV_.o.len rfl ?_;have hdl : (l.drop 32).length = 0 := by rw [List.length_drop, HLN.o]
     refine .ok (v := l.take 32) (t := l.drop 32) (A := (some ⟨b, off, none⟩)) (c := 0) (by unfold takeR; rw [if_pos (by have := HLN.o; omega)]) (by rw [HOV.o, hdl]) HCF.o rfl ?_ (by rw [hdl]; omega) HB_.o;rw [hdl, List.map_drop];have h9 := (HS.o.from1 (k := 32) (by omega) HC.o).below (HB_.o.mono HBD.o);exact (by simpa using h9)
  ·have hcf : (c = 32) = False := eq_false h;have v1 : ((n : Int) - 32).toNat = n - 32 := by omega
   have HF2 := kq (Cl 35 (fieldV 2 0 nilS zeroD)) (fieldV_cl rfl (by simp [zeroD]));have TF := kp (bt_fldk (k := 2));have TG := kp (bt_got (A := (some ⟨b, off + 32, none⟩)) (n := (n - 32)) (c := (c - 32)) HF2.o);obtain ⟨f2, hf2⟩ := xe (fieldV 2 0 nilS zeroD);rw [← hf2] at HF2 TF TG;obtain ⟨g2, hg2⟩ := xe (gotV f2 0 (.slice (some ⟨b, off + 32, none⟩) (n - 32) (c - 32)));have HG2 := kq (Cl 37 g2) (by rw [hg2]; exact gotV_cl HF2.o rfl);have HG2E := kq (g2 = gotV (fieldV 2 0 nilS (l.take 0 ++ List.replicate (32 - 0) 0)) 0 (.slice (some ⟨b, off + 32, none⟩) (n - 32) (c - 32))) (by rw [hg2, hf2]; rfl);rw [← hg2] at TG;clear hf2 hg2
   go_enter Try.func80, Try.ntmps80
   go_wp2_with (with_reducible refine wbx 3 ?_);intro v_ b_ y_ s_;have HX_ := kp (at_mk b_ HFC.o.len);clear b_ s_;have HG_ := kp HB.o.size;replace HB := kp (HB.o.grow' y_);generalize hg_ : w_.heap.size = g3 at HX_ HG_ ⊢;clear hg_;have HF_g := HG_;clear HG_;have HF := HX_;clear y_ HX_;try clear w_
   rename World => w_;go_wp2_with (with_reducible refine wal 4 zero_got ?_);intro v_ b_ y_ s_;have HX_ := kp (at_mk b_ len_got);clear b_ s_;have HG_ := kp HB.o.size;replace HB := kp (HB.o.grow' y_);replace HF := kp (HF.o.grow y_);generalize hg_ : w_.heap.size = g4 at HX_ HG_ ⊢;clear hg_;have HV_g := HG_;clear HG_;have HV := HX_;clear y_ HX_;try clear w_
   rename World => w_;have c0 := HF.o.blk.at_ IF.o;go_wp2_with (with_reducible refine wst 18 ?_);refine stop_go ?_;refine wpl_build rfl rfl TF.o ?_;go_wp2_with (with_reducible refine wst 21 ?_);refine stop_go ?_;refine wpl_build rfl rfl TG.o ?_;go_wp2_with (with_reducible refine wal 5 zero_got ?_);intro v_ b_ y_ s_;obtain ⟨g5, hg5⟩ := xe w_.heap.size;have H5 := kp (at_mk b_ len_got);have H5_g := kp HB.o.size;rw [← hg5] at H5 H5_g ⊢;have H54 := kq (g5 ≠ g4) (by have := HV.o.lt; omega);clear b_ s_ hg5 c0;replace HB := kp (HB.o.grow' y_);replace HV := kp (HV.o.grow y_);clear HF y_;try clear w_
   rename World => w_;go_wp2_with (with_reducible refine wsb row_got H5.o.blk H5.o.len HG2.o.len HG2.o.one ?_);intro v_ b_ g_ s_;have HB_ := kp (put_below HB.o H5_g.o g_);have HV_ := kq (At v_ g4 142 37 (gotV noF 0 nilS)) ⟨Blk.grown HV.o.blk g_ (fun e => H54.o (by injection e with e; exact e.symm)), HV.o.len⟩;have H5_ := kp (at_mk b_ HG2.o.len);rw [HG2E.o] at H5_;clear b_ g_ s_ HB HV H5 HG2;go_wp2_with fail;go_loopw [6] (fun iv wr => ∃ i : Nat, i ≤ 32 ∧ iv = .int .i64 i ∧ Hid (At wr g5 142 37 (gotV (fieldV 2 0 nilS (l.take i ++ List.replicate (32 - i) 0)) 0 (.slice (some ⟨b, off + 32, none⟩) (n - 32) (c - 32))) ∧ At wr g4 142 37 (gotV noF 0 nilS) ∧ Below w.heap.size w wr)) (fun iv _ => 32 - (intOf iv).toNat)
   case atStart => exact ⟨0, by omega, rfl, kp ⟨H5_.o, HV_.o, HB_.o⟩⟩
   case round =>
    obtain ⟨i, hi, rfl, hI⟩ := hrel;have H5 := kp hI.o.1; have HV := kp hI.o.2.1; have HB := kp hI.o.2.2;clear hI H5_ HV_ HB_;by_cases hlt : i < 32
    ·obtain ⟨x, hx⟩ : ∃ x, l[i]? = some x := ⟨l[i]'(by have := HLN.o; omega), List.getElem?_eq_getElem _⟩;have hbc := bcell HB.o (HCELL.o i (B x) (by rw [List.getElem?_map, hx]; rfl));have HX := kp (upto_id (by have := HLN.o; omega) hlt hx (fun d => fieldV 2 0 nilS d) (fun d => rfl) 0 (.slice (some ⟨b, off + 32, none⟩) (n - 32) (c - 32)));have v3 : IntKind.i64.wrap ((i : Int) + 1) = (i : Int) + 1 := IntWalk.i64_in _ (by omega);have v4 : RowKit.wrap64 ((i : Int) + 1) = (i : Int) + 1 := wrap64_in _ (by omega);obtain ⟨bx, hbx⟩ := xe (B x);have HCE := kq (bx.cells = #[bx] ∧ bx.oneCell' = true) (by rw [hbx]; exact ⟨rfl, rfl⟩);rw [← hbx] at hbc HX;clear hbx hx;go_wp2_with (first | (refine wpl_store1 (o := ⟨none, .store _ _ _, _, _, _, _⟩) rfl rfl H5.o.blk rfl rfl (by kernel_rfl) HCE.o.1 HCE.o.2 (by first | (rw [H5.o.len]; omega) | fail) ?_));intro v_ b_ g_ s_;have HB_ := kp (put_below HB.o H5_g.o g_);have HV_ := kq (At v_ g4 142 37 (gotV noF 0 nilS)) ⟨Blk.grown HV.o.blk g_ (fun e => H54.o (by injection e with e; exact e.symm)), HV.o.len⟩;have H5_ := kq (At v_ g5 142 37 (gotV (fieldV 2 0 nilS (l.take (i + 1) ++ List.replicate (32 - (i + 1)) 0)) 0 (.slice (some ⟨b, off + 32, none⟩) (n - 32) (c - 32)))) (at_mk (by rw [← HX.o]; exact b_) (by rw [← HX.o, List.length_set]; exact H5.o.len));clear b_ g_ s_ HB HV H5;go_wp2_with fail;go_roundw
     case rel => exact ⟨i + 1, by omega, by go_num, kp ⟨H5_.o, HV_.o, HB_.o⟩⟩
     case measure => simp [intOf]; omega
    ·obtain rfl : i = 32 := by omega
     rename World => w_;have HH5 := kq (At w_ g5 142 37 (gotV (fieldV 2 0 nilS (l.take 32)) 0 (.slice (some ⟨b, off + 32, none⟩) (n - 32) (c - 32)))) (by have h := H5.o; simp only [Nat.sub_self, List.replicate_zero, List.append_nil] at h; exact h);have HCF := kq (Cl 35 (fieldV 2 0 nilS (l.take 32))) (fieldV_cl rfl (by rw [List.length_take]; have := HLN.o; omega));have HCO := kq (Cl 37 (gotV (fieldV 2 0 nilS (l.take 32)) 0 (.slice (some ⟨b, off + 32, none⟩) (n - 32) (c - 32)))) (gotV_cl HCF.o rfl);obtain ⟨ov, hov⟩ := xe (gotV (fieldV 2 0 nilS (l.take 32)) 0 (.slice (some ⟨b, off + 32, none⟩) (n - 32) (c - 32)));have HOV := kp hov;rw [← hov] at HH5 HCO;clear hov H5;go_wp2_with (with_reducible first | refine wlb 34 row_got HH5.o.blk HH5.o.len ?_ | refine wsb row_got HV.o.blk HV.o.len HCO.o.len HCO.o.one ?_);intro v_ b_ g_ s_;have HB_ := kp (put_below HB.o HV_g.o g_);have HV_ := kp (at_mk b_ HCO.o.len);clear b_ g_ s_ HB HV HH5;go_wp2_with fail;refine ret_cell rfl row_got HV_.o.blk rfl HV_.o.len rfl ?_;have hdl : (l.drop 32).length = (n - 32) := by rw [List.length_drop, HLN.o]
     refine .ok (v := l.take 32) (t := l.drop 32) (A := (some ⟨b, off + 32, none⟩)) (c := (c - 32)) (by unfold takeR; rw [if_pos (by have := HLN.o; omega)]) (by rw [HOV.o, hdl]) HCF.o rfl ?_ (by rw [hdl]; omega) HB_.o;rw [hdl, List.map_drop];have h9 := (HS.o.from1 (k := 32) (by omega) HC.o).below (HB_.o.mono HBD.o);rw [if_neg h] at h9;exact h9
end Go.Proofs.Ytobmldegjajocaa

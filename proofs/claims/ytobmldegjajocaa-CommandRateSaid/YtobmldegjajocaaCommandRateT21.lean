/- The contract of the document's Put of a transaction. Printed by mkrtput.py. -/
import Derived.Test.YtobmldegjajocaaCommandRateT17
import Derived.Test.YtobmldegjajocaaCommandRateT19
import Derived.Test.YtobmldegjajocaaCommandRateT6
import Derived.Test.YtobmldegjajocaaCommandRateT20
import Derived.Test.YtobmldegjajocaaCommandRateT14
set_option linter.unusedSimpArgs false
/- The contract of the document's Put of a transaction. Printed by mkrtput.py. -/
namespace Go.Proofs.Ytobmldegjajocaa
open Go.RowKit Go.Shelf
set_option linter.unusedVariables false
theorem acc_put {w6 w w3 : World} {Z n m c c' : Nat} {A A' : Option Addr} {acc new : List UInt8} (hz : Grow w6 w) (hZ : Z = w6.heap.size) (ho : OwnAt w Z A n c (acc.map B)) (ho_ : w3.ownsRow Z 5 1 (.slice A' (n + m) c') (n + m) (acc.map B ++ new.map B)) (hg : w.grownBy w3 (A.map Addr.block)) :
    OwnAt w3 Z A' (n + m) c' ((acc ++ new).map B) ∧ Grow w6 w3 := by
  refine ⟨by unfold OwnAt; rw [List.map_append]; exact ho_, ?_⟩
  unfold Grow at hz ⊢
  exact below_grown hz hg hz.size (fun g hg' => by have := own_from ho g hg'; omega)
theorem nat_ofU {z : Int} (h : U64 z) : ∃ k : Nat, z = (k : Int) ∧ k ≤ 18446744073709551615 ∧ z.toNat = k := ⟨z.toNat, by have := h.1; omega, by have := h.2; omega, rfl⟩
theorem own_neT {w : World} {base n c sz q : Nat} {e T : TypeId} {A : Option Addr} {xs cs : List Value} (h : w.ownsRow base e sz (.slice A n c) n xs) (hb : Blk w q T cs) (hT : T ≠ e) : ∀ k, A.map Addr.block = some k → k ≠ q := by
  intro k hk e1
  subst e1
  rcases h.2 with ⟨hv, _⟩ | ⟨g, cap, cur, hv, _, hh, _⟩
  · injection hv with hA; rw [hA] at hk; cases hk
  · injection hv with hA
    rw [hA] at hk
    cases hk
    unfold Blk at hb
    rw [hb] at hh
    injection hh with hh
    injection hh with _ ht
    exact hT ht
theorem nat_in {z : Int} {m : Nat} (h : 0 ≤ z) (h2 : z ≤ (m : Int)) : ∃ k : Nat, z = (k : Int) ∧ k ≤ m ∧ z.toNat = k := ⟨z.toNat, by omega, by omega, rfl⟩
theorem flat_snoc {α : Type} (f : α → List UInt8) {l : List α} {k : Nat} {p : α} (h : l[k]? = some p) : (l.take (k + 1)).flatMap f = (l.take k).flatMap f ++ f p := by
  rw [take_snoc h, List.flatMap_append]; simp
set_option maxRecDepth 100000 in
set_option maxHeartbeats 16000000 in
theorem rtput_any {A : Option Addr} {n c : Nat} {A2 : Option Addr} {n2 c2 : Nat} {fee ex : Int} {l : List (Value × Inp)} {os : List Outp} (w : World) (hi : InsAt w A n c l) (ho : OutsAt w A2 n2 c2 os) (hn : n ≤ 16) (hn2 : n2 ≤ 16) (hf : U64 fee) (hex : 0 ≤ ex ∧ ex ≤ 1099511627776) (hil : ∀ p ∈ l, p.2.secret.length ≤ 64 ∧ 0 ≤ p.2.index ∧ p.2.index ≤ 15) :
    Calls Try.prog 34 #[.agg (txV A n c A2 n2 c2 fee ex).toArray] w fun e w' => ∃ A' c', e = .returned (.slice A' (putTB ⟨l.map Prod.snd, os, fee, ex⟩).length c') ∧ Sl w' w'.heap.size 1 A' (putTB ⟨l.map Prod.snd, os, fee, ex⟩).length ((putTB ⟨l.map Prod.snd, os, fee, ex⟩).map B) ∧ (putTB ⟨l.map Prod.snd, os, fee, ex⟩).length ≤ c' ∧ Grow w w' := by
  obtain ⟨fe, rfl, hfe, hfe2⟩ := nat_ofU hf
  obtain ⟨xe, rfl, hxe, hxe2⟩ := nat_in (m := 1099511627776) hex.1 hex.2
  have HI := Lib.hid hi; have HO := Lib.hid ho; have HIL := Lib.hid hil
  have HTC := Lib.hid (txV_cl (A := A) (n := n) (c := c) (A2 := A2) (n2 := n2) (c2 := c2) (fee := (fe : Int)) (ex := (xe : Int)))
  have HT0 := Lib.hid (show (txV A n c A2 n2 c2 (fe : Int) (xe : Int))[0]? = some (.slice A n c) from rfl)
  have HT1 := Lib.hid (show (txV A n c A2 n2 c2 (fe : Int) (xe : Int))[1]? = some (.slice A2 n2 c2) from rfl)
  have HT2 := Lib.hid (show (txV A n c A2 n2 c2 (fe : Int) (xe : Int))[2]? = some (.int .u64 (fe : Int)) from rfl)
  have HT3 := Lib.hid (show (txV A n c A2 n2 c2 (fe : Int) (xe : Int))[3]? = some (.int .i64 (xe : Int)) from rfl)
  have HPT := Lib.hid (show putTB ⟨l.map Prod.snd, os, (fe : Int), (xe : Int)⟩ = numB n ++ (l.map Prod.snd).flatMap putI ++ numB n2 ++ os.flatMap putO ++ numB fe ++ numB xe by
    unfold putTB
    rw [List.length_map, hi.2.2.1, ho.2.2.1]
    rfl)
  obtain ⟨out, hout⟩ : ∃ q, q = putTB ⟨l.map Prod.snd, os, (fe : Int), (xe : Int)⟩ := ⟨_, rfl⟩
  rw [← hout] at HPT ⊢
  obtain ⟨ins, hins⟩ : ∃ q, q = l.map Prod.snd := ⟨_, rfl⟩
  have HINS := Lib.hid hins
  rw [← hins] at HPT
  obtain ⟨tv, htv⟩ : ∃ q, q = txV A n c A2 n2 c2 (fe : Int) (xe : Int) := ⟨_, rfl⟩
  rw [← htv] at HTC HT0 HT1 HT2 HT3 ⊢
  have HIL2 := Lib.hid (show ins.length = n by rw [hins, List.length_map]; exact hi.2.2.1)
  have HOL2 := Lib.hid ho.2.2.1
  clear hi ho hf hex hil hfe2 hxe2 hout hins htv
  obtain ⟨w_, hw⟩ : ∃ x, x = w := ⟨_, rfl⟩
  have HB := Lib.hid (show Below w.heap.size w w_ by rw [hw]; exact Below.refl _ _)
  suffices H : Calls Try.prog 34 #[.agg tv.toArray] w_ fun e w' => ∃ A' c', e = .returned (.slice A' out.length c') ∧ Sl w' w'.heap.size 1 A' out.length (out.map B) ∧ out.length ≤ c' ∧ Grow w w' by rw [hw] at H; exact H
  clear hw
  go_enter Try.func34, Try.ntmps34
  go_wp2_with (first | (with_reducible refine wpl_box (o := ⟨some 1, _, _, _, _, _⟩) rfl rfl rfl ?_))
  intro w2_ hb2_ hb_ hsz2_
  have HX_ := Lib.hid (at_mk hb2_ HTC.out.len)
  clear hb2_ hsz2_
  have HG_ := Lib.hid HB.out.size
  have HB_ := Lib.hid (HB.out.grow' hb_)
  clear HB
  have HB := HB_
  clear HB_
  generalize hg_ : w_.heap.size = g1 at HX_ HG_ ⊢
  clear hg_
  have HX_g := HG_
  clear HG_
  have HX := HX_
  clear hb_ HX_
  try clear w_
  rename World => w_
  have HI6 := Lib.hid (HI.out.grow HB.out); have HO6 := Lib.hid (HO.out.grow HB.out)
  have HB6 := Lib.hid HB.out
  obtain ⟨w6, hw6⟩ : ∃ x, x = w_ := ⟨_, rfl⟩
  have HG := Lib.hid (show Grow w6 w_ by rw [hw6]; exact Grow.refl _)
  rw [← hw6] at HI6 HO6 HB6 HX
  obtain ⟨Z, hZ⟩ : ∃ q, q = w6.heap.size := ⟨_, rfl⟩
  have HZ := Lib.hid hZ
  clear hZ hw6 HB HI HO
  obtain ⟨mn, hmn⟩ : ∃ q, q = (numB n).length := ⟨_, rfl⟩
  have lmn : mn ≤ 9 := by rw [hmn]; exact numB_le (by omega)
  obtain ⟨mo, hmo⟩ : ∃ q, q = (numB n2).length := ⟨_, rfl⟩
  have lmo : mo ≤ 9 := by rw [hmo]; exact numB_le (by omega)
  obtain ⟨mf, hmf⟩ : ∃ q, q = (numB fe).length := ⟨_, rfl⟩
  have lmf : mf ≤ 9 := by rw [hmf]; exact numB_le (by omega)
  obtain ⟨mx, hmx⟩ : ∃ q, q = (numB xe).length := ⟨_, rfl⟩
  have lmx : mx ≤ 9 := by rw [hmx]; exact numB_le (by omega)
  have HRN := Lib.hid (fun w => rnum_any n w (by omega)); have HRO := Lib.hid (fun w => rnum_any n2 w (by omega)); have HRF := Lib.hid (fun w => rnum_any fe w (by omega)); have HRX := Lib.hid (fun w => rnum_any xe w (by omega))
  rw [← hmn] at HRN; rw [← hmo] at HRO; rw [← hmf] at HRF; rw [← hmx] at HRX
  clear hmn hmo hmf hmx
  have c0 := (HX.out.grow HG.out).blk.at_ HT0.out
  have q1 := conv_u64' (n := n) (by omega)
  go_wp2_with fail
  refine (HRN.out _).mono ?_
  rintro e w2_ ⟨A7, c7, rfl, ho_, hc_, hb_⟩
  have HW := Lib.hid (show OwnAt w2_ Z A7 mn c7 ((numB n).map B) from own_base ho_ (by rw [HZ.out]; exact HG.out.size))
  replace HG := Lib.hid (HG.out.grow' hb_)
  clear ho_ hc_ hb_ q1 c0
  try clear w_
  rename World => w_
  have HK1 := Lib.hid (show numB n = numB n ++ (ins.take 0).flatMap putI by simp)
  go_upto_block 0 with fail
  go_cut [3] from 7 (fun s3 wr => ∃ A3 m c3, s3 = .slice A3 m c3 ∧ m ≤ 9 + 16 * 130 ∧ Hid (OwnAt wr Z A3 m c3 ((numB n ++ ins.flatMap putI).map B) ∧ Grow w6 wr))
  case first =>
    go_wp2_with fail
    go_loopw [3, 4] (fun s3 iv wr => ∃ k : Nat, ∃ A3 m c3 acc, k ≤ n ∧ iv = .int .i64 k ∧ s3 = .slice A3 m c3 ∧ m ≤ 9 + k * 130 ∧ Hid (OwnAt wr Z A3 m c3 (acc.map B) ∧ acc = numB n ++ (ins.take k).flatMap putI ∧ Grow w6 wr)) (fun _ iv _ => n - (intOf iv).toNat)
    case atStart => exact ⟨0, A7, mn, c7, numB n, by omega, rfl, rfl, by omega, Lib.hid ⟨HW.out, HK1.out, HG.out⟩⟩
    case round =>
      obtain ⟨k, A3, m, c3, acc, hk, rfl, rfl, hm, hI⟩ := hrel
      clear HW HG HK1
      have HW := Lib.hid hI.out.1; have HAC := Lib.hid hI.out.2.1; have HG := Lib.hid hI.out.2.2
      clear hI
      rename World => w_
      by_cases hlt : k < n
      · obtain ⟨b, off, p, rfl, hp, hok, hc⟩ := HI6.out.at_ hlt
        have HIP := Lib.hid (HIL.out p (List.mem_of_getElem? hp))
        have HSN := Lib.hid (flat_snoc putI (l := ins) (k := k) (p := p.2) (by rw [HINS.out, List.getElem?_map, hp]; rfl))
        obtain ⟨⟨As, cs, es, hsc, hss⟩, hio⟩ := hok
        obtain ⟨ix, hix, hixl, hix2⟩ := nat_in (m := 15) HIP.out.2.1 HIP.out.2.2
        obtain ⟨am, ham, haml, ham2⟩ := nat_ofU hio.2.2
        obtain ⟨sl, hsl⟩ : ∃ q, q = p.2.secret.length := ⟨_, rfl⟩
        obtain ⟨sc, hsec⟩ : ∃ q, q = p.2.secret := ⟨_, rfl⟩
        obtain ⟨tx, htx⟩ : ∃ q, q = p.2.tx := ⟨_, rfl⟩
        have HPI := Lib.hid (show putI p.2 = tx ++ numB ix ++ numB am ++ numB sl ++ sc by unfold putI; rw [hix2, ham2, ← hsl, ← hsec, ← htx])
        have hsl64 : sl ≤ 64 := by rw [hsl]; exact HIP.out.1
        have HDT := Lib.hid (show Dig (tx.map B) tx from ⟨rfl, by rw [htx]; exact hio.1⟩)
        have HC := Lib.hid (show ∀ j u, (inV p.1 p.2)[j]? = some u → w_.cell? ⟨b, off + k * 35 + j, none⟩ = some u from fun j u hu => bcell HG.out (hc j u hu))
        have HPC := Lib.hid (show Cl 35 (inV p.1 p.2) from inV_cl (w := w6) (Bd := w6.heap.size) ⟨⟨As, cs, es, hsc, hss⟩, hio⟩)
        have HE32 := Lib.hid (show (inV p.1 p.2)[32]? = some (.int .i64 (ix : Int)) by rw [(in_at hio).1, hix])
        have HE33 := Lib.hid (show (inV p.1 p.2)[33]? = some (.int .u64 (am : Int)) by rw [(in_at hio).2.1, ham])
        have HE34 := Lib.hid (show (inV p.1 p.2)[34]? = some (.slice As sl cs) by rw [(in_at hio).2.2, es, hsl])
        have HET := Lib.hid (show ∀ j u, (tx.map B)[j]? = some u → (inV p.1 p.2)[0 + j]? = some u from fun j u hu => by rw [Nat.zero_add]; unfold inV; rw [← htx, List.getElem?_append_left (List.getElem?_eq_some_iff.1 hu).1]; exact hu)
        have HSS := Lib.hid (show Sl w6 w6.heap.size 1 As sl (sc.map B) by rw [hsl, hsec]; exact hss)
        obtain ⟨pv, hpv⟩ : ∃ q, q = inV p.1 p.2 := ⟨_, rfl⟩
        rw [← hpv] at HC HPC HE32 HE33 HE34 HET
        obtain ⟨tb, htb⟩ : ∃ q, q = tx.map B := ⟨_, rfl⟩
        have HTB := Lib.hid htb
        rw [← htb] at HDT HET
        obtain ⟨mi, hmi⟩ : ∃ q, q = (numB ix).length := ⟨_, rfl⟩
        have lmi : mi ≤ 9 := by rw [hmi]; exact numB_le (by omega)
        obtain ⟨ma, hma⟩ : ∃ q, q = (numB am).length := ⟨_, rfl⟩
        have lma : ma ≤ 9 := by rw [hma]; exact numB_le (by omega)
        obtain ⟨ms, hms⟩ : ∃ q, q = (numB sl).length := ⟨_, rfl⟩
        have lms : ms ≤ 9 := by rw [hms]; exact numB_le (by omega)
        have HRI := Lib.hid (fun w => rnum_any ix w (by omega)); have HRA := Lib.hid (fun w => rnum_any am w (by omega)); have HRS := Lib.hid (fun w => rnum_any sl w (by omega))
        rw [← hmi] at HRI; rw [← hma] at HRA; rw [← hms] at HRS
        clear hmi hma hms hp hc es hsc hss hio hix hix2 ham ham2 hsl hsec htx hpv htb
        have HB := Lib.hid (show Below w6.heap.size w6 w_ from HG.out)
        have c0 := (HX.out.grow HG.out).blk.at_ HT0.out
        clear HG
        go_wp2_with (first | (with_reducible refine wpl_loadm (o := ⟨some 23, _, _, _, _, _⟩) rfl rfl row_tin HC.out rfl HPC.out.len ?_) | (with_reducible refine wpl_alloc (o := ⟨some 5, _, _, _, _, _⟩) rfl rfl zero_tin ?_))
        intro w1_ hb1_ hbw1_ hsz1_
        have HB1_ := Lib.hid (at_mk hb1_ len_tin)
        have HBW1_ := Lib.hid hbw1_
        have HZ1_ := Lib.hid hsz1_
        clear hb1_ hbw1_ hsz1_
        go_wp2_with (first | (with_reducible refine wpl_storeb (o := ⟨none, .store _ _ _, _, _, _, _⟩) rfl rfl row_tin HB1_.out.blk rfl rfl HB1_.out.len HPC.out.len HPC.out.one ?_))
        intro w2_ hb2_ hg2_ hsz2_
        have hb_ := var_grow HBW1_.out HZ1_.out hg2_
        have HX_ := Lib.hid (at_mk hb2_ HPC.out.len)
        clear hb2_ hg2_ hsz2_ HB1_ HBW1_ HZ1_
        have HB_ := Lib.hid (HB.out.grow' hb_)
        clear HB
        have HB := HB_
        clear HB_
        have HW_ := Lib.hid (HW.out.grow hb_)
        clear HW
        have HW := HW_
        clear HW_
        generalize hg_ : w_.heap.size = g5 at HX_ ⊢
        clear hg_
        have HE := HX_
        clear hb_ HX_
        clear w1_
        try clear w_
        rename World => w_
        have HG := Lib.hid (show Grow w6 w_ from HB.out)
        clear HB HC c0
        have hmb : m ≤ 2090 := by omega
        have HMT := Lib.hid (show ∀ j u, tb[j]? = some u → w_.cell? ⟨g5, 0 + j, none⟩ = some u from fun j u hu => HE.out.blk.at_ (HET.out j u hu))
        go_wp2_with (first | (with_reducible refine wpl_loadm (o := ⟨some 27, _, _, _, _, _⟩) rfl rfl row_id HMT.out rfl HDT.out.len ?_))
        clear HMT
        go_wp2_with fail
        refine (tbytes_any HDT.out _).mono ?_
        rintro e w2_ ⟨A7, c7, rfl, hs_, hc_, hb_⟩
        have HSL := Lib.hid hs_
        clear hs_ hc_
        replace HG := Lib.hid (HG.out.grow' hb_)
        replace HW := Lib.hid (HW.out.grow hb_)
        replace HE := Lib.hid (HE.out.grow hb_)
        clear hb_
        try clear w_
        rename World => w_
        have HZB := Lib.hid (show Z ≤ w_.heap.size by rw [HZ.out]; exact HG.out.size)
        have HALL := Lib.hid (all_bytes (tx))
        go_wp2_with (at_builtin; refine wpl_apps rfl rfl el_u8 HW.out rfl HSL.out rfl HALL.out (by omega) (by omega) HZB.out ?_)
        intro A8 c8 w3_ ho_ hg_ hA_
        have hst := acc_put HG.out HZ.out HW.out ho_ hg_
        have HE_ := Lib.hid (at_mk (HE.out.blk.grown hg_ (fun e => own_neT HW.out HE.out.blk (by decide) _ e.symm rfl)) HE.out.len)
        obtain ⟨m2, hm2⟩ : ∃ q, q = m + 32 := ⟨_, rfl⟩
        obtain ⟨a2, ha2⟩ : ∃ q, q = acc ++ tx := ⟨_, rfl⟩
        have hb2 : m2 ≤ m + 32 := by omega
        rw [← hm2, ← ha2] at hst
        rw [← hm2]
        have HK2 := Lib.hid ha2
        clear ho_ hg_ hA_ HW HG HSL HZB HALL
        have HW := Lib.hid hst.1; have HG := Lib.hid hst.2
        clear hst hm2 ha2
        clear HE
        have HE := HE_
        clear HE_
        try clear w_
        rename World => w_
        have c1 := HE.out.blk.at_ HE32.out
        have q1 := conv_u64' (n := ix) (by omega)
        go_wp2_with fail
        refine (HRI.out _).mono ?_
        rintro e w2_ ⟨A7, c7, rfl, ho_, hc_, hb_⟩
        have HSL := Lib.hid (Sl.of_own ho_)
        clear ho_ hc_
        replace HG := Lib.hid (HG.out.grow' hb_)
        replace HW := Lib.hid (HW.out.grow hb_)
        replace HE := Lib.hid (HE.out.grow hb_)
        clear hb_
        try clear w_
        rename World => w_
        clear c1 q1
        have HZB := Lib.hid (show Z ≤ w_.heap.size by rw [HZ.out]; exact HG.out.size)
        have HALL := Lib.hid (all_bytes (numB ix))
        go_wp2_with (at_builtin; refine wpl_apps rfl rfl el_u8 HW.out rfl HSL.out rfl HALL.out (by omega) (by omega) HZB.out ?_)
        intro A8 c8 w3_ ho_ hg_ hA_
        have hst := acc_put HG.out HZ.out HW.out ho_ hg_
        have HE_ := Lib.hid (at_mk (HE.out.blk.grown hg_ (fun e => own_neT HW.out HE.out.blk (by decide) _ e.symm rfl)) HE.out.len)
        obtain ⟨m3, hm3⟩ : ∃ q, q = m2 + mi := ⟨_, rfl⟩
        obtain ⟨a3, ha3⟩ : ∃ q, q = a2 ++ numB ix := ⟨_, rfl⟩
        have hb3 : m3 ≤ m + 41 := by omega
        rw [← hm3, ← ha3] at hst
        rw [← hm3]
        have HK3 := Lib.hid ha3
        clear ho_ hg_ hA_ HW HG HSL HZB HALL
        have HW := Lib.hid hst.1; have HG := Lib.hid hst.2
        clear hst hm3 ha3
        clear HE
        have HE := HE_
        clear HE_
        try clear w_
        rename World => w_
        have c1 := HE.out.blk.at_ HE33.out
        go_wp2_with fail
        refine (HRA.out _).mono ?_
        rintro e w2_ ⟨A7, c7, rfl, ho_, hc_, hb_⟩
        have HSL := Lib.hid (Sl.of_own ho_)
        clear ho_ hc_
        replace HG := Lib.hid (HG.out.grow' hb_)
        replace HW := Lib.hid (HW.out.grow hb_)
        replace HE := Lib.hid (HE.out.grow hb_)
        clear hb_
        try clear w_
        rename World => w_
        clear c1
        have HZB := Lib.hid (show Z ≤ w_.heap.size by rw [HZ.out]; exact HG.out.size)
        have HALL := Lib.hid (all_bytes (numB am))
        go_wp2_with (at_builtin; refine wpl_apps rfl rfl el_u8 HW.out rfl HSL.out rfl HALL.out (by omega) (by omega) HZB.out ?_)
        intro A8 c8 w3_ ho_ hg_ hA_
        have hst := acc_put HG.out HZ.out HW.out ho_ hg_
        have HE_ := Lib.hid (at_mk (HE.out.blk.grown hg_ (fun e => own_neT HW.out HE.out.blk (by decide) _ e.symm rfl)) HE.out.len)
        obtain ⟨m4, hm4⟩ : ∃ q, q = m3 + ma := ⟨_, rfl⟩
        obtain ⟨a4, ha4⟩ : ∃ q, q = a3 ++ numB am := ⟨_, rfl⟩
        have hb4 : m4 ≤ m + 50 := by omega
        rw [← hm4, ← ha4] at hst
        rw [← hm4]
        have HK4 := Lib.hid ha4
        clear ho_ hg_ hA_ HW HG HSL HZB HALL
        have HW := Lib.hid hst.1; have HG := Lib.hid hst.2
        clear hst hm4 ha4
        clear HE
        have HE := HE_
        clear HE_
        try clear w_
        rename World => w_
        have c1 := HE.out.blk.at_ HE34.out
        have q1 := conv_u64' (n := sl) (by omega)
        go_wp2_with fail
        refine (HRS.out _).mono ?_
        rintro e w2_ ⟨A7, c7, rfl, ho_, hc_, hb_⟩
        have HSL := Lib.hid (Sl.of_own ho_)
        clear ho_ hc_
        replace HG := Lib.hid (HG.out.grow' hb_)
        replace HW := Lib.hid (HW.out.grow hb_)
        replace HE := Lib.hid (HE.out.grow hb_)
        clear hb_
        try clear w_
        rename World => w_
        clear c1 q1
        have HZB := Lib.hid (show Z ≤ w_.heap.size by rw [HZ.out]; exact HG.out.size)
        have HALL := Lib.hid (all_bytes (numB sl))
        go_wp2_with (at_builtin; refine wpl_apps rfl rfl el_u8 HW.out rfl HSL.out rfl HALL.out (by omega) (by omega) HZB.out ?_)
        intro A8 c8 w3_ ho_ hg_ hA_
        have hst := acc_put HG.out HZ.out HW.out ho_ hg_
        have HE_ := Lib.hid (at_mk (HE.out.blk.grown hg_ (fun e => own_neT HW.out HE.out.blk (by decide) _ e.symm rfl)) HE.out.len)
        obtain ⟨m5, hm5⟩ : ∃ q, q = m4 + ms := ⟨_, rfl⟩
        obtain ⟨a5, ha5⟩ : ∃ q, q = a4 ++ numB sl := ⟨_, rfl⟩
        have hb5 : m5 ≤ m + 59 := by omega
        rw [← hm5, ← ha5] at hst
        rw [← hm5]
        have HK5 := Lib.hid ha5
        clear ho_ hg_ hA_ HW HG HSL HZB HALL
        have HW := Lib.hid hst.1; have HG := Lib.hid hst.2
        clear hst hm5 ha5
        clear HE
        have HE := HE_
        clear HE_
        try clear w_
        rename World => w_
        have c1 := HE.out.blk.at_ HE34.out
        have HSL := Lib.hid (HSS.out.grow HG.out)
        have HZB := Lib.hid (show Z ≤ w_.heap.size by rw [HZ.out]; exact HG.out.size)
        have HALL := Lib.hid (all_bytes sc)
        have v1 : IntKind.i64.wrap ((k : Int) + 1) = (k : Int) + 1 := IntWalk.i64_in _ (by omega)
        go_wp2_with (at_builtin; refine wpl_apps rfl rfl el_u8 HW.out rfl HSL.out rfl HALL.out (by clear v1; omega) (by clear v1; omega) HZB.out ?_)
        intro A8 c8 w3_ ho_ hg_ hA_
        have hst := acc_put HG.out HZ.out HW.out ho_ hg_
        have HAN := Lib.hid (show a5 ++ sc = numB n ++ (ins.take (k + 1)).flatMap putI by rw [HSN.out, HPI.out, HK5.out, HK4.out, HK3.out, HK2.out, HAC.out]; simp only [List.append_assoc])
        have HREL := Lib.hid (show OwnAt w3_ Z A8 (m5 + sl) c8 ((a5 ++ sc).map B) ∧ a5 ++ sc = numB n ++ (ins.take (k + 1)).flatMap putI ∧ Grow w6 w3_ from ⟨hst.1, HAN.out, hst.2⟩)
        clear ho_ hg_ hA_ hst HW HG HSL HZB HALL HE c1
        have HBD := Lib.hid (show m5 + sl ≤ 9 + (k + 1) * 130 by clear v1; omega)
        go_wp2_with fail
        go_roundw
        all_goals clear v1
        case rel => exact ⟨k + 1, A8, m5 + sl, c8, a5 ++ sc, by omega, by go_num, by first | rfl | simp, HBD.out, HREL⟩
        case measure => simp [intOf]; omega
      · obtain rfl : k = n := by omega
        have HWN := Lib.hid (show OwnAt w_ Z A3 m c3 ((numB k ++ ins.flatMap putI).map B) by have h := HW.out; rw [HAC.out, List.take_of_length_le (by rw [HIL2.out]; exact Nat.le_refl _)] at h; exact h)
        have c0 := (HX.out.grow HG.out).blk.at_ HT0.out
        go_wp2_with fail
        go_meet
        case rel => exact ⟨A3, m, c3, rfl, by omega, Lib.hid ⟨HWN.out, HG.out⟩⟩
  case rest =>
    obtain ⟨A3, m, c3, rfl, hm, hI⟩ := hcut
    clear HW HG HK1
    have HW := Lib.hid hI.out.1; have HG := Lib.hid hI.out.2
    clear hI
    try clear w_
    rename World => w_
    obtain ⟨acc, hacc⟩ : ∃ q, q = numB n ++ ins.flatMap putI := ⟨_, rfl⟩
    have HAC := Lib.hid hacc
    rw [← hacc] at HW
    clear hacc
    have hm0 : m ≤ 2089 := by omega
    have c1 := (HX.out.grow HG.out).blk.at_ HT1.out
    have q1 := conv_u64' (n := n2) (by omega)
    go_wp2_with fail
    refine (HRO.out _).mono ?_
    rintro e w2_ ⟨A7, c7, rfl, ho_, hc_, hb_⟩
    have HSL := Lib.hid (Sl.of_own ho_)
    clear ho_ hc_
    replace HG := Lib.hid (HG.out.grow' hb_)
    replace HW := Lib.hid (HW.out.grow hb_)
    clear hb_
    try clear w_
    rename World => w_
    clear c1 q1
    have HZB := Lib.hid (show Z ≤ w_.heap.size by rw [HZ.out]; exact HG.out.size)
    have HALL := Lib.hid (all_bytes (numB n2))
    go_wp2_with (at_builtin; refine wpl_apps rfl rfl el_u8 HW.out rfl HSL.out rfl HALL.out (by omega) (by omega) HZB.out ?_)
    intro A8 c8 w3_ ho_ hg_ hA_
    have hst := acc_put HG.out HZ.out HW.out ho_ hg_
    obtain ⟨m6, hm6⟩ : ∃ q, q = m + mo := ⟨_, rfl⟩
    obtain ⟨a6, ha6⟩ : ∃ q, q = acc ++ numB n2 := ⟨_, rfl⟩
    have hb6 : m6 ≤ 2098 := by omega
    rw [← hm6, ← ha6] at hst
    rw [← hm6]
    have HK6 := Lib.hid ha6
    clear ho_ hg_ hA_ HW HG HSL HZB HALL
    have HW := Lib.hid hst.1; have HG := Lib.hid hst.2
    clear hst hm6 ha6
    try clear w_
    rename World => w_
    have c1 := (HX.out.grow HG.out).blk.at_ HT1.out
    have HZ2 := Lib.hid (show a6 = a6 ++ (os.take 0).flatMap putO by simp)
    go_wp2_with fail
    go_loopw [3, 6] (fun s3 iv wr => ∃ k : Nat, ∃ A3 mm c3 ac, k ≤ n2 ∧ iv = .int .i64 k ∧ s3 = .slice A3 mm c3 ∧ mm ≤ 2098 + k * 41 ∧ Hid (OwnAt wr Z A3 mm c3 (ac.map B) ∧ ac = a6 ++ (os.take k).flatMap putO ∧ Grow w6 wr)) (fun _ iv _ => n2 - (intOf iv).toNat)
    case atStart => exact ⟨0, _, _, _, a6, by omega, rfl, rfl, by omega, Lib.hid ⟨HW.out, HZ2.out, HG.out⟩⟩
    case round =>
      obtain ⟨k, A3, mm, c3, ac, hk, rfl, rfl, hmm, hI⟩ := hrel
      clear HW HG HZ2 c1
      have HW := Lib.hid hI.out.1; have HAQ := Lib.hid hI.out.2.1; have HG := Lib.hid hI.out.2.2
      clear hI
      rename World => w_
      have c1 := (HX.out.grow HG.out).blk.at_ HT1.out
      by_cases hlt : k < n2
      · obtain ⟨b, off, p, rfl, hp, hok, hc⟩ := HO6.out.at_ hlt
        have HSN := Lib.hid (flat_snoc putO hp)
        obtain ⟨am, ham, haml, ham2⟩ := nat_ofU hok.2
        obtain ⟨ow, how⟩ : ∃ q, q = p.owner := ⟨_, rfl⟩
        have HPI := Lib.hid (show putO p = ow ++ numB am by unfold putO; rw [ham2, ← how])
        have HDT := Lib.hid (show Dig (ow.map B) ow from ⟨rfl, by rw [how]; exact hok.1⟩)
        have hw33 := hc 32 _ (out_at hok)
        rw [ham] at hw33
        have HW33 := Lib.hid hw33
        have HMT := Lib.hid (show ∀ j u, (ow.map B)[j]? = some u → w_.cell? ⟨b, off + k * 33 + j, none⟩ = some u from fun j u hu => bcell HG.out (hc j u (by unfold outV; rw [← how, List.getElem?_append_left (List.getElem?_eq_some_iff.1 hu).1]; exact hu)))
        obtain ⟨tb, htb⟩ : ∃ q, q = ow.map B := ⟨_, rfl⟩
        rw [← htb] at HDT HMT
        obtain ⟨ma, hma⟩ : ∃ q, q = (numB am).length := ⟨_, rfl⟩
        have lma : ma ≤ 9 := by rw [hma]; exact numB_le (by omega)
        have HRA := Lib.hid (fun w => rnum_any am w (by omega))
        rw [← hma] at HRA
        have hmb : mm ≤ 2754 := by omega
        clear hma hp hc hok hw33 ham ham2 how htb
        go_wp2_with (first | (with_reducible refine wpl_loadm (o := ⟨some 73, _, _, _, _, _⟩) rfl rfl row_id HMT.out rfl HDT.out.len ?_))
        clear HMT
        go_wp2_with fail
        refine (tbytes_any HDT.out _).mono ?_
        rintro e w2_ ⟨A7, c7, rfl, hs_, hc_, hb_⟩
        have HSL := Lib.hid hs_
        clear hs_ hc_
        replace HG := Lib.hid (HG.out.grow' hb_)
        replace HW := Lib.hid (HW.out.grow hb_)
        clear hb_
        try clear w_
        rename World => w_
        clear c1
        have HZB := Lib.hid (show Z ≤ w_.heap.size by rw [HZ.out]; exact HG.out.size)
        have HALL := Lib.hid (all_bytes (ow))
        go_wp2_with (at_builtin; refine wpl_apps rfl rfl el_u8 HW.out rfl HSL.out rfl HALL.out (by omega) (by omega) HZB.out ?_)
        intro A8 c8 w3_ ho_ hg_ hA_
        have hst := acc_put HG.out HZ.out HW.out ho_ hg_
        obtain ⟨m7, hm7⟩ : ∃ q, q = mm + 32 := ⟨_, rfl⟩
        obtain ⟨a7, ha7⟩ : ∃ q, q = ac ++ ow := ⟨_, rfl⟩
        have hb7 : m7 ≤ mm + 32 := by omega
        rw [← hm7, ← ha7] at hst
        rw [← hm7]
        have HK7 := Lib.hid ha7
        clear ho_ hg_ hA_ HW HG HSL HZB HALL
        have HW := Lib.hid hst.1; have HG := Lib.hid hst.2
        clear hst hm7 ha7
        try clear w_
        rename World => w_
        have c1 := (HX.out.grow HG.out).blk.at_ HT1.out
        have c33 := bcell HG.out HW33.out
        go_wp2_with fail
        refine (HRA.out _).mono ?_
        rintro e w2_ ⟨A7, c7, rfl, ho_, hc_, hb_⟩
        have HSL := Lib.hid (Sl.of_own ho_)
        clear ho_ hc_
        replace HG := Lib.hid (HG.out.grow' hb_)
        replace HW := Lib.hid (HW.out.grow hb_)
        clear hb_
        try clear w_
        rename World => w_
        clear c1 c33
        have HZB := Lib.hid (show Z ≤ w_.heap.size by rw [HZ.out]; exact HG.out.size)
        have HALL := Lib.hid (all_bytes (numB am))
        have c1 := (HX.out.grow HG.out).blk.at_ HT1.out
        go_wp2_with (at_builtin; refine wpl_apps rfl rfl el_u8 HW.out rfl HSL.out rfl HALL.out (by omega) (by omega) HZB.out ?_)
        intro A8 c8 w3_ ho_ hg_ hA_
        have hst := acc_put HG.out HZ.out HW.out ho_ hg_
        have HAN := Lib.hid (show a7 ++ numB am = a6 ++ (os.take (k + 1)).flatMap putO by rw [HSN.out, HPI.out, HK7.out, HAQ.out]; simp only [List.append_assoc])
        have HREL := Lib.hid (show OwnAt w3_ Z A8 (m7 + ma) c8 ((a7 ++ numB am).map B) ∧ a7 ++ numB am = a6 ++ (os.take (k + 1)).flatMap putO ∧ Grow w6 w3_ from ⟨hst.1, HAN.out, hst.2⟩)
        have HBD := Lib.hid (show m7 + ma ≤ 2098 + (k + 1) * 41 by omega)
        have HG3 := Lib.hid hst.2
        clear ho_ hg_ hA_ hst HW HG HSL HZB HALL c1
        have c1 := (HX.out.grow HG3.out).blk.at_ HT1.out
        have v1 : IntKind.i64.wrap ((k : Int) + 1) = (k : Int) + 1 := IntWalk.i64_in _ (by omega)
        go_wp2_with fail
        go_roundw
        all_goals clear v1
        case rel => exact ⟨k + 1, A8, m7 + ma, c8, a7 ++ numB am, by omega, by go_num, by first | rfl | simp, HBD.out, HREL⟩
        case measure => simp [intOf]; omega
      · obtain rfl : k = n2 := by omega
        have HAE := Lib.hid (show ac = a6 ++ os.flatMap putO by have h := HAQ.out; rw [List.take_of_length_le (by rw [HOL2.out]; exact Nat.le_refl _)] at h; exact h)
        have hmb : mm ≤ 2754 := by omega
        have c2 := (HX.out.grow HG.out).blk.at_ HT2.out
        go_wp2_with fail
        refine (HRF.out _).mono ?_
        rintro e w2_ ⟨A7, c7, rfl, ho_, hc_, hb_⟩
        have HSL := Lib.hid (Sl.of_own ho_)
        clear ho_ hc_
        replace HG := Lib.hid (HG.out.grow' hb_)
        replace HW := Lib.hid (HW.out.grow hb_)
        clear hb_
        try clear w_
        rename World => w_
        clear c1 c2
        have HZB := Lib.hid (show Z ≤ w_.heap.size by rw [HZ.out]; exact HG.out.size)
        have HALL := Lib.hid (all_bytes (numB fe))
        go_wp2_with (at_builtin; refine wpl_apps rfl rfl el_u8 HW.out rfl HSL.out rfl HALL.out (by omega) (by omega) HZB.out ?_)
        intro A8 c8 w3_ ho_ hg_ hA_
        have hst := acc_put HG.out HZ.out HW.out ho_ hg_
        obtain ⟨m8, hm8⟩ : ∃ q, q = mm + mf := ⟨_, rfl⟩
        obtain ⟨a8, ha8⟩ : ∃ q, q = ac ++ numB fe := ⟨_, rfl⟩
        have hb8 : m8 ≤ 2763 := by omega
        rw [← hm8, ← ha8] at hst
        rw [← hm8]
        have HK8 := Lib.hid ha8
        clear ho_ hg_ hA_ HW HG HSL HZB HALL
        have HW := Lib.hid hst.1; have HG := Lib.hid hst.2
        clear hst hm8 ha8
        try clear w_
        rename World => w_
        have c3 := (HX.out.grow HG.out).blk.at_ HT3.out
        have q1 := conv_u64' (n := xe) (by omega)
        go_wp2_with fail
        refine (HRX.out _).mono ?_
        rintro e w2_ ⟨A7, c7, rfl, ho_, hc_, hb_⟩
        have HSL := Lib.hid (Sl.of_own ho_)
        clear ho_ hc_
        replace HG := Lib.hid (HG.out.grow' hb_)
        replace HW := Lib.hid (HW.out.grow hb_)
        clear hb_
        try clear w_
        rename World => w_
        clear c3 q1
        have HZB := Lib.hid (show Z ≤ w_.heap.size by rw [HZ.out]; exact HG.out.size)
        have HALL := Lib.hid (all_bytes (numB xe))
        go_wp2_with (at_builtin; refine wpl_apps rfl rfl el_u8 HW.out rfl HSL.out rfl HALL.out (by omega) (by omega) HZB.out ?_)
        intro A8 c8 w3_ ho_ hg_ hA_
        have hst := acc_put HG.out HZ.out HW.out ho_ hg_
        obtain ⟨m9, hm9⟩ : ∃ q, q = m8 + mx := ⟨_, rfl⟩
        obtain ⟨a9, ha9⟩ : ∃ q, q = a8 ++ numB xe := ⟨_, rfl⟩
        have hb9 : m9 ≤ 2772 := by omega
        rw [← hm9, ← ha9] at hst
        rw [← hm9]
        have HK9 := Lib.hid ha9
        clear ho_ hg_ hA_ HW HG HSL HZB HALL
        have HW := Lib.hid hst.1; have HG := Lib.hid hst.2
        clear hst hm9 ha9
        try clear w_
        rename World => w_
        have HLEN := Lib.hid (show a9.length = m9 by have := HW.out.1; simp at this; omega)
        have HEQ := Lib.hid (show out = a9 by rw [HPT.out, HK9.out, HK8.out, HAE.out, HK6.out, HAC.out])
        have HSF := Lib.hid (Sl.of_own HW.out)
        have HCF := Lib.hid (own_cap1 HW.out)
        go_wp2_with fail
        go_ret
        refine ⟨A8, _, by rw [HEQ.out, HLEN.out]; rfl, by rw [HEQ.out, HLEN.out]; exact HSF.out, by rw [HEQ.out, HLEN.out]; exact HCF.out, ?_⟩
        exact below_chain HB6.out HG.out
end Go.Proofs.Ytobmldegjajocaa
/- Contracts of tx.Id, the document's Id, and its Great. -/
namespace Go.Proofs.Ytobmldegjajocaa
open Go.RowKit Go.Shelf
set_option linter.unusedVariables false
theorem longI_of {t : Txn} (h : checkT t = 0) : longT t = false := by
  unfold checkT at h
  cases hl : longT t with
  | true => rw [hl, if_pos rfl] at h; cases h
  | false => rfl
/-- What a right transaction is. -/
theorem right_of {t : Txn} (h : checkT t = 0) : t.ins.length ≤ 16 ∧ t.outs.length ≤ 16 ∧ (0 ≤ t.expiry ∧ t.expiry ≤ 1099511627776) ∧ ∀ i ∈ t.ins, i.secret.length ≤ 64 ∧ 0 ≤ i.index ∧ i.index ≤ 15 := by
  have h1 := longI_of h
  unfold longT shortT at h1
  simp only [Bool.or_eq_false_iff, Bool.not_eq_false', Bool.and_eq_true, inB_iff] at h1
  obtain ⟨⟨⟨h2, h3⟩, h4⟩, h5⟩ := h1
  refine ⟨by omega, by omega, h4, fun i hi => ?_⟩
  have h6 := List.any_eq_false.1 h5 i hi
  unfold longI at h6
  simp only [Bool.or_eq_true, decide_eq_true_eq, Bool.not_eq_true', not_or, Bool.not_eq_false, inB_iff] at h6
  omega
theorem putI_le {i : Inp} (h1 : i.tx.length = 32) (h2 : i.secret.length ≤ 64) (h3 : 0 ≤ i.index ∧ i.index ≤ 15) (h4 : U64 i.amount) : (putI i).length ≤ 123 := by
  have e1 := numB_le (n := i.index.toNat) (by omega)
  have e2 := numB_le (n := i.amount.toNat) (by have := h4.2; omega)
  have e3 := numB_le (n := i.secret.length) (by omega)
  unfold putI
  simp only [List.length_append]
  omega
theorem putO_le {o : Outp} (h : o.ok) : (putO o).length ≤ 41 := by
  have e2 := numB_le (n := o.amount.toNat) (by have := h.2.2; omega)
  unfold putO
  simp only [List.length_append, h.1]
  omega
theorem flat_le {α : Type} {f : α → List UInt8} {m : Nat} : ∀ {l : List α}, (∀ x ∈ l, (f x).length ≤ m) → (l.flatMap f).length ≤ l.length * m
  | [], _ => by simp
  | x :: l, h => by
    have := flat_le (f := f) (m := m) (l := l) (fun y hy => h y (List.mem_cons_of_mem _ hy))
    have h2 := h x (List.mem_cons_self ..)
    rw [List.flatMap_cons, List.length_append, List.length_cons, Nat.add_mul]
    omega
theorem putTB_le {t : Txn} (hk : t.ok) (h : checkT t = 0) : (putTB t).length ≤ 3000 := by
  obtain ⟨h1, h2, h3, h4⟩ := right_of h
  have e1 := flat_le (f := putI) (m := 123) (l := t.ins) (fun i hi => putI_le (hk.1 i hi).1 (h4 i hi).1 (h4 i hi).2 (hk.1 i hi).2.2)
  have e2 := flat_le (f := putO) (m := 41) (l := t.outs) (fun o ho => putO_le (hk.2.1 o ho))
  have e3 := numB_le (n := t.ins.length) (by omega)
  have e4 := numB_le (n := t.outs.length) (by omega)
  have e5 := numB_le (n := t.fee.toNat) (by have := hk.2.2.1.2; omega)
  have e6 := numB_le (n := t.expiry.toNat) (by omega)
  unfold putTB
  simp only [List.length_append]
  omega
/-- Is there more than is looked at? -/
def greatT (t : Txn) : Bool := decide (20 < t.ins.length) || decide (20 < t.outs.length) || t.ins.any (fun i => decide (100 < i.secret.length))
set_option maxRecDepth 100000 in
set_option maxHeartbeats 4000000 in
theorem rtgreat_any {A : Option Addr} {n c : Nat} {A2 : Option Addr} {n2 c2 : Nat} {fee ex : Int} {l : List (Value × Inp)} {os : List Outp} (w : World) (hi : InsAt w A n c l) (ho : os.length = n2) (hn : n ≤ 9223372036854775807) (hn2 : n2 ≤ 9223372036854775807) :
    Calls Try.prog 20 #[.agg (txV A n c A2 n2 c2 fee ex).toArray] w fun e w' => e = .returned (.int .i64 (if greatT ⟨l.map Prod.snd, os, fee, ex⟩ then 1 else 0)) ∧ Grow w w' := by
  have HI := Lib.hid hi
  have HTC := Lib.hid (txV_cl (A := A) (n := n) (c := c) (A2 := A2) (n2 := n2) (c2 := c2) (fee := fee) (ex := ex))
  have HT0 := Lib.hid (show (txV A n c A2 n2 c2 fee ex)[0]? = some (.slice A n c) from rfl)
  have HT1 := Lib.hid (show (txV A n c A2 n2 c2 fee ex)[1]? = some (.slice A2 n2 c2) from rfl)
  obtain ⟨gr, hgr⟩ : ∃ q, q = greatT ⟨l.map Prod.snd, os, fee, ex⟩ := ⟨_, rfl⟩
  obtain ⟨ins, hins⟩ : ∃ q, q = l.map Prod.snd := ⟨_, rfl⟩
  have HINS := Lib.hid hins
  have HIL := Lib.hid (show ins.length = n by rw [hins, List.length_map]; exact hi.2.2.1)
  have HGR := Lib.hid (show gr = (decide (20 < n) || decide (20 < n2) || ins.any (fun i => decide (100 < i.secret.length))) by rw [hgr, hins]; unfold greatT; simp only [List.length_map]; rw [hi.2.2.1, ho])
  rw [← hgr]
  obtain ⟨gz, hgz⟩ : ∃ z : Int, z = if gr then 1 else 0 := ⟨_, rfl⟩
  have HGZ := Lib.hid hgz
  rw [← hgz]
  obtain ⟨tv, htv⟩ : ∃ q, q = txV A n c A2 n2 c2 fee ex := ⟨_, rfl⟩
  rw [← htv] at HTC HT0 HT1 ⊢
  obtain ⟨w_, hw⟩ : ∃ x, x = w := ⟨_, rfl⟩
  have HB := Lib.hid (show Below w.heap.size w w_ by rw [hw]; exact Below.refl _ _)
  suffices H : Calls Try.prog 20 #[.agg tv.toArray] w_ fun e w' => e = .returned (.int .i64 gz) ∧ Grow w w' by rw [hw] at H; exact H
  clear hw hi ho htv hgr hins hgz
  go_enter Try.func20, Try.ntmps20
  go_wp2_with (first | (with_reducible refine wpl_box (o := ⟨some 1, _, _, _, _, _⟩) rfl rfl rfl ?_))
  intro w2_ hb2_ hb_ hsz2_
  have HX_ := Lib.hid (at_mk hb2_ HTC.out.len)
  clear hb2_ hsz2_
  have HG_ := Lib.hid HB.out.size
  have HB_ := Lib.hid (HB.out.grow' hb_)
  clear HB
  have HB := HB_
  clear HB_
  generalize hg_ : w_.heap.size = g1 at HX_ HG_ ⊢
  clear hg_
  have HX_g := HG_
  clear HG_
  have HX := HX_
  clear hb_ HX_
  try clear w_
  rename World => w_
  have c0 := HX.out.blk.at_ HT0.out
  have c1 := HX.out.blk.at_ HT1.out
  by_cases h1 : n ≤ 20
  · by_cases h2 : n2 ≤ 20
    · have b1 : ¬ (20 < (n : Int)) := by omega
      have b2 : ¬ (20 < (n2 : Int)) := by omega
      have HGE := Lib.hid (show gr = ins.any (fun i => decide (100 < i.secret.length)) by rw [HGR.out, decide_eq_false (by omega), decide_eq_false (by omega)]; rfl)
      go_wp2_with fail
      go_loopw [3] (fun iv wr => ∃ k : Nat, k ≤ n ∧ iv = .int .i64 k ∧ Hid ((ins.take k).any (fun i => decide (100 < i.secret.length)) = false) ∧ wr = w_) (fun iv _ => n - (intOf iv).toNat)
      case atStart => exact ⟨0, by omega, rfl, Lib.hid (by simp), rfl⟩
      case round =>
        obtain ⟨k, hk, rfl, hany, rfl⟩ := hrel
        by_cases hlt : k < n
        · obtain ⟨b, off, p, rfl, hp, hok, hc⟩ := HI.out.at_ hlt
          obtain ⟨⟨As, cs, es, _, _⟩, hio⟩ := hok
          have c34 := bcell HB.out (hc 34 _ (in_at (v := p.1) hio).2.2)
          rw [es] at c34
          have HSN := Lib.hid (any_take (fun i : Inp => decide (100 < i.secret.length)) (l := ins) (k := k) (p := p.2) (by rw [HINS.out, List.getElem?_map, hp]; rfl))
          have HME := Lib.hid (show p.2 ∈ ins by rw [HINS.out]; exact List.mem_map_of_mem (List.mem_of_getElem? hp))
          obtain ⟨sl, hsl⟩ : ∃ q, q = p.2.secret.length := ⟨_, rfl⟩
          have HSL := Lib.hid hsl
          rw [← hsl] at c34
          have v1 : IntKind.i64.wrap ((k : Int) + 1) = (k : Int) + 1 := IntWalk.i64_in _ (by omega)
          clear hp hc hio es hsl
          by_cases h100 : sl ≤ 100
          · have b3 : ¬ (100 < (sl : Int)) := by omega
            have HNX := Lib.hid (show (ins.take (k + 1)).any (fun i => decide (100 < i.secret.length)) = false by rw [HSN.out, hany.out, ← HSL.out, decide_eq_false (by omega)]; rfl)
            go_wp2_with fail
            go_roundw
            all_goals clear v1
            case rel => exact ⟨k + 1, by omega, by go_num, HNX, by first | trivial | rfl⟩
            case measure => simp [intOf]; omega
          · have b3 : (100 < (sl : Int)) := by omega
            have HG1 := Lib.hid (show gr = true by rw [HGE.out]; exact List.any_eq_true.2 ⟨_, HME.out, by rw [← HSL.out]; simp; omega⟩)
            clear v1
            go_wp2_with fail
            go_ret
            exact ⟨by rw [HGZ.out, HG1.out]; rfl, HB.out⟩
        · obtain rfl : k = n := by omega
          have HG1 := Lib.hid (show gr = false by rw [HGE.out]; have h := hany.out; rw [List.take_of_length_le (by rw [HIL.out]; exact Nat.le_refl _)] at h; exact h)
          go_wp2_with fail
          go_ret
          exact ⟨by rw [HGZ.out, HG1.out]; rfl, HB.out⟩
    · have b1 : ¬ (20 < (n : Int)) := by omega
      have b2 : (20 < (n2 : Int)) := by omega
      have HG1 := Lib.hid (show gr = true by rw [HGR.out, decide_eq_true (show 20 < n2 by omega)]; simp)
      go_wp2_with fail
      go_ret
      exact ⟨by rw [HGZ.out, HG1.out]; rfl, HB.out⟩
  · have b1 : (20 < (n : Int)) := by omega
    have HG1 := Lib.hid (show gr = true by rw [HGR.out, decide_eq_true (show 20 < n by omega)]; simp)
    go_wp2_with fail
    go_ret
    exact ⟨by rw [HGZ.out, HG1.out]; rfl, HB.out⟩
end Go.Proofs.Ytobmldegjajocaa
/- Commands read of bytes (plain): what is looked at, what is read; reading is the inverse of writing. No program in sight. -/
namespace Go.Proofs.Ytobmldegjajocaa
open Go.RowKit
set_option linter.unusedVariables false
/-- What a command's eye has seen: the command without transaction and certificates, the texts of these. -/
structure LkC where
  m : Cmd
  t : List UInt8
  cs : List (List UInt8)
def kindC (k : Int) : Cmd := { noCmd with kind := k }
def lookCm (l : List UInt8) : Rd LkC := match numR 9 l with
  | .error x => .error x
  | .ok (k, l1) =>
    if k = 0 then .error 25
    else if k = 1 then match numR 1099511627776 l1 with
      | .error x => .error x
      | .ok (s, l2) => match takeR 32 l2 with
        | .error x => .error x
        | .ok (d, l3) => match numR 4611686018427387904 l3 with
          | .error x => .error x
          | .ok (a, l4) => .ok (⟨{ kindC 1 with serial := (s : Int), dest := ⟨d, (a : Int)⟩ }, [], []⟩, l4)
    else if k = 2 ∨ k = 3 then match textR 4096 l1 with
      | .error x => .error x
      | .ok (t, l2) => .ok (⟨kindC k, t, []⟩, l2)
    else if k = 4 ∨ k = 5 ∨ k = 6 then match textR 4096 l1 with
      | .error x => .error x
      | .ok (t, l2) => match numR 16 l2 with
        | .error x => .error x
        | .ok (n, l3) => match lookN (textR 2048) n l3 with
          | .error x => .error x
          | .ok (cs, l4) => .ok (⟨kindC k, t, cs⟩, l4)
    else if k = 7 then match numR 1099511627776 l1 with
      | .error x => .error x
      | .ok (e, l2) => .ok (⟨{ kindC 7 with epoch := (e : Int) }, [], []⟩, l2)
    else if k = 9 then match takeR 32 l1 with
      | .error x => .error x
      | .ok (d, l2) => .ok (⟨{ kindC 9 with id := d }, [], []⟩, l2)
    else .ok (⟨kindC k, [], []⟩, l1)
/-- The certificates of these texts. -/
def readCs : List (List UInt8) → Except Nat (List Cer)
  | [] => .ok []
  | t :: ts => match readC t with
    | .error x => .error x
    | .ok c => match readCs ts with
      | .error x => .error x
      | .ok cs => .ok (c :: cs)
def fillC (p : LkC) : Except Nat Cmd := match (if hasTxK p.m.kind then readT p.t else .ok noTxn) with
  | .error x => .error x
  | .ok tx => match readCs p.cs with
    | .error x => .error x
    | .ok cs => .ok { p.m with tx := tx, certs := cs }
def readCm (l : List UInt8) : Except Nat Cmd :=
  if 8192 < l.length then .error 4 else match lookCm l with
  | .error x => .error x
  | .ok (p, t) => if t ≠ [] then .error 3 else fillC p
def cmdOf : Except Nat Cmd → Cmd
  | .error _ => noCmd
  | .ok m => m
end Go.Proofs.Ytobmldegjajocaa

/- The contract of command.check. Printed by mkcmdf.py. -/
import Derived.Test.YtobmldegjajocaaCommandRateT20
import Derived.Test.YtobmldegjajocaaCommandRateT7
import Derived.Test.YtobmldegjajocaaCommandRateT6
import Derived.Test.YtobmldegjajocaaCommandRateT15
import Derived.Test.YtobmldegjajocaaCommandRateT16
set_option linter.unusedSimpArgs false
/- The contract of command.check. Printed by mkcmdf.py. -/
namespace Go.Proofs.Ytobmldegjajocaa
open Go.RowKit Go.Shelf
set_option linter.unusedVariables false
set_option maxRecDepth 100000 in
theorem iscert_any {A : Option Addr} {n c : Nat} {x : Cer} (w : World) (hok : x.ok) (hn : x.path.length = n) :
    Calls Try.prog 58 #[.agg (certV (.slice A n c) x).toArray] w fun e w' => e = .returned (.bool (!badCert x)) ∧ Grow w w' := by
  have HPC := Lib.hid (cerV_cl (v := .slice A n c) rfl hok)
  have HRE := Lib.hid (fun w => eright_any x.e w hok.1); have HRH := Lib.hid (fun w => hright_any x.h w hok.2.2.1)
  have LE := Lib.hid (entV_length hok.1); have LH := Lib.hid (hdrV_length hok.2.2.1)
  have HBD := Lib.hid (show (!badCert x) = (rightE x.e && rightH x.h && decide (n ≤ 32)) by unfold badCert; rw [hn, Bool.eq_iff_iff]; simp)
  have PE := Lib.hid (show ∀ j u, (entV x.e)[j]? = some u → (certV (.slice A n c) x)[0 + j]? = some u from fun j u hu => by
    rw [Nat.zero_add]; unfold certV; rw [List.getElem?_append_left (List.getElem?_eq_some_iff.1 hu).1]; exact hu)
  have PS := Lib.hid (show (certV (.slice A n c) x)[37]? = some (.slice A n c) by
    unfold certV; rw [List.getElem?_append_right (by rw [LE.out]; exact Nat.le_refl _), LE.out]; rfl)
  have PH := Lib.hid (show ∀ j u, (hdrV x.h)[j]? = some u → (certV (.slice A n c) x)[38 + j]? = some u from fun j u hu => by
    unfold certV; rw [List.getElem?_append_right (by rw [LE.out]; omega), LE.out, show 38 + j - 37 = j + 1 by omega, List.getElem?_cons_succ, List.getElem?_append_left (List.getElem?_eq_some_iff.1 hu).1]; exact hu)
  obtain ⟨pv, hpv⟩ : ∃ z, z = certV (.slice A n c) x := ⟨_, rfl⟩
  obtain ⟨ev, hev⟩ : ∃ z, z = entV x.e := ⟨_, rfl⟩
  obtain ⟨hv, hhv⟩ : ∃ z, z = hdrV x.h := ⟨_, rfl⟩
  obtain ⟨b1, hb1⟩ : ∃ z, z = rightE x.e := ⟨_, rfl⟩
  obtain ⟨b2, hb2⟩ : ∃ z, z = rightH x.h := ⟨_, rfl⟩
  obtain ⟨r, hr⟩ : ∃ z, z = (!badCert x) := ⟨_, rfl⟩
  rw [← hpv] at HPC PE PS PH ⊢
  rw [← hev] at PE LE HRE; rw [← hhv] at PH LH HRH
  rw [← hb1] at HRE HBD; rw [← hb2] at HRH HBD; rw [← hr] at HBD ⊢
  clear hok hn hpv hev hhv hb1 hb2 hr
  obtain ⟨w_, hw⟩ : ∃ x, x = w := ⟨_, rfl⟩
  have HB := Lib.hid (show Below w.heap.size w w_ by rw [hw]; exact Below.refl _ _)
  suffices H : Calls Try.prog 58 #[.agg pv.toArray] w_ fun e w' => e = .returned (.bool r) ∧ Grow w w' by rw [hw] at H; exact H
  clear hw
  go_enter Try.func58, Try.ntmps58
  go_wp2_with (first | (with_reducible refine wpl_box (o := ⟨some 1, _, _, _, _, _⟩) rfl rfl rfl ?_))
  intro w2_ hb2_ hb_ hsz2_
  have HX_ := Lib.hid (at_mk hb2_ HPC.out.len)
  clear hb2_ hsz2_
  have HG_ := Lib.hid HB.out.size
  have HB_ := Lib.hid (HB.out.grow' hb_)
  clear HB
  have HB := HB_
  clear HB_
  generalize hg_ : w_.heap.size = g1 at HX_ HG_ ⊢
  clear hg_
  have HX_g := HG_
  clear HG_
  have HX := HX_
  clear hb_ HX_
  try clear w_
  rename World => w_
  have ME := Lib.hid (show ∀ j u, ev[j]? = some u → w_.cell? ⟨g1, 0 + j, none⟩ = some u from fun j u hu => HX.out.blk.at_ (PE.out j u hu))
  have c37 := HX.out.blk.at_ PS.out
  go_wp2_with (first | (with_reducible refine wpl_loadmw (o := ⟨some 4, _, _, _, _, _⟩) (by first | rfl | (go_simp; done) | fail) rfl row_entry ME.out rfl LE.out ?_))
  refine (HRE.out _).mono ?_
  rintro e w_ ⟨rfl, hb_⟩
  have HB_ := Lib.hid (HB.out.grow' hb_)
  clear HB
  have HB := HB_
  clear HB_
  have HX_ := Lib.hid (HX.out.grow hb_)
  clear HX
  have HX := HX_
  clear HX_
  clear hb_
  clear ME c37
  have c37 := HX.out.blk.at_ PS.out
  cases b1 with
  | false =>
    have HN := Lib.hid (show r = false by rw [HBD.out]; simp)
    go_wp2_with fail
    go_ret
    exact ⟨by rw [HN.out]; try first | rfl | simp, HB.out⟩
  | true =>
    have MH := Lib.hid (show ∀ j u, hv[j]? = some u → w_.cell? ⟨g1, 38 + j, none⟩ = some u from fun j u hu => HX.out.blk.at_ (PH.out j u hu))
    go_wp2_with (first | (with_reducible refine wpl_loadmw (o := ⟨some 8, _, _, _, _, _⟩) (by first | rfl | (go_simp; done) | fail) rfl row_header MH.out rfl LH.out ?_))
    refine (HRH.out _).mono ?_
    rintro e w_ ⟨rfl, hb_⟩
    have HB_ := Lib.hid (HB.out.grow' hb_)
    clear HB
    have HB := HB_
    clear HB_
    have HX_ := Lib.hid (HX.out.grow hb_)
    clear HX
    have HX := HX_
    clear HX_
    clear hb_
    clear MH c37
    have c37 := HX.out.blk.at_ PS.out
    cases b2 with
    | false =>
      have HN := Lib.hid (show r = false by rw [HBD.out]; simp)
      go_wp2_with fail
      go_ret
      exact ⟨by rw [HN.out]; try first | rfl | simp, HB.out⟩
    | true =>
      have HN := Lib.hid (show r = decide (n ≤ 32) by rw [HBD.out]; simp)
      go_wp2_with fail
      go_ret
      exact ⟨by rw [HN.out]; first | rfl | (congr 2; rw [Bool.eq_iff_iff]; simp; done) | (congr 2; simp; done) | (congr 2; simp; omega), HB.out⟩
set_option maxRecDepth 100000 in
theorem chk1_any {A : Option Addr} {n c : Nat} {x : Cer} (w : World) (hok : x.ok) (hn : x.path.length = n) :
    Calls Try.prog 57 #[.agg (certV (.slice A n c) x).toArray] w fun e w' => e = .returned (.bool (badCert x)) ∧ Grow w w' := by
  have HPC := Lib.hid (cerV_cl (v := .slice A n c) rfl hok)
  have HC := Lib.hid (fun w => iscert_any (A := A) (n := n) (c := c) w hok hn)
  obtain ⟨pv, hpv⟩ : ∃ z, z = certV (.slice A n c) x := ⟨_, rfl⟩
  obtain ⟨r, hr⟩ : ∃ z, z = badCert x := ⟨_, rfl⟩
  rw [← hpv] at HPC HC ⊢
  rw [← hr] at HC ⊢
  clear hok hn hpv hr
  obtain ⟨w_, hw⟩ : ∃ x, x = w := ⟨_, rfl⟩
  have HB := Lib.hid (show Below w.heap.size w w_ by rw [hw]; exact Below.refl _ _)
  suffices H : Calls Try.prog 57 #[.agg pv.toArray] w_ fun e w' => e = .returned (.bool r) ∧ Grow w w' by rw [hw] at H; exact H
  clear hw
  go_enter Try.func57, Try.ntmps57
  go_wp2_with (first | (with_reducible refine wpl_box (o := ⟨some 1, _, _, _, _, _⟩) rfl rfl rfl ?_))
  intro w2_ hb2_ hb_ hsz2_
  have HX_ := Lib.hid (at_mk hb2_ HPC.out.len)
  clear hb2_ hsz2_
  have HG_ := Lib.hid HB.out.size
  have HB_ := Lib.hid (HB.out.grow' hb_)
  clear HB
  have HB := HB_
  clear HB_
  generalize hg_ : w_.heap.size = g1 at HX_ HG_ ⊢
  clear hg_
  have HX_g := HG_
  clear HG_
  have HX := HX_
  clear hb_ HX_
  try clear w_
  rename World => w_
  go_wp2_with (first | (with_reducible refine wpl_loadb (o := ⟨some 3, _, _, _, _, _⟩) rfl rfl row_cert HX.out.blk rfl HX.out.len ?_))
  refine (HC.out _).mono ?_
  rintro e w_ ⟨rfl, hb_⟩
  have HB_ := Lib.hid (HB.out.grow' hb_)
  clear HB
  have HB := HB_
  clear HB_
  have HX_ := Lib.hid (HX.out.grow hb_)
  clear HX
  have HX := HX_
  clear HX_
  clear hb_
  go_wp2_with fail
  go_ret
  exact ⟨by cases r <;> rfl, HB.out⟩
set_option maxRecDepth 100000 in
set_option maxHeartbeats 2000000 in
theorem indexc_any {A : Option Addr} {n c : Nat} {l : List (Value × Cer)} (w : World) (hi : CertsAt w A n c l) (hn : n ≤ 1000000) :
    Calls Try.prog 99 #[.slice A n c, .func (.func 57) #[] #[]] w fun e w' => ∃ r : Int, e = .returned (.int .i64 r) ∧ (0 ≤ r ↔ (l.map Prod.snd).any badCert = true) ∧ Grow w w' := by
  have HI := Lib.hid hi
  obtain ⟨w_, hw⟩ : ∃ x, x = w := ⟨_, rfl⟩
  have HB := Lib.hid (show Below w.heap.size w w_ by rw [hw]; exact Below.refl _ _)
  suffices H : Calls Try.prog 99 #[.slice A n c, .func (.func 57) #[] #[]] w_ fun e w' => ∃ r : Int, e = .returned (.int .i64 r) ∧ (0 ≤ r ↔ (l.map Prod.snd).any badCert = true) ∧ Grow w w' by rw [hw] at H; exact H
  clear hw hi
  go_enter Try.func99, Try.ntmps99
  go_wp2_with fail
  go_loopw [8] (fun iv wr => ∃ k : Nat, k ≤ n ∧ iv = .int .i64 k ∧ Hid (((l.map Prod.snd).take k).any badCert = false ∧ Below w.heap.size w wr)) (fun iv _ => n - (intOf iv).toNat)
  case atStart => exact ⟨0, by omega, rfl, Lib.hid ⟨by simp, HB.out⟩⟩
  case round =>
    obtain ⟨k, hk, rfl, hI⟩ := hrel
    clear HB
    have HN := Lib.hid hI.out.1; have HB := Lib.hid hI.out.2
    clear hI
    rename World => w_
    by_cases hlt : k < n
    · have HII := Lib.hid (HI.out.grow HB.out)
      obtain ⟨b, off, p, P1, pn, pc, rfl, hp, hp1, hok, hid, hbl, hc⟩ := HII.out.at_ hlt
      have HC := Lib.hid hc
      have HPC := Lib.hid (cerV_cl (v := .slice P1 pn pc) rfl hok)
      have HL := Lib.hid (fun w => chk1_any (A := P1) (n := pn) (c := pc) w hok hid.2.1)
      have HSN := Lib.hid (any_take badCert (l := l.map Prod.snd) (k := k) (p := p.2) (by rw [List.getElem?_map, hp]; rfl))
      have HME := Lib.hid (show p.2 ∈ l.map Prod.snd from List.mem_map_of_mem (List.mem_of_getElem? hp))
      obtain ⟨pv, hpv⟩ : ∃ q, q = certV (.slice P1 pn pc) p.2 := ⟨_, rfl⟩
      rw [← hpv] at HC HPC HL
      obtain ⟨lg, hlg⟩ : ∃ q, q = badCert p.2 := ⟨_, rfl⟩
      have HLG := Lib.hid hlg
      rw [← hlg] at HL HSN
      clear hp hp1 hok hid hbl hc hpv hlg HII
      go_wp2_with (first | (with_reducible refine wpl_loadm (o := ⟨some 15, _, _, _, _, _⟩) rfl rfl row_cert HC.out rfl HPC.out.len ?_))
      refine (HL.out _).mono ?_
      rintro e w2_ ⟨rfl, hb_⟩
      have HB_ := Lib.hid (HB.out.grow' hb_)
      clear hb_ HB HL
      cases lg with
      | true =>
        go_wp2_with fail
        go_ret
        exact ⟨_, rfl, ⟨fun _ => List.any_eq_true.2 ⟨_, HME.out, HLG.out.symm⟩, fun _ => by omega⟩, HB_.out⟩
      | false =>
        go_wp2_with fail
        go_roundw
        case rel => exact ⟨k + 1, by omega, by go_num, Lib.hid ⟨by rw [HSN.out, HN.out]; rfl, HB_.out⟩⟩
        case measure => simp [intOf]; omega
    · obtain rfl : k = n := by omega
      have HAN := Lib.hid (show (l.map Prod.snd).any badCert = false by have h := HN.out; rw [List.take_of_length_le (by rw [List.length_map]; have := HI.out.2.2.1; omega)] at h; exact h)
      go_wp2_with fail
      go_ret
      exact ⟨_, rfl, ⟨fun h => by omega, fun h => by rw [HAN.out] at h; cases h⟩, HB.out⟩
theorem containsc_any {A : Option Addr} {n c : Nat} {l : List (Value × Cer)} (w : World) (hi : CertsAt w A n c l) (hn : n ≤ 1000000) :
    Calls Try.prog 56 #[.slice A n c, .func (.func 57) #[] #[]] w fun e w' => e = .returned (.bool ((l.map Prod.snd).any badCert)) ∧ Grow w w' := by
  have HI := Lib.hid hi
  have HX := Lib.hid (fun w h => indexc_any (A := A) (n := n) (c := c) (l := l) w h hn)
  obtain ⟨q, hq⟩ : ∃ q, q = (l.map Prod.snd).any badCert := ⟨_, rfl⟩
  rw [← hq] at HX ⊢
  clear hi hq
  go_enter Try.func56, Try.ntmps56
  go_wp2_with fail
  refine (HX.out _ HI.out).mono ?_
  rintro e w2_ ⟨r, rfl, hr, hb⟩
  have HB := Lib.hid hb
  cases q with
  | true =>
    have d0 : decide ((0 : Int) ≤ r) = true := by simpa using hr
    have h0 : 0 ≤ r := by simpa using hr
    clear hr hb
    go_wp2_with fail
    go_ret
    exact ⟨by first | rfl | simp, HB.out⟩
  | false =>
    have h0 : ¬ 0 ≤ r := by simpa using hr
    have d0 : decide ((0 : Int) ≤ r) = false := by simpa using h0
    clear hr hb
    go_wp2_with fail
    go_ret
    exact ⟨by first | rfl | simp, HB.out⟩
theorem lt_fe {a b : Int} (h : ¬ a < b) : (a < b) = False := eq_false h
theorem hastx_any (k : Int) (w : World) : Calls Try.prog 24 #[.int .i64 k] w fun e w' => e = .returned (.bool (hasTxK k)) ∧ Grow w w' := by
  go_enter Try.func24, Try.ntmps24
  rcases Int.lt_or_le k 2 with h1 | h1
  · have HN := Lib.hid (show hasTxK k = false by unfold hasTxK; simp; omega)
    have y1 : (2 ≤ k) = False := eq_false (by omega)
    go_wp2_with fail
    go_ret
    exact ⟨by rw [HN.out]; try first | rfl | simp, Below.refl _ _⟩
  rcases Int.lt_or_le 6 k with h2 | h2
  · have HN := Lib.hid (show hasTxK k = false by unfold hasTxK; simp; omega)
    have y1 : (k ≤ 6) = False := eq_false (by omega)
    go_wp2_with fail
    go_ret
    exact ⟨by rw [HN.out]; try first | rfl | simp, Below.refl _ _⟩
  have HN := Lib.hid (show hasTxK k = true by unfold hasTxK; simp; omega)
  go_wp2_with fail
  go_ret
  exact ⟨by rw [HN.out]; try first | rfl | simp, Below.refl _ _⟩
theorem hasc_any (k : Int) (w : World) : Calls Try.prog 27 #[.int .i64 k] w fun e w' => e = .returned (.bool (hasCK k)) ∧ Grow w w' := by
  go_enter Try.func27, Try.ntmps27
  rcases Int.lt_or_le k 4 with h1 | h1
  · have HN := Lib.hid (show hasCK k = false by unfold hasCK; simp; omega)
    have y1 : (4 ≤ k) = False := eq_false (by omega)
    go_wp2_with fail
    go_ret
    exact ⟨by rw [HN.out]; try first | rfl | simp, Below.refl _ _⟩
  rcases Int.lt_or_le 6 k with h2 | h2
  · have HN := Lib.hid (show hasCK k = false by unfold hasCK; simp; omega)
    have y1 : (k ≤ 6) = False := eq_false (by omega)
    go_wp2_with fail
    go_ret
    exact ⟨by rw [HN.out]; try first | rfl | simp, Below.refl _ _⟩
  have HN := Lib.hid (show hasCK k = true by unfold hasCK; simp; omega)
  go_wp2_with fail
  go_ret
  exact ⟨by rw [HN.out]; try first | rfl | simp, Below.refl _ _⟩
set_option maxRecDepth 100000 in
set_option maxHeartbeats 8000000 in
theorem cmcheck_any {q : CW} {m : Cmd} (w : World) (h : CmdAt w q m) (hs : SmallC m) :
    Calls Try.prog 21 #[.agg (q.vs m).toArray] w fun e w' => e = .returned (.int .i64 (checkC m)) ∧ Grow w w' := by
  have HXC := Lib.hid (vs_cl (q := q) h.ok)
  have HUC := Lib.hid (vs_cl (q := usedW q m) (usedC_ok h.ok))
  have X0 := Lib.hid (vs_kind q m); have X5 := Lib.hid (vs_certs q m)
  have X39 := Lib.hid (vs_serial (q := q) h.ok.2.2.2.1); have X40 := Lib.hid (vs_epoch (q := q) h.ok.2.2.2.1)
  have XA := Lib.hid (show (q.vs m)[38]? = some (.int .u64 m.dest.amount) from vs_to (j := 32) (by unfold outV; rw [List.getElem?_append_right (by simp [h.ok.2.2.2.1.1])]; simp [h.ok.2.2.2.1.1]))
  have XX := Lib.hid (fun j u (hu : (q.tv m)[j]? = some u) => vs_tx hu)
  have LX := Lib.hid (show (q.tv m).length = 4 from rfl)
  have hn3 : m.certs.length = q.n3 := h.n3
  have hn5 : q.n3 ≤ 100000 := by rw [← hn3]; exact hs.2.2.2.1
  have HUS := Lib.hid (fun w' => cmused_any (q := q) (m := m) w' h.ok)
  obtain ⟨sm, hsm⟩ := bool_of (m = usedC m)
  have HSAME := Lib.hid (fun (w' : World) (hg : Grow w w') => cmsame_any (res := sm) hsm w' (h.grow hg) ((usedW_at h).grow hg) hs)
  have HTK := Lib.hid (fun (w' : World) (hg : Grow w w') => show Calls Try.prog 55 #[.agg (q.tv m).toArray] w' fun e w'' => e = .returned (.int .i64 (checkT m.tx)) ∧ Grow w' w'' from by
    have := tcheck_any w' (h.ins.grow hg) (h.outs.grow hg) (by rw [← h.n1]; exact Nat.le_trans hs.1 (by decide)) (by rw [← h.n2]; exact Nat.le_trans hs.2.1 (by decide)) h.ok.2.1.2.2.1 h.ok.2.1.2.2.2
    rw [h.tx] at this; exact this)
  have HBC := Lib.hid (fun (w' : World) (hg : Grow w w') => show Calls Try.prog 56 #[.slice q.A3 q.n3 q.c3, .func (.func 57) #[] #[]] w' fun e w'' => e = .returned (.bool (m.certs.any badCert)) ∧ Grow w' w'' from by
    have := containsc_any w' (h.certs.grow hg) (by omega)
    rw [← h.certsE] at this; exact this)
  have HHT := Lib.hid (fun w' => hastx_any m.kind w')
  have HCK := Lib.hid (show checkC m = if m.kind < 1 ∨ 9 < m.kind then 25 else if !sm || wrong3 m then 1 else if 16 < q.n3 then 27 else if hasTxK m.kind && !decide (checkT m.tx = 0) then checkT m.tx else if m.certs.any badCert then 16 else 0 by
    have e : sm = !(wrong1 m || wrong2 m) := by
      rw [Bool.eq_iff_iff, hsm, used_iff]; simp
    unfold checkC; rw [hn3, e]; simp)
  obtain ⟨ck, hck⟩ : ∃ z, z = checkC m := ⟨_, rfl⟩
  obtain ⟨w3b, hw3b⟩ : ∃ z, z = wrong3 m := ⟨_, rfl⟩
  have HW3 := Lib.hid hw3b
  unfold wrong3 at HW3
  obtain ⟨tk, htk⟩ : ∃ z, z = checkT m.tx := ⟨_, rfl⟩
  obtain ⟨bc, hbc⟩ : ∃ z, z = m.certs.any badCert := ⟨_, rfl⟩
  rw [← hck] at HCK ⊢
  rw [← hw3b, ← htk, ← hbc] at HCK; rw [← htk] at HTK; rw [← hbc] at HBC
  obtain ⟨xv, hxv⟩ : ∃ z, z = q.vs m := ⟨_, rfl⟩
  obtain ⟨uv, huv⟩ : ∃ z, z = (usedW q m).vs (usedC m) := ⟨_, rfl⟩
  obtain ⟨tv, htv⟩ : ∃ z, z = q.tv m := ⟨_, rfl⟩
  rw [← hxv] at HXC X0 X5 X39 X40 XA XX HUS HSAME ⊢
  rw [← huv] at HUC HUS HSAME; rw [← htv] at XX LX HTK
  obtain ⟨k, hk⟩ : ∃ z, z = m.kind := ⟨_, rfl⟩
  obtain ⟨se, hse⟩ : ∃ z, z = m.serial := ⟨_, rfl⟩
  obtain ⟨ep, hep⟩ : ∃ z, z = m.epoch := ⟨_, rfl⟩
  obtain ⟨am, ham⟩ : ∃ z, z = m.dest.amount := ⟨_, rfl⟩
  rw [← hk] at X0 HCK HHT; rw [← hse] at X39 HW3; rw [← hep] at X40 HW3; rw [← ham] at XA HW3
  obtain ⟨A, n, c, A2, n2, c2, A3, n3, c3, l, cl⟩ := q
  simp only at hn3 hn5 X5 HCK HBC
  have hn30 : (0 : Int) ≤ (n3 : Int) := by omega
  clear h hs hsm hck hw3b htk hbc hxv huv htv hk hse hep ham hn3
  obtain ⟨w_, hw⟩ : ∃ x, x = w := ⟨_, rfl⟩
  have HB := Lib.hid (show Below w.heap.size w w_ by rw [hw]; exact Below.refl _ _)
  suffices H : Calls Try.prog 21 #[.agg xv.toArray] w_ fun e w' => e = .returned (.int .i64 ck) ∧ Grow w w' by rw [hw] at H; exact H
  clear hw
  go_enter Try.func21, Try.ntmps21
  go_wp2_with (first | (with_reducible refine wpl_box (o := ⟨some 1, _, _, _, _, _⟩) rfl rfl rfl ?_))
  intro w2_ hb2_ hb_ hsz2_
  have HX_ := Lib.hid (at_mk hb2_ HXC.out.len)
  clear hb2_ hsz2_
  have HG_ := Lib.hid HB.out.size
  have HB_ := Lib.hid (HB.out.grow' hb_)
  clear HB
  have HB := HB_
  clear HB_
  generalize hg_ : w_.heap.size = g1 at HX_ HG_ ⊢
  clear hg_
  have HM_g := HG_
  clear HG_
  have HM := HX_
  clear hb_ HX_
  try clear w_
  rename World => w_
  have c0 := HM.out.blk.at_ X0.out
  rcases Int.lt_or_le k 1 with hk1 | hk1
  · have HN := Lib.hid (show ck = 25 by rw [HCK.out, if_pos (.inl hk1)])
    go_wp2_with fail
    go_ret
    exact ⟨by rw [HN.out]; try first | rfl | simp, HB.out⟩
  rcases Int.lt_or_le 9 k with hk9 | hk9
  · have HN := Lib.hid (show ck = 25 by rw [HCK.out, if_pos (.inr hk9)])
    have z1 := lt_fe (a := k) (b := 1) (by omega)
    go_wp2_with fail
    go_ret
    exact ⟨by rw [HN.out]; try first | rfl | simp, HB.out⟩
  have HCK2 := Lib.hid (show ck = if !sm || w3b then 1 else if 16 < n3 then 27 else if hasTxK k && !decide (tk = 0) then tk else if bc then 16 else 0 by rw [HCK.out, if_neg (by omega)])
  have z1 := lt_fe (a := k) (b := 1) (by omega)
  have z2 := lt_fe (a := 9) (b := k) (by omega)
  clear HCK
  go_upto_region 3 with fail
  clear z1 z2
  go_cut [13] from 14 to 44 (fun s13 wr => s13 = .bool (!sm || w3b) ∧ Hid (At wr g1 33 73 xv ∧ Below w.heap.size w wr))
  case first =>
    cases sm with
    | false =>
      have HW := Lib.hid (show (!false || w3b) = true by simp)
      try go_wp2_with fail
      repeat' (first | (with_reducible refine wp_flow (id := 3) [0,0,2,7,15,31,63,127,255,511,1023,2047,4095,8191,16383,32767,65535,131071,262143,524287,1048575,2097151,4194303,8388607,16777215,33554431,67108863,134217727,268435455,536870911,1073741823,2147483647] [0,0,3,3,0,0,0,0,0,0,0,0,0,0,0,0,0,0,0,0,0,0,0,0,0,0,0,0,0,0,0,0] (fun i => match i with | 2 => spV (.agg uv.toArray) | 3 => spV (.bool false) | _ => spV undef) (by kernel_rfl) (by kernel_rfl) ?_) | go_values | go_skip | go_guarded | go_step | go_upon | go_back)
      intro w_ hd_
      have hb_ := hd_.grow
      have HB_ := Lib.hid (HB.out.grow' hb_)
      clear HB
      have HB := HB_
      clear HB_
      have HM_ := Lib.hid (HM.out.grow hb_)
      clear HM
      have HM := HM_
      clear HM_
      clear hb_ hd_
      show wpL _ _ _ _ _ _ _ [0,1,2,3,4,5,6,7,8,9,10,11,12,13,14,15,16,17,18,19,20,21,22,23,24,25,26,27,28,29,30,31] _ _
      have c39 := HM.out.blk.at_ X39.out; have c40 := HM.out.blk.at_ X40.out; have c38 := HM.out.blk.at_ XA.out
      repeat (first | (refine fl_loadb rfl (by decide) (by first | exact wanted_none rfl | (go_simp; done) | fail) rfl row_cmd HM.out.blk (by first | rfl | (go_simp; done) | rfl) HM.out.len (fun K hK => ?_); go_simp; refine hK _ ?_; clear hK K) | (refine fl_skip rfl (by first | (go_simp; done) | fail) (fun K hK => ?_); go_simp; refine hK _ ?_; clear hK K) | (refine fl_calm rfl (by decide) (by first | exact wanted_none rfl | (go_simp; done) | fail) (fun w_ _ _ => by first | (go_simp; rfl) | (go_simp; done) | rfl) (fun K hK => ?_); go_simp; refine hK _ ?_; clear hK K))
      refine fl_callv rfl (by kernel_rfl) rfl (by first | exact wanted_none rfl | (go_simp; done) | fail) (fun w_ => by first | (go_simp; exact ⟨rfl, rfl⟩) | (go_simp; rfl) | (go_simp; exact ⟨⟨rfl, rfl, rfl⟩, rfl⟩)) (fun w2_ hg_ hL_ => ?_) (fun K hK => ?_)
      · skip
        replace HB := Lib.hid (HB.out.grow' hg_)
        replace HM := Lib.hid (HM.out.grow hg_)
        exact (HUS.out _)
      go_simp
      refine hK _ ?_
      clear hK K
      repeat (first | (refine fl_loadb rfl (by decide) (by first | exact wanted_none rfl | (go_simp; done) | fail) rfl row_cmd HM.out.blk (by first | rfl | (go_simp; done) | rfl) HM.out.len (fun K hK => ?_); go_simp; refine hK _ ?_; clear hK K) | (refine fl_skip rfl (by first | (go_simp; done) | fail) (fun K hK => ?_); go_simp; refine hK _ ?_; clear hK K) | (refine fl_calm rfl (by decide) (by first | exact wanted_none rfl | (go_simp; done) | fail) (fun w_ _ _ => by first | (go_simp; rfl) | (go_simp; done) | rfl) (fun K hK => ?_); go_simp; refine hK _ ?_; clear hK K))
      refine fl_callv rfl (by kernel_rfl) rfl (by first | exact wanted_none rfl | (go_simp; done) | fail) (fun w_ => by first | (go_simp; exact ⟨rfl, rfl⟩) | (go_simp; rfl) | (go_simp; exact ⟨⟨rfl, rfl, rfl⟩, rfl⟩)) (fun w2_ hg_ hL_ => ?_) (fun K hK => ?_)
      · skip
        replace HB := Lib.hid (HB.out.grow' hg_)
        replace HM := Lib.hid (HM.out.grow hg_)
        exact (HSAME.out _ HB.out)
      go_simp
      refine hK _ ?_
      clear hK K
      repeat (first | (refine fl_calm rfl (by decide) (by first | exact wanted_none rfl | (go_simp; done) | fail) (fun w_ _ _ => by first | (go_simp; rfl) | (go_simp; done) | rfl) (fun K hK => ?_); go_simp; refine hK _ ?_; clear hK K) | (refine fl_skip rfl (by first | (go_simp; done) | fail) (fun K hK => ?_); go_simp; refine hK _ ?_; clear hK K) | (refine fl_load rfl (by decide) (by first | exact wanted_none rfl | (go_simp; done) | fail) rfl (by first | rfl | (go_simp; rfl)) (by kernel_rfl) (by first | exact c39 | exact c40 | exact c38) (fun K hK => ?_); go_simp; refine hK _ ?_; clear hK K) | (refine fl_loadb rfl (by decide) (by first | exact wanted_none rfl | (go_simp; done) | fail) rfl row_cmd HM.out.blk (by first | rfl | (go_simp; done) | rfl) HM.out.len (fun K hK => ?_); go_simp; refine hK _ ?_; clear hK K))
      clear c39 c40 c38
      refine fl_done ?_
      intro w2_ hg_ hL_
      replace HB := Lib.hid (HB.out.grow' hg_)
      replace HM := Lib.hid (HM.out.grow hg_)
      clear hg_ hL_
      try clear w_
      rename World => w_
      go_wp2_with fail
      go_meet
      case rel => exact ⟨by rw [HW.out]; try first | rfl | simp, Lib.hid ⟨HM.out, HB.out⟩⟩
    | true =>
    rcases Int.lt_or_le se 0 with r1 | r1
    · have HW := Lib.hid (show (!true || w3b) = true by rw [HW3.out]; simp [r1])
      try go_wp2_with fail
      repeat' (first | (with_reducible refine wp_flow (id := 3) [0,0,2,7,15,31,63,127,255,511,1023,2047,4095,8191,16383,32767,65535,131071,262143,524287,1048575,2097151,4194303,8388607,16777215,33554431,67108863,134217727,268435455,536870911,1073741823,2147483647] [0,0,3,3,0,0,0,0,0,0,0,0,0,0,0,0,0,0,0,0,0,0,0,0,0,0,0,0,0,0,0,0] (fun i => match i with | 2 => spV (.agg uv.toArray) | 3 => spV (.bool true) | _ => spV undef) (by kernel_rfl) (by kernel_rfl) ?_) | go_values | go_skip | go_guarded | go_step | go_upon | go_back)
      intro w_ hd_
      have hb_ := hd_.grow
      have HB_ := Lib.hid (HB.out.grow' hb_)
      clear HB
      have HB := HB_
      clear HB_
      have HM_ := Lib.hid (HM.out.grow hb_)
      clear HM
      have HM := HM_
      clear HM_
      clear hb_ hd_
      show wpL _ _ _ _ _ _ _ [0,1,2,3,4,5,6,7,8,9,10,11,12,13,14,15,16,17,18,19,20,21,22,23,24,25,26,27,28,29,30,31] _ _
      have c39 := HM.out.blk.at_ X39.out; have c40 := HM.out.blk.at_ X40.out; have c38 := HM.out.blk.at_ XA.out
      repeat (first | (refine fl_loadb rfl (by decide) (by first | exact wanted_none rfl | (go_simp; done) | fail) rfl row_cmd HM.out.blk (by first | rfl | (go_simp; done) | rfl) HM.out.len (fun K hK => ?_); go_simp; refine hK _ ?_; clear hK K) | (refine fl_skip rfl (by first | (go_simp; done) | fail) (fun K hK => ?_); go_simp; refine hK _ ?_; clear hK K) | (refine fl_calm rfl (by decide) (by first | exact wanted_none rfl | (go_simp; done) | fail) (fun w_ _ _ => by first | (go_simp; rfl) | (go_simp; done) | rfl) (fun K hK => ?_); go_simp; refine hK _ ?_; clear hK K))
      refine fl_callv rfl (by kernel_rfl) rfl (by first | exact wanted_none rfl | (go_simp; done) | fail) (fun w_ => by first | (go_simp; exact ⟨rfl, rfl⟩) | (go_simp; rfl) | (go_simp; exact ⟨⟨rfl, rfl, rfl⟩, rfl⟩)) (fun w2_ hg_ hL_ => ?_) (fun K hK => ?_)
      · skip
        replace HB := Lib.hid (HB.out.grow' hg_)
        replace HM := Lib.hid (HM.out.grow hg_)
        exact (HUS.out _)
      go_simp
      refine hK _ ?_
      clear hK K
      repeat (first | (refine fl_loadb rfl (by decide) (by first | exact wanted_none rfl | (go_simp; done) | fail) rfl row_cmd HM.out.blk (by first | rfl | (go_simp; done) | rfl) HM.out.len (fun K hK => ?_); go_simp; refine hK _ ?_; clear hK K) | (refine fl_skip rfl (by first | (go_simp; done) | fail) (fun K hK => ?_); go_simp; refine hK _ ?_; clear hK K) | (refine fl_calm rfl (by decide) (by first | exact wanted_none rfl | (go_simp; done) | fail) (fun w_ _ _ => by first | (go_simp; rfl) | (go_simp; done) | rfl) (fun K hK => ?_); go_simp; refine hK _ ?_; clear hK K))
      refine fl_callv rfl (by kernel_rfl) rfl (by first | exact wanted_none rfl | (go_simp; done) | fail) (fun w_ => by first | (go_simp; exact ⟨rfl, rfl⟩) | (go_simp; rfl) | (go_simp; exact ⟨⟨rfl, rfl, rfl⟩, rfl⟩)) (fun w2_ hg_ hL_ => ?_) (fun K hK => ?_)
      · skip
        replace HB := Lib.hid (HB.out.grow' hg_)
        replace HM := Lib.hid (HM.out.grow hg_)
        exact (HSAME.out _ HB.out)
      go_simp
      refine hK _ ?_
      clear hK K
      repeat (first | (refine fl_calm rfl (by decide) (by first | exact wanted_none rfl | (go_simp; done) | fail) (fun w_ _ _ => by first | (go_simp; rfl) | (go_simp; done) | rfl) (fun K hK => ?_); go_simp; refine hK _ ?_; clear hK K) | (refine fl_skip rfl (by first | (go_simp; done) | fail) (fun K hK => ?_); go_simp; refine hK _ ?_; clear hK K) | (refine fl_load rfl (by decide) (by first | exact wanted_none rfl | (go_simp; done) | fail) rfl (by first | rfl | (go_simp; rfl)) (by kernel_rfl) (by first | exact c39 | exact c40 | exact c38) (fun K hK => ?_); go_simp; refine hK _ ?_; clear hK K) | (refine fl_loadb rfl (by decide) (by first | exact wanted_none rfl | (go_simp; done) | fail) rfl row_cmd HM.out.blk (by first | rfl | (go_simp; done) | rfl) HM.out.len (fun K hK => ?_); go_simp; refine hK _ ?_; clear hK K))
      clear c39 c40 c38
      refine fl_done ?_
      intro w2_ hg_ hL_
      replace HB := Lib.hid (HB.out.grow' hg_)
      replace HM := Lib.hid (HM.out.grow hg_)
      clear hg_ hL_
      try clear w_
      rename World => w_
      go_wp2_with fail
      go_meet
      case rel => exact ⟨by rw [HW.out]; try first | rfl | simp, Lib.hid ⟨HM.out, HB.out⟩⟩
    have y_r1 := lt_fe (a := se) (b := 0) (by omega)
    rcases Int.lt_or_le (1099511627776 : Int) se with r2 | r2
    · have HW := Lib.hid (show (!true || w3b) = true by rw [HW3.out]; simp [r2])
      try go_wp2_with fail
      repeat' (first | (with_reducible refine wp_flow (id := 3) [0,0,2,7,15,31,63,127,255,511,1023,2047,4095,8191,16383,32767,65535,131071,262143,524287,1048575,2097151,4194303,8388607,16777215,33554431,67108863,134217727,268435455,536870911,1073741823,2147483647] [0,0,3,3,0,0,0,0,0,0,0,0,0,0,0,0,0,0,0,0,0,0,0,0,0,0,0,0,0,0,0,0] (fun i => match i with | 2 => spV (.agg uv.toArray) | 3 => spV (.bool true) | _ => spV undef) (by kernel_rfl) (by kernel_rfl) ?_) | go_values | go_skip | go_guarded | go_step | go_upon | go_back)
      intro w_ hd_
      have hb_ := hd_.grow
      have HB_ := Lib.hid (HB.out.grow' hb_)
      clear HB
      have HB := HB_
      clear HB_
      have HM_ := Lib.hid (HM.out.grow hb_)
      clear HM
      have HM := HM_
      clear HM_
      clear hb_ hd_
      show wpL _ _ _ _ _ _ _ [0,1,2,3,4,5,6,7,8,9,10,11,12,13,14,15,16,17,18,19,20,21,22,23,24,25,26,27,28,29,30,31] _ _
      have c39 := HM.out.blk.at_ X39.out; have c40 := HM.out.blk.at_ X40.out; have c38 := HM.out.blk.at_ XA.out
      repeat (first | (refine fl_loadb rfl (by decide) (by first | exact wanted_none rfl | (go_simp; done) | fail) rfl row_cmd HM.out.blk (by first | rfl | (go_simp; done) | rfl) HM.out.len (fun K hK => ?_); go_simp; refine hK _ ?_; clear hK K) | (refine fl_skip rfl (by first | (go_simp; done) | fail) (fun K hK => ?_); go_simp; refine hK _ ?_; clear hK K) | (refine fl_calm rfl (by decide) (by first | exact wanted_none rfl | (go_simp; done) | fail) (fun w_ _ _ => by first | (go_simp; rfl) | (go_simp; done) | rfl) (fun K hK => ?_); go_simp; refine hK _ ?_; clear hK K))
      refine fl_callv rfl (by kernel_rfl) rfl (by first | exact wanted_none rfl | (go_simp; done) | fail) (fun w_ => by first | (go_simp; exact ⟨rfl, rfl⟩) | (go_simp; rfl) | (go_simp; exact ⟨⟨rfl, rfl, rfl⟩, rfl⟩)) (fun w2_ hg_ hL_ => ?_) (fun K hK => ?_)
      · skip
        replace HB := Lib.hid (HB.out.grow' hg_)
        replace HM := Lib.hid (HM.out.grow hg_)
        exact (HUS.out _)
      go_simp
      refine hK _ ?_
      clear hK K
      repeat (first | (refine fl_loadb rfl (by decide) (by first | exact wanted_none rfl | (go_simp; done) | fail) rfl row_cmd HM.out.blk (by first | rfl | (go_simp; done) | rfl) HM.out.len (fun K hK => ?_); go_simp; refine hK _ ?_; clear hK K) | (refine fl_skip rfl (by first | (go_simp; done) | fail) (fun K hK => ?_); go_simp; refine hK _ ?_; clear hK K) | (refine fl_calm rfl (by decide) (by first | exact wanted_none rfl | (go_simp; done) | fail) (fun w_ _ _ => by first | (go_simp; rfl) | (go_simp; done) | rfl) (fun K hK => ?_); go_simp; refine hK _ ?_; clear hK K))
      refine fl_callv rfl (by kernel_rfl) rfl (by first | exact wanted_none rfl | (go_simp; done) | fail) (fun w_ => by first | (go_simp; exact ⟨rfl, rfl⟩) | (go_simp; rfl) | (go_simp; exact ⟨⟨rfl, rfl, rfl⟩, rfl⟩)) (fun w2_ hg_ hL_ => ?_) (fun K hK => ?_)
      · skip
        replace HB := Lib.hid (HB.out.grow' hg_)
        replace HM := Lib.hid (HM.out.grow hg_)
        exact (HSAME.out _ HB.out)
      go_simp
      refine hK _ ?_
      clear hK K
      repeat (first | (refine fl_calm rfl (by decide) (by first | exact wanted_none rfl | (go_simp; done) | fail) (fun w_ _ _ => by first | (go_simp; rfl) | (go_simp; done) | rfl) (fun K hK => ?_); go_simp; refine hK _ ?_; clear hK K) | (refine fl_skip rfl (by first | (go_simp; done) | fail) (fun K hK => ?_); go_simp; refine hK _ ?_; clear hK K) | (refine fl_load rfl (by decide) (by first | exact wanted_none rfl | (go_simp; done) | fail) rfl (by first | rfl | (go_simp; rfl)) (by kernel_rfl) (by first | exact c39 | exact c40 | exact c38) (fun K hK => ?_); go_simp; refine hK _ ?_; clear hK K) | (refine fl_loadb rfl (by decide) (by first | exact wanted_none rfl | (go_simp; done) | fail) rfl row_cmd HM.out.blk (by first | rfl | (go_simp; done) | rfl) HM.out.len (fun K hK => ?_); go_simp; refine hK _ ?_; clear hK K))
      clear c39 c40 c38
      refine fl_done ?_
      intro w2_ hg_ hL_
      replace HB := Lib.hid (HB.out.grow' hg_)
      replace HM := Lib.hid (HM.out.grow hg_)
      clear hg_ hL_
      try clear w_
      rename World => w_
      go_wp2_with fail
      go_meet
      case rel => exact ⟨by rw [HW.out]; try first | rfl | simp, Lib.hid ⟨HM.out, HB.out⟩⟩
    have y_r2 := lt_fe (a := 1099511627776) (b := se) (by omega)
    rcases Int.lt_or_le (4611686018427387904 : Int) am with r3 | r3
    · have HW := Lib.hid (show (!true || w3b) = true by rw [HW3.out]; simp [r3])
      try go_wp2_with fail
      repeat' (first | (with_reducible refine wp_flow (id := 3) [0,0,2,7,15,31,63,127,255,511,1023,2047,4095,8191,16383,32767,65535,131071,262143,524287,1048575,2097151,4194303,8388607,16777215,33554431,67108863,134217727,268435455,536870911,1073741823,2147483647] [0,0,3,3,0,0,0,0,0,0,0,0,0,0,0,0,0,0,0,0,0,0,0,0,0,0,0,0,0,0,0,0] (fun i => match i with | 2 => spV (.agg uv.toArray) | 3 => spV (.bool true) | _ => spV undef) (by kernel_rfl) (by kernel_rfl) ?_) | go_values | go_skip | go_guarded | go_step | go_upon | go_back)
      intro w_ hd_
      have hb_ := hd_.grow
      have HB_ := Lib.hid (HB.out.grow' hb_)
      clear HB
      have HB := HB_
      clear HB_
      have HM_ := Lib.hid (HM.out.grow hb_)
      clear HM
      have HM := HM_
      clear HM_
      clear hb_ hd_
      show wpL _ _ _ _ _ _ _ [0,1,2,3,4,5,6,7,8,9,10,11,12,13,14,15,16,17,18,19,20,21,22,23,24,25,26,27,28,29,30,31] _ _
      have c39 := HM.out.blk.at_ X39.out; have c40 := HM.out.blk.at_ X40.out; have c38 := HM.out.blk.at_ XA.out
      repeat (first | (refine fl_loadb rfl (by decide) (by first | exact wanted_none rfl | (go_simp; done) | fail) rfl row_cmd HM.out.blk (by first | rfl | (go_simp; done) | rfl) HM.out.len (fun K hK => ?_); go_simp; refine hK _ ?_; clear hK K) | (refine fl_skip rfl (by first | (go_simp; done) | fail) (fun K hK => ?_); go_simp; refine hK _ ?_; clear hK K) | (refine fl_calm rfl (by decide) (by first | exact wanted_none rfl | (go_simp; done) | fail) (fun w_ _ _ => by first | (go_simp; rfl) | (go_simp; done) | rfl) (fun K hK => ?_); go_simp; refine hK _ ?_; clear hK K))
      refine fl_callv rfl (by kernel_rfl) rfl (by first | exact wanted_none rfl | (go_simp; done) | fail) (fun w_ => by first | (go_simp; exact ⟨rfl, rfl⟩) | (go_simp; rfl) | (go_simp; exact ⟨⟨rfl, rfl, rfl⟩, rfl⟩)) (fun w2_ hg_ hL_ => ?_) (fun K hK => ?_)
      · skip
        replace HB := Lib.hid (HB.out.grow' hg_)
        replace HM := Lib.hid (HM.out.grow hg_)
        exact (HUS.out _)
      go_simp
      refine hK _ ?_
      clear hK K
      repeat (first | (refine fl_loadb rfl (by decide) (by first | exact wanted_none rfl | (go_simp; done) | fail) rfl row_cmd HM.out.blk (by first | rfl | (go_simp; done) | rfl) HM.out.len (fun K hK => ?_); go_simp; refine hK _ ?_; clear hK K) | (refine fl_skip rfl (by first | (go_simp; done) | fail) (fun K hK => ?_); go_simp; refine hK _ ?_; clear hK K) | (refine fl_calm rfl (by decide) (by first | exact wanted_none rfl | (go_simp; done) | fail) (fun w_ _ _ => by first | (go_simp; rfl) | (go_simp; done) | rfl) (fun K hK => ?_); go_simp; refine hK _ ?_; clear hK K))
      refine fl_callv rfl (by kernel_rfl) rfl (by first | exact wanted_none rfl | (go_simp; done) | fail) (fun w_ => by first | (go_simp; exact ⟨rfl, rfl⟩) | (go_simp; rfl) | (go_simp; exact ⟨⟨rfl, rfl, rfl⟩, rfl⟩)) (fun w2_ hg_ hL_ => ?_) (fun K hK => ?_)
      · skip
        replace HB := Lib.hid (HB.out.grow' hg_)
        replace HM := Lib.hid (HM.out.grow hg_)
        exact (HSAME.out _ HB.out)
      go_simp
      refine hK _ ?_
      clear hK K
      repeat (first | (refine fl_calm rfl (by decide) (by first | exact wanted_none rfl | (go_simp; done) | fail) (fun w_ _ _ => by first | (go_simp; rfl) | (go_simp; done) | rfl) (fun K hK => ?_); go_simp; refine hK _ ?_; clear hK K) | (refine fl_skip rfl (by first | (go_simp; done) | fail) (fun K hK => ?_); go_simp; refine hK _ ?_; clear hK K) | (refine fl_load rfl (by decide) (by first | exact wanted_none rfl | (go_simp; done) | fail) rfl (by first | rfl | (go_simp; rfl)) (by kernel_rfl) (by first | exact c39 | exact c40 | exact c38) (fun K hK => ?_); go_simp; refine hK _ ?_; clear hK K) | (refine fl_loadb rfl (by decide) (by first | exact wanted_none rfl | (go_simp; done) | fail) rfl row_cmd HM.out.blk (by first | rfl | (go_simp; done) | rfl) HM.out.len (fun K hK => ?_); go_simp; refine hK _ ?_; clear hK K))
      clear c39 c40 c38
      refine fl_done ?_
      intro w2_ hg_ hL_
      replace HB := Lib.hid (HB.out.grow' hg_)
      replace HM := Lib.hid (HM.out.grow hg_)
      clear hg_ hL_
      try clear w_
      rename World => w_
      go_wp2_with fail
      go_meet
      case rel => exact ⟨by rw [HW.out]; try first | rfl | simp, Lib.hid ⟨HM.out, HB.out⟩⟩
    have y_r3 := lt_fe (a := 4611686018427387904) (b := am) (by omega)
    rcases Int.lt_or_le ep 0 with r4 | r4
    · have HW := Lib.hid (show (!true || w3b) = true by rw [HW3.out]; simp [r4])
      try go_wp2_with fail
      repeat' (first | (with_reducible refine wp_flow (id := 3) [0,0,2,7,15,31,63,127,255,511,1023,2047,4095,8191,16383,32767,65535,131071,262143,524287,1048575,2097151,4194303,8388607,16777215,33554431,67108863,134217727,268435455,536870911,1073741823,2147483647] [0,0,3,3,0,0,0,0,0,0,0,0,0,0,0,0,0,0,0,0,0,0,0,0,0,0,0,0,0,0,0,0] (fun i => match i with | 2 => spV (.agg uv.toArray) | 3 => spV (.bool true) | _ => spV undef) (by kernel_rfl) (by kernel_rfl) ?_) | go_values | go_skip | go_guarded | go_step | go_upon | go_back)
      intro w_ hd_
      have hb_ := hd_.grow
      have HB_ := Lib.hid (HB.out.grow' hb_)
      clear HB
      have HB := HB_
      clear HB_
      have HM_ := Lib.hid (HM.out.grow hb_)
      clear HM
      have HM := HM_
      clear HM_
      clear hb_ hd_
      show wpL _ _ _ _ _ _ _ [0,1,2,3,4,5,6,7,8,9,10,11,12,13,14,15,16,17,18,19,20,21,22,23,24,25,26,27,28,29,30,31] _ _
      have c39 := HM.out.blk.at_ X39.out; have c40 := HM.out.blk.at_ X40.out; have c38 := HM.out.blk.at_ XA.out
      repeat (first | (refine fl_loadb rfl (by decide) (by first | exact wanted_none rfl | (go_simp; done) | fail) rfl row_cmd HM.out.blk (by first | rfl | (go_simp; done) | rfl) HM.out.len (fun K hK => ?_); go_simp; refine hK _ ?_; clear hK K) | (refine fl_skip rfl (by first | (go_simp; done) | fail) (fun K hK => ?_); go_simp; refine hK _ ?_; clear hK K) | (refine fl_calm rfl (by decide) (by first | exact wanted_none rfl | (go_simp; done) | fail) (fun w_ _ _ => by first | (go_simp; rfl) | (go_simp; done) | rfl) (fun K hK => ?_); go_simp; refine hK _ ?_; clear hK K))
      refine fl_callv rfl (by kernel_rfl) rfl (by first | exact wanted_none rfl | (go_simp; done) | fail) (fun w_ => by first | (go_simp; exact ⟨rfl, rfl⟩) | (go_simp; rfl) | (go_simp; exact ⟨⟨rfl, rfl, rfl⟩, rfl⟩)) (fun w2_ hg_ hL_ => ?_) (fun K hK => ?_)
      · skip
        replace HB := Lib.hid (HB.out.grow' hg_)
        replace HM := Lib.hid (HM.out.grow hg_)
        exact (HUS.out _)
      go_simp
      refine hK _ ?_
      clear hK K
      repeat (first | (refine fl_loadb rfl (by decide) (by first | exact wanted_none rfl | (go_simp; done) | fail) rfl row_cmd HM.out.blk (by first | rfl | (go_simp; done) | rfl) HM.out.len (fun K hK => ?_); go_simp; refine hK _ ?_; clear hK K) | (refine fl_skip rfl (by first | (go_simp; done) | fail) (fun K hK => ?_); go_simp; refine hK _ ?_; clear hK K) | (refine fl_calm rfl (by decide) (by first | exact wanted_none rfl | (go_simp; done) | fail) (fun w_ _ _ => by first | (go_simp; rfl) | (go_simp; done) | rfl) (fun K hK => ?_); go_simp; refine hK _ ?_; clear hK K))
      refine fl_callv rfl (by kernel_rfl) rfl (by first | exact wanted_none rfl | (go_simp; done) | fail) (fun w_ => by first | (go_simp; exact ⟨rfl, rfl⟩) | (go_simp; rfl) | (go_simp; exact ⟨⟨rfl, rfl, rfl⟩, rfl⟩)) (fun w2_ hg_ hL_ => ?_) (fun K hK => ?_)
      · skip
        replace HB := Lib.hid (HB.out.grow' hg_)
        replace HM := Lib.hid (HM.out.grow hg_)
        exact (HSAME.out _ HB.out)
      go_simp
      refine hK _ ?_
      clear hK K
      repeat (first | (refine fl_calm rfl (by decide) (by first | exact wanted_none rfl | (go_simp; done) | fail) (fun w_ _ _ => by first | (go_simp; rfl) | (go_simp; done) | rfl) (fun K hK => ?_); go_simp; refine hK _ ?_; clear hK K) | (refine fl_skip rfl (by first | (go_simp; done) | fail) (fun K hK => ?_); go_simp; refine hK _ ?_; clear hK K) | (refine fl_load rfl (by decide) (by first | exact wanted_none rfl | (go_simp; done) | fail) rfl (by first | rfl | (go_simp; rfl)) (by kernel_rfl) (by first | exact c39 | exact c40 | exact c38) (fun K hK => ?_); go_simp; refine hK _ ?_; clear hK K) | (refine fl_loadb rfl (by decide) (by first | exact wanted_none rfl | (go_simp; done) | fail) rfl row_cmd HM.out.blk (by first | rfl | (go_simp; done) | rfl) HM.out.len (fun K hK => ?_); go_simp; refine hK _ ?_; clear hK K))
      clear c39 c40 c38
      refine fl_done ?_
      intro w2_ hg_ hL_
      replace HB := Lib.hid (HB.out.grow' hg_)
      replace HM := Lib.hid (HM.out.grow hg_)
      clear hg_ hL_
      try clear w_
      rename World => w_
      go_wp2_with fail
      go_meet
      case rel => exact ⟨by rw [HW.out]; try first | rfl | simp, Lib.hid ⟨HM.out, HB.out⟩⟩
    have y_r4 := lt_fe (a := ep) (b := 0) (by omega)
    rcases Int.lt_or_le (1099511627776 : Int) ep with r5 | r5
    · have HW := Lib.hid (show (!true || w3b) = true by rw [HW3.out]; simp [r5])
      try go_wp2_with fail
      repeat' (first | (with_reducible refine wp_flow (id := 3) [0,0,2,7,15,31,63,127,255,511,1023,2047,4095,8191,16383,32767,65535,131071,262143,524287,1048575,2097151,4194303,8388607,16777215,33554431,67108863,134217727,268435455,536870911,1073741823,2147483647] [0,0,3,3,0,0,0,0,0,0,0,0,0,0,0,0,0,0,0,0,0,0,0,0,0,0,0,0,0,0,0,0] (fun i => match i with | 2 => spV (.agg uv.toArray) | 3 => spV (.bool true) | _ => spV undef) (by kernel_rfl) (by kernel_rfl) ?_) | go_values | go_skip | go_guarded | go_step | go_upon | go_back)
      intro w_ hd_
      have hb_ := hd_.grow
      have HB_ := Lib.hid (HB.out.grow' hb_)
      clear HB
      have HB := HB_
      clear HB_
      have HM_ := Lib.hid (HM.out.grow hb_)
      clear HM
      have HM := HM_
      clear HM_
      clear hb_ hd_
      show wpL _ _ _ _ _ _ _ [0,1,2,3,4,5,6,7,8,9,10,11,12,13,14,15,16,17,18,19,20,21,22,23,24,25,26,27,28,29,30,31] _ _
      have c39 := HM.out.blk.at_ X39.out; have c40 := HM.out.blk.at_ X40.out; have c38 := HM.out.blk.at_ XA.out
      repeat (first | (refine fl_loadb rfl (by decide) (by first | exact wanted_none rfl | (go_simp; done) | fail) rfl row_cmd HM.out.blk (by first | rfl | (go_simp; done) | rfl) HM.out.len (fun K hK => ?_); go_simp; refine hK _ ?_; clear hK K) | (refine fl_skip rfl (by first | (go_simp; done) | fail) (fun K hK => ?_); go_simp; refine hK _ ?_; clear hK K) | (refine fl_calm rfl (by decide) (by first | exact wanted_none rfl | (go_simp; done) | fail) (fun w_ _ _ => by first | (go_simp; rfl) | (go_simp; done) | rfl) (fun K hK => ?_); go_simp; refine hK _ ?_; clear hK K))
      refine fl_callv rfl (by kernel_rfl) rfl (by first | exact wanted_none rfl | (go_simp; done) | fail) (fun w_ => by first | (go_simp; exact ⟨rfl, rfl⟩) | (go_simp; rfl) | (go_simp; exact ⟨⟨rfl, rfl, rfl⟩, rfl⟩)) (fun w2_ hg_ hL_ => ?_) (fun K hK => ?_)
      · skip
        replace HB := Lib.hid (HB.out.grow' hg_)
        replace HM := Lib.hid (HM.out.grow hg_)
        exact (HUS.out _)
      go_simp
      refine hK _ ?_
      clear hK K
      repeat (first | (refine fl_loadb rfl (by decide) (by first | exact wanted_none rfl | (go_simp; done) | fail) rfl row_cmd HM.out.blk (by first | rfl | (go_simp; done) | rfl) HM.out.len (fun K hK => ?_); go_simp; refine hK _ ?_; clear hK K) | (refine fl_skip rfl (by first | (go_simp; done) | fail) (fun K hK => ?_); go_simp; refine hK _ ?_; clear hK K) | (refine fl_calm rfl (by decide) (by first | exact wanted_none rfl | (go_simp; done) | fail) (fun w_ _ _ => by first | (go_simp; rfl) | (go_simp; done) | rfl) (fun K hK => ?_); go_simp; refine hK _ ?_; clear hK K))
      refine fl_callv rfl (by kernel_rfl) rfl (by first | exact wanted_none rfl | (go_simp; done) | fail) (fun w_ => by first | (go_simp; exact ⟨rfl, rfl⟩) | (go_simp; rfl) | (go_simp; exact ⟨⟨rfl, rfl, rfl⟩, rfl⟩)) (fun w2_ hg_ hL_ => ?_) (fun K hK => ?_)
      · skip
        replace HB := Lib.hid (HB.out.grow' hg_)
        replace HM := Lib.hid (HM.out.grow hg_)
        exact (HSAME.out _ HB.out)
      go_simp
      refine hK _ ?_
      clear hK K
      repeat (first | (refine fl_calm rfl (by decide) (by first | exact wanted_none rfl | (go_simp; done) | fail) (fun w_ _ _ => by first | (go_simp; rfl) | (go_simp; done) | rfl) (fun K hK => ?_); go_simp; refine hK _ ?_; clear hK K) | (refine fl_skip rfl (by first | (go_simp; done) | fail) (fun K hK => ?_); go_simp; refine hK _ ?_; clear hK K) | (refine fl_load rfl (by decide) (by first | exact wanted_none rfl | (go_simp; done) | fail) rfl (by first | rfl | (go_simp; rfl)) (by kernel_rfl) (by first | exact c39 | exact c40 | exact c38) (fun K hK => ?_); go_simp; refine hK _ ?_; clear hK K) | (refine fl_loadb rfl (by decide) (by first | exact wanted_none rfl | (go_simp; done) | fail) rfl row_cmd HM.out.blk (by first | rfl | (go_simp; done) | rfl) HM.out.len (fun K hK => ?_); go_simp; refine hK _ ?_; clear hK K))
      clear c39 c40 c38
      refine fl_done ?_
      intro w2_ hg_ hL_
      replace HB := Lib.hid (HB.out.grow' hg_)
      replace HM := Lib.hid (HM.out.grow hg_)
      clear hg_ hL_
      try clear w_
      rename World => w_
      go_wp2_with fail
      go_meet
      case rel => exact ⟨by rw [HW.out]; try first | rfl | simp, Lib.hid ⟨HM.out, HB.out⟩⟩
    have y_r5 := lt_fe (a := 1099511627776) (b := ep) (by omega)
    have HW := Lib.hid (show (!true || w3b) = false by rw [HW3.out]; simp [y_r1, y_r2, y_r3, y_r4, y_r5])
    try go_wp2_with fail
    repeat' (first | (with_reducible refine wp_flow (id := 3) [0,0,2,7,15,31,63,127,255,511,1023,2047,4095,8191,16383,32767,65535,131071,262143,524287,1048575,2097151,4194303,8388607,16777215,33554431,67108863,134217727,268435455,536870911,1073741823,2147483647] [0,0,3,3,0,0,0,0,0,0,0,0,0,0,0,0,0,0,0,0,0,0,0,0,0,0,0,0,0,0,0,0] (fun i => match i with | 2 => spV (.agg uv.toArray) | 3 => spV (.bool true) | _ => spV undef) (by kernel_rfl) (by kernel_rfl) ?_) | go_values | go_skip | go_guarded | go_step | go_upon | go_back)
    intro w_ hd_
    have hb_ := hd_.grow
    have HB_ := Lib.hid (HB.out.grow' hb_)
    clear HB
    have HB := HB_
    clear HB_
    have HM_ := Lib.hid (HM.out.grow hb_)
    clear HM
    have HM := HM_
    clear HM_
    clear hb_ hd_
    show wpL _ _ _ _ _ _ _ [0,1,2,3,4,5,6,7,8,9,10,11,12,13,14,15,16,17,18,19,20,21,22,23,24,25,26,27,28,29,30,31] _ _
    have c39 := HM.out.blk.at_ X39.out; have c40 := HM.out.blk.at_ X40.out; have c38 := HM.out.blk.at_ XA.out
    repeat (first | (refine fl_loadb rfl (by decide) (by first | exact wanted_none rfl | (go_simp; done) | fail) rfl row_cmd HM.out.blk (by first | rfl | (go_simp; done) | rfl) HM.out.len (fun K hK => ?_); go_simp; refine hK _ ?_; clear hK K) | (refine fl_skip rfl (by first | (go_simp; done) | fail) (fun K hK => ?_); go_simp; refine hK _ ?_; clear hK K) | (refine fl_calm rfl (by decide) (by first | exact wanted_none rfl | (go_simp; done) | fail) (fun w_ _ _ => by first | (go_simp; rfl) | (go_simp; done) | rfl) (fun K hK => ?_); go_simp; refine hK _ ?_; clear hK K))
    refine fl_callv rfl (by kernel_rfl) rfl (by first | exact wanted_none rfl | (go_simp; done) | fail) (fun w_ => by first | (go_simp; exact ⟨rfl, rfl⟩) | (go_simp; rfl) | (go_simp; exact ⟨⟨rfl, rfl, rfl⟩, rfl⟩)) (fun w2_ hg_ hL_ => ?_) (fun K hK => ?_)
    · skip
      replace HB := Lib.hid (HB.out.grow' hg_)
      replace HM := Lib.hid (HM.out.grow hg_)
      exact (HUS.out _)
    go_simp
    refine hK _ ?_
    clear hK K
    repeat (first | (refine fl_loadb rfl (by decide) (by first | exact wanted_none rfl | (go_simp; done) | fail) rfl row_cmd HM.out.blk (by first | rfl | (go_simp; done) | rfl) HM.out.len (fun K hK => ?_); go_simp; refine hK _ ?_; clear hK K) | (refine fl_skip rfl (by first | (go_simp; done) | fail) (fun K hK => ?_); go_simp; refine hK _ ?_; clear hK K) | (refine fl_calm rfl (by decide) (by first | exact wanted_none rfl | (go_simp; done) | fail) (fun w_ _ _ => by first | (go_simp; rfl) | (go_simp; done) | rfl) (fun K hK => ?_); go_simp; refine hK _ ?_; clear hK K))
    refine fl_callv rfl (by kernel_rfl) rfl (by first | exact wanted_none rfl | (go_simp; done) | fail) (fun w_ => by first | (go_simp; exact ⟨rfl, rfl⟩) | (go_simp; rfl) | (go_simp; exact ⟨⟨rfl, rfl, rfl⟩, rfl⟩)) (fun w2_ hg_ hL_ => ?_) (fun K hK => ?_)
    · skip
      replace HB := Lib.hid (HB.out.grow' hg_)
      replace HM := Lib.hid (HM.out.grow hg_)
      exact (HSAME.out _ HB.out)
    go_simp
    refine hK _ ?_
    clear hK K
    repeat (first | (refine fl_calm rfl (by decide) (by first | exact wanted_none rfl | (go_simp; done) | fail) (fun w_ _ _ => by first | (go_simp; rfl) | (go_simp; done) | rfl) (fun K hK => ?_); go_simp; refine hK _ ?_; clear hK K) | (refine fl_skip rfl (by first | (go_simp; done) | fail) (fun K hK => ?_); go_simp; refine hK _ ?_; clear hK K) | (refine fl_load rfl (by decide) (by first | exact wanted_none rfl | (go_simp; done) | fail) rfl (by first | rfl | (go_simp; rfl)) (by kernel_rfl) (by first | exact c39 | exact c40 | exact c38) (fun K hK => ?_); go_simp; refine hK _ ?_; clear hK K) | (refine fl_loadb rfl (by decide) (by first | exact wanted_none rfl | (go_simp; done) | fail) rfl row_cmd HM.out.blk (by first | rfl | (go_simp; done) | rfl) HM.out.len (fun K hK => ?_); go_simp; refine hK _ ?_; clear hK K))
    clear c39 c40 c38
    refine fl_done ?_
    intro w2_ hg_ hL_
    replace HB := Lib.hid (HB.out.grow' hg_)
    replace HM := Lib.hid (HM.out.grow hg_)
    clear hg_ hL_
    try clear w_
    rename World => w_
    go_wp2_with fail
    go_meet
    case rel => exact ⟨by rw [HW.out]; try first | rfl | simp, Lib.hid ⟨HM.out, HB.out⟩⟩
  case rest =>
  obtain ⟨rfl, hI⟩ := hcut
  clear HM HB c0 HUS HSAME
  have HM := Lib.hid hI.out.1; have HB := Lib.hid hI.out.2
  clear hI
  try clear w_
  rename World => w_
  obtain ⟨wb, hwb⟩ : ∃ z, z = (!sm || w3b) := ⟨_, rfl⟩
  rw [← hwb] at HCK2 ⊢
  clear hwb HW3
  have c0 := HM.out.blk.at_ X0.out; have c5 := HM.out.blk.at_ X5.out
  cases wb with
  | true =>
    have HN := Lib.hid (show ck = 1 by rw [HCK2.out]; simp)
    go_wp2_with fail
    go_ret
    exact ⟨by rw [HN.out]; try first | rfl | simp, HB.out⟩
  | false =>
  rcases Nat.lt_or_ge 16 n3 with h16 | h16
  · have HN := Lib.hid (show ck = 27 by rw [HCK2.out]; simp [h16])
    have y16 : (16 : Int) < (n3 : Int) := by omega
    go_wp2_with fail
    go_ret
    exact ⟨by rw [HN.out]; try first | rfl | simp, HB.out⟩
  have y16 := lt_fe (a := 16) (b := (n3 : Int)) (by omega)
  have HCK4 := Lib.hid (show ck = if hasTxK k && !decide (tk = 0) then tk else if bc then 16 else 0 by rw [HCK2.out]; simp; intro h; omega)
  clear HCK2
  go_wp2_with fail
  refine (HHT.out _).mono ?_
  clear c0 c5 y16
  rintro e w_ ⟨rfl, hb_⟩
  have HB_ := Lib.hid (HB.out.grow' hb_)
  clear HB
  have HB := HB_
  clear HB_
  have HM_ := Lib.hid (HM.out.grow hb_)
  clear HM
  have HM := HM_
  clear HM_
  clear hb_
  obtain ⟨hk_, hhk⟩ : ∃ z, z = hasTxK k := ⟨_, rfl⟩
  rw [← hhk] at HCK4 ⊢
  clear hhk HHT
  go_upto_if 52 with fail
  go_cut [53] from 54 to 58 (fun s53 wr => Hid (ck = if bc then 16 else 0) ∧ Hid (At wr g1 33 73 xv ∧ Below w.heap.size w wr))
  case first =>
    cases hk_ with
    | false =>
      have HN := Lib.hid (show ck = if bc then 16 else 0 by rw [HCK4.out]; simp)
      go_wp2_with fail
      go_meet
      case rel => exact ⟨HN, Lib.hid ⟨HM.out, HB.out⟩⟩
    | true =>
    have FX := Lib.hid (show ∀ j u, tv[j]? = some u → w_.cell? ⟨g1, 1 + j, none⟩ = some u from fun j u hu => HM.out.blk.at_ (XX.out j u hu))
    go_wp2_with (first | (with_reducible refine wpl_loadmw (o := ⟨some 54, _, _, _, _, _⟩) (by first | rfl | (go_simp; done) | fail) rfl row_tx FX.out rfl LX.out ?_))
    refine (HTK.out _ HB.out).mono ?_
    clear FX
    rintro e w_ ⟨rfl, hb_⟩
    have HB_ := Lib.hid (HB.out.grow' hb_)
    clear HB
    have HB := HB_
    clear HB_
    have HM_ := Lib.hid (HM.out.grow hb_)
    clear HM
    have HM := HM_
    clear HM_
    clear hb_
    by_cases ht : tk = 0
    · have HN := Lib.hid (show ck = if bc then 16 else 0 by rw [HCK4.out]; simp [ht])
      have y7 : (tk != 0) = false := by simpa using ht
      clear ht
      go_wp2_with fail
      go_meet
      case rel => exact ⟨HN, Lib.hid ⟨HM.out, HB.out⟩⟩
    · have HN := Lib.hid (show ck = tk by rw [HCK4.out]; simp [ht])
      have y7 : (tk != 0) = true := by simpa using ht
      go_wp2_with fail
      go_ret
      exact ⟨by rw [HN.out]; try first | rfl | simp, HB.out⟩
  case rest =>
  obtain ⟨HN5, hI⟩ := hcut
  clear HM HB
  have HM := Lib.hid hI.out.1; have HB := Lib.hid hI.out.2
  clear hI HCK4
  try clear w_
  rename World => w_
  have c5 := HM.out.blk.at_ X5.out
  go_wp2_with fail
  refine (HBC.out _ HB.out).mono ?_
  clear c5
  rintro e w_ ⟨rfl, hb_⟩
  have HB_ := Lib.hid (HB.out.grow' hb_)
  clear HB
  have HB := HB_
  clear HB_
  have HM_ := Lib.hid (HM.out.grow hb_)
  clear HM
  have HM := HM_
  clear HM_
  clear hb_
  cases bc with
  | true =>
    have HN := Lib.hid (show ck = 16 by rw [HN5.out]; simp)
    go_wp2_with fail
    go_ret
    exact ⟨by rw [HN.out]; try first | rfl | simp, HB.out⟩
  | false =>
    have HN := Lib.hid (show ck = 0 by rw [HN5.out]; simp)
    go_wp2_with fail
    go_ret
    exact ⟨by rw [HN.out]; try first | rfl | simp, HB.out⟩
end Go.Proofs.Ytobmldegjajocaa

/- The contract of seisinref24.Put. Printed by mkcmdh.py. -/
import Derived.Test.YtobmldegjajocaaCommandFormsT30
import Derived.Test.YtobmldegjajocaaCommandFormsT34
import Derived.Test.YtobmldegjajocaaCommandFormsT35
import Derived.Test.YtobmldegjajocaaCommandFormsT36
import Derived.Test.YtobmldegjajocaaCommandFormsT15
set_option linter.unusedSimpArgs false
/- The contract of seisinref24.Put. Printed by mkcmdh.py. -/
namespace Go.Proofs.Ytobmldegjajocaa
open Go.RowKit Go.Shelf
set_option linter.unusedVariables false
theorem rnum24_any (N : Int) (w : World) (h0 : 0 ≤ N) (hN : N ≤ 9223372036854775807) :
    Calls Try.prog 31 #[.int .i64 N] w fun e w' => ∃ A c, e = .returned (.slice A (numB N.toNat).length c) ∧ OwnAt w' w.heap.size A (numB N.toNat).length c ((numB N.toNat).map B) ∧ (numB N.toNat).length ≤ c ∧ Grow w w' := by
  have HC := Lib.hid (rnum_any N.toNat w (by omega))
  rw [Int.toNat_of_nonneg h0] at HC
  have qk := convI (k := N) h0 (by omega)
  go_enter Try.func31, Try.ntmps31
  go_wp2_with fail
  refine HC.out.mono ?_
  rintro e w2_ ⟨A, c, rfl, ho, hc, hb⟩
  have HO := Lib.hid ho; have HCC := Lib.hid hc; have HB := Lib.hid hb
  clear ho hc hb qk
  go_wp2_with fail
  go_ret
  exact ⟨A, c, rfl, HO.out, HCC.out, HB.out⟩
theorem rnumU_any (N : Int) (w : World) (h0 : 0 ≤ N) (hN : N ≤ 18446744073709551615) :
    Calls Try.prog 33 #[.int .u64 N] w fun e w' => ∃ A c, e = .returned (.slice A (numB N.toNat).length c) ∧ OwnAt w' w.heap.size A (numB N.toNat).length c ((numB N.toNat).map B) ∧ (numB N.toNat).length ≤ c ∧ Grow w w' := by
  have := rnum_any N.toNat w (by omega)
  rw [Int.toNat_of_nonneg h0] at this; exact this
theorem rnum24N_any (N : Nat) (w : World) (hN : N ≤ 1000000) :
    Calls Try.prog 31 #[.int .i64 (N : Int)] w fun e w' => ∃ A c, e = .returned (.slice A (numB N).length c) ∧ OwnAt w' w.heap.size A (numB N).length c ((numB N).map B) ∧ (numB N).length ≤ c ∧ Grow w w' := by
  have := rnum24_any (N : Int) w (by omega) (by omega)
  rwa [Int.toNat_natCast] at this
theorem below_refl' (Z : Nat) (w : World) : Below Z w w := Below.refl _ _
theorem below_trans' (Z : Nat) (a b c : World) (h : Below Z a b) (k : Below Z b c) : Below Z a c := h.trans k
theorem below_app {w w3 : World} {Z n c : Nat} {A : Option Addr} {xs : List Value} (ho : OwnAt w Z A n c xs) (hz : Z ≤ w.heap.size) (hg : w.grownBy w3 (A.map Addr.block)) : Below Z w w3 :=
  below_grown (Below.refl _ _) hg hz (fun g hg' => by have := own_from ho g hg'; omega)
theorem own_far {w w3 : World} {base n c m c2 z : Nat} {A T : Option Addr} {xs ys : List Value} (ht : OwnAt w base T m c2 ys) (ho : OwnAt w z A n c xs) (hne : ∀ b, A.map Addr.block = some b → b < base) (hg : w.grownBy w3 (A.map Addr.block)) : OwnAt w3 base T m c2 ys :=
  own_kept ht hg (fun g e h => by have h1 := own_from ht g (by rw [e]; rfl); have h2 := hne g h.symm; omega)
set_option maxRecDepth 100000 in
set_option maxHeartbeats 16000000 in
theorem rcmput_any {q : CW} {m : Cmd} (w : World) (h : CmdAt w q m) (hs : SmallC m) :
    Calls Try.prog 10 #[.agg (q.vs m).toArray] w fun e w' => ∃ A' c', e = .returned (.tuple #[.slice A' (formC m).1.length c', .int .i64 (formC m).2]) ∧ OwnAt w' w.heap.size A' (formC m).1.length c' ((formC m).1.map B) ∧ (formC m).1.length ≤ c' ∧ Grow w w' := by
  have HXC := Lib.hid (vs_cl (q := q) h.ok)
  have X0 := Lib.hid (vs_kind q m); have X5 := Lib.hid (vs_certs q m)
  have X39 := Lib.hid (vs_serial (q := q) h.ok.2.2.2.1); have X40 := Lib.hid (vs_epoch (q := q) h.ok.2.2.2.1)
  have XA := Lib.hid (show (q.vs m)[38]? = some (.int .u64 m.dest.amount) from vs_to (j := 32) (by unfold outV; rw [List.getElem?_append_right (by simp [h.ok.2.2.2.1.1])]; simp [h.ok.2.2.2.1.1]))
  have XO := Lib.hid (fun j u (hu : (m.dest.owner.map B)[j]? = some u) => vs_to (q := q) (m := m) (j := j) (u := u) (by unfold outV; rw [List.getElem?_append_left (List.getElem?_eq_some_iff.1 hu).1]; exact hu))
  have XI := Lib.hid (fun j u (hu : (m.id.map B)[j]? = some u) => vs_id (q := q) h.ok.2.2.2.1 hu)
  have XX := Lib.hid (fun j u (hu : (q.tv m)[j]? = some u) => vs_tx hu)
  have LX := Lib.hid (show (q.tv m).length = 4 from rfl)
  have HDO := Lib.hid (dig_map h.ok.2.2.2.1.1); have HDI := Lib.hid (dig_map h.ok.2.2.2.2.2.2)
  have HAM := Lib.hid (show 0 ≤ m.dest.amount ∧ m.dest.amount ≤ 18446744073709551615 from by have := h.ok.2.2.2.1.2; unfold U64 at this; omega)
  have hn3 : m.certs.length = q.n3 := h.n3
  have HCK := Lib.hid (fun w' (hg : Grow w w') => rcmcheck_any w' (h.grow hg) hs)
  have HTP := Lib.hid (show hasTxK m.kind = true → checkC m = 0 → ∀ (w' : World) (hg : Grow w w'), Calls Try.prog 34 #[.agg (q.tv m).toArray] w' fun e w'' => ∃ A' c', e = .returned (.slice A' (putTB m.tx).length c') ∧ OwnAt w'' w'.heap.size A' (putTB m.tx).length c' ((putTB m.tx).map B) ∧ (putTB m.tx).length ≤ c' ∧ Grow w' w'' from fun h1 h2 w' hg => by
    obtain ⟨r1, r2, r3, r4⟩ := right_of ((checkC_zero h2).2.2.2.1 h1)
    have := rtputo_any w' (h.ins.grow hg) (h.outs.grow hg) (by rw [← h.n1]; exact r1) (by rw [← h.n2]; exact r2) h.ok.2.1.2.2.1 r3 (fun p hp => r4 p.2 (by rw [h.insE]; exact List.mem_map_of_mem hp))
    rw [h.tx] at this; exact this)
  have HCA := Lib.hid (fun (w' : World) (hg : Grow w w') => h.certs.grow hg)
  have HCE := Lib.hid h.certsE
  have HPL := Lib.hid (show ∀ x ∈ m.certs, x.path.length ≤ 1000 from hs.2.2.2.2)
  have HZ1 := Lib.hid (show checkC m = 0 → _ from fun e => checkC_zero (m := m) e)
  have HTB := Lib.hid (show hasTxK m.kind = true → checkC m = 0 → (putTB m.tx).length ≤ 3000 from fun h1 h2 => putTB_le h.ok.2.1 ((checkC_zero h2).2.2.2.1 h1))
  have HCT := Lib.hid (show checkC m = 0 → ∀ x ∈ m.certs, (certText x).length ≤ 2009 from fun h1 x hx => certText_le (h.ok.2.2.1 x hx) ((checkC_zero h1).2.2.2.2.1 x hx))
  have F1 := Lib.hid (show checkC m ≠ 0 → formC m = ([], checkC m) from fun e => by unfold formC; rw [if_pos e])
  have F2 := Lib.hid (show checkC m = 0 → 8192 < (putCm m).length → formC m = ([], 4) from fun e e2 => by unfold formC; rw [if_neg (by simp [e]), if_pos e2])
  have F3 := Lib.hid (show checkC m = 0 → ¬ 8192 < (putCm m).length → formC m = (putCm m, 0) from fun e e2 => by unfold formC; rw [if_neg (by simp [e]), if_neg e2])
  obtain ⟨b0, hb0⟩ : ∃ z, z = numB m.kind.toNat := ⟨_, rfl⟩
  obtain ⟨b1, hb1⟩ : ∃ z, z = b0 ++ (if m.kind = 1 then numB m.serial.toNat ++ m.dest.owner ++ numB m.dest.amount.toNat else []) := ⟨_, rfl⟩
  obtain ⟨b2, hb2⟩ : ∃ z, z = b1 ++ txPart m := ⟨_, rfl⟩
  obtain ⟨b3, hb3⟩ : ∃ z, z = b2 ++ certPart m := ⟨_, rfl⟩
  obtain ⟨b4, hb4⟩ : ∃ z, z = b3 ++ (if m.kind = 7 then numB m.epoch.toNat else []) := ⟨_, rfl⟩
  have HPC := Lib.hid (show putCm m = b4 ++ (if m.kind = 9 then m.id else []) by rw [hb4, hb3, hb2, hb1, hb0]; rfl)
  have B0 := Lib.hid hb0
  have T1 := Lib.hid (show m.kind = 1 → b1 = b0 ++ numB m.serial.toNat ++ m.dest.owner ++ numB m.dest.amount.toNat from fun e => by rw [hb1, if_pos e]; simp)
  have N1 := Lib.hid (show m.kind ≠ 1 → b1 = b0 from fun e => by rw [hb1, if_neg e]; simp)
  have T2 := Lib.hid (show hasTxK m.kind = true → b2 = b1 ++ numB (putTB m.tx).length ++ putTB m.tx from fun e => by rw [hb2]; unfold txPart; rw [if_pos e]; simp)
  have N2 := Lib.hid (show hasTxK m.kind = false → b2 = b1 from fun e => by rw [hb2]; unfold txPart; rw [e]; simp)
  have T3 := Lib.hid (show hasCK m.kind = true → b3 = b2 ++ numB q.n3 ++ m.certs.flatMap certText from fun e => by rw [hb3, ← hn3]; unfold certPart; rw [if_pos e]; simp)
  have N3 := Lib.hid (show hasCK m.kind = false → b3 = b2 from fun e => by rw [hb3]; unfold certPart; rw [e]; simp)
  have T4 := Lib.hid (show m.kind = 7 → b4 = b3 ++ numB m.epoch.toNat from fun e => by rw [hb4, if_pos e])
  have N4 := Lib.hid (show m.kind ≠ 7 → b4 = b3 from fun e => by rw [hb4, if_neg e]; simp)
  have T5 := Lib.hid (show m.kind = 9 → putCm m = b4 ++ m.id from fun e => by rw [HPC.out, if_pos e])
  have N5 := Lib.hid (show m.kind ≠ 9 → putCm m = b4 from fun e => by rw [HPC.out, if_neg e]; simp)
  clear hb0 hb1 hb2 hb3 hb4 HPC
  obtain ⟨ck, hck⟩ : ∃ z, z = checkC m := ⟨_, rfl⟩
  obtain ⟨pc, hpc⟩ : ∃ z, z = putCm m := ⟨_, rfl⟩
  obtain ⟨fm, hfm⟩ : ∃ z, z = formC m := ⟨_, rfl⟩
  obtain ⟨tb, htb⟩ : ∃ z, z = putTB m.tx := ⟨_, rfl⟩
  rw [← hck] at HCK HZ1 HCT HTB HTP F1 F2 F3
  rw [← hpc] at F2 F3 T5 N5
  rw [← hfm] at F1 F2 F3 ⊢
  rw [← htb] at HTP HTB T2
  obtain ⟨tl, htl⟩ : ∃ z, z = tb.length := ⟨_, rfl⟩
  rw [← htl] at HTP HTB T2
  have HATB := Lib.hid (all_bytes tb)
  obtain ⟨xv, hxv⟩ : ∃ z, z = q.vs m := ⟨_, rfl⟩
  obtain ⟨tv, htv⟩ : ∃ z, z = q.tv m := ⟨_, rfl⟩
  obtain ⟨crs, hcrs⟩ : ∃ z, z = m.certs := ⟨_, rfl⟩
  rw [← hxv] at HXC X0 X5 X39 X40 XA XO XI XX HCK ⊢
  rw [← htv] at XX LX HTP
  have HCL := Lib.hid (show crs.length = q.n3 by rw [hcrs]; exact hn3)
  have HC16 := Lib.hid (show ck = 0 → q.n3 ≤ 16 from fun e => by rw [← hn3]; exact (HZ1.out e).2.2.1)
  rw [← hcrs] at HCE HPL HCT T3
  have HRG := Lib.hid (show ck = 0 → (1 ≤ m.kind ∧ m.kind ≤ 9) ∧ (0 ≤ m.serial ∧ m.serial ≤ 1099511627776 ∧ 0 ≤ m.epoch ∧ m.epoch ≤ 1099511627776) from fun e => ⟨(HZ1.out e).1, by have := (HZ1.out e).2.1; omega⟩)
  clear HZ1
  obtain ⟨own, hown⟩ : ∃ z, z = m.dest.owner := ⟨_, rfl⟩
  obtain ⟨mid, hmid⟩ : ∃ z, z = m.id := ⟨_, rfl⟩
  have HAO := Lib.hid (all_bytes own); have HAI := Lib.hid (all_bytes mid)
  rw [← hown] at XO HDO T1; rw [← hmid] at XI HDI T5
  obtain ⟨k, hk⟩ : ∃ z, z = m.kind := ⟨_, rfl⟩
  obtain ⟨se, hse⟩ : ∃ z, z = m.serial := ⟨_, rfl⟩
  obtain ⟨ep, hep⟩ : ∃ z, z = m.epoch := ⟨_, rfl⟩
  obtain ⟨am, ham⟩ : ∃ z, z = m.dest.amount := ⟨_, rfl⟩
  rw [← hk] at X0 HTB HTP HRG B0 T1 N1 T2 N2 T3 N3 T4 N4 T5 N5; rw [← hse] at X39 HRG T1; rw [← hep] at X40 HRG T4; rw [← ham] at XA HAM T1
  obtain ⟨A, n, c, A2, n2, c2, A3, n3, c3, l, cl⟩ := q
  simp only at X5 HCA HCE T3 HCL HC16
  obtain ⟨ht, hht⟩ : ∃ z, z = hasTxK k := ⟨_, rfl⟩
  obtain ⟨hc, hhc⟩ : ∃ z, z = hasCK k := ⟨_, rfl⟩
  have HHT := Lib.hid hht; have HHC := Lib.hid hhc
  rw [← hht] at HTB HTP T2 N2; rw [← hhc] at T3 N3
  obtain ⟨od, hod⟩ : ∃ z, z = own.map B := ⟨_, rfl⟩
  obtain ⟨md, hmd⟩ : ∃ z, z = mid.map B := ⟨_, rfl⟩
  rw [← hod] at XO HDO; rw [← hmd] at XI HDI
  clear h hs hn3 hck hpc hfm htb htl hxv htv hcrs hown hmid hk hse hep ham hht hhc hod hmd
  obtain ⟨w_, hw⟩ : ∃ x, x = w := ⟨_, rfl⟩
  have HB := Lib.hid (show Below w.heap.size w w_ by rw [hw]; exact Below.refl _ _)
  suffices H : Calls Try.prog 10 #[.agg xv.toArray] w_ fun e w' => ∃ A' c', e = .returned (.tuple #[.slice A' fm.1.length c', .int .i64 fm.2]) ∧ OwnAt w' w.heap.size A' fm.1.length c' (fm.1.map B) ∧ fm.1.length ≤ c' ∧ Grow w w' by rw [hw] at H; exact H
  clear hw
  go_enter Try.func10, Try.ntmps10
  go_wp2_with (first | (with_reducible refine wpl_box (o := ⟨some 1, _, _, _, _, _⟩) rfl rfl rfl ?_))
  intro w2_ hb2_ hb_ hsz2_
  have HX_ := Lib.hid (at_mk hb2_ HXC.out.len)
  clear hb2_ hsz2_
  have HG_ := Lib.hid HB.out.size
  have HB_ := Lib.hid (HB.out.grow' hb_)
  clear HB
  have HB := HB_
  clear HB_
  generalize hg_ : w_.heap.size = g1 at HX_ HG_ ⊢
  clear hg_
  have HX_g := HG_
  clear HG_
  have HX := HX_
  clear hb_ HX_
  try clear w_
  rename World => w_
  go_wp2_with (first | (with_reducible refine wpl_loadb (o := ⟨some 9, _, _, _, _, _⟩) rfl rfl row_cmd HX.out.blk rfl HX.out.len ?_))
  refine (HCK.out _ HB.out).mono ?_
  rintro e w_ ⟨rfl, hb_⟩
  have HB_ := Lib.hid (HB.out.grow' hb_)
  clear HB
  have HB := HB_
  clear HB_
  have HX_ := Lib.hid (HX.out.grow hb_)
  clear HX
  have HX := HX_
  clear HX_
  clear hb_
  by_cases h0 : ck = 0
  rotate_left
  · have d0 : (ck != 0) = true := by simpa using h0
    have HNI := Lib.hid (F1.out h0)
    clear h0
    go_wp2_with fail
    go_ret2
    exact ⟨none, 0, by rw [HNI.out]; rfl, by rw [HNI.out]; exact World.ownsRow_nil _ _ _ _, by rw [HNI.out]; exact Nat.le_refl _, HB.out⟩
  obtain ⟨⟨hk1, hk9⟩, hse0, hse1, hep0, hep1⟩ := HRG.out h0
  have hn16 : n3 ≤ 16 := HC16.out h0
  have HCT2 := Lib.hid (HCT.out h0)
  have HTB2 := Lib.hid (fun e => HTB.out e h0); have HTP2 := Lib.hid (fun e => HTP.out e h0)
  have F22 := Lib.hid (F2.out h0); have F32 := Lib.hid (F3.out h0)
  have d0 : (ck != 0) = false := by simpa using h0
  clear HCK HRG HC16 HCT HTB HTP F1 F2 F3 h0
  have c0 := HX.out.blk.at_ X0.out
  go_wp2_with fail
  clear d0
  rename World => w6
  obtain ⟨Z, hZ⟩ : ∃ z, z = w6.heap.size := ⟨_, rfl⟩
  have HZ := Lib.hid hZ
  clear hZ
  refine (rnum24_any k _ (by omega) (by omega)).mono ?_
  rintro e w_ ⟨A5, c5, rfl, ho_, hc_, hb_⟩
  have hL5 : (numB k.toNat).length ≤ 9 := numB_le (by omega)
  rw [← B0.out] at ho_ hL5 ⊢
  obtain ⟨L5, hl5⟩ : ∃ z, z = b0.length := ⟨_, rfl⟩
  have HO := Lib.hid (show OwnAt w_ Z A5 L5 c5 (b0.map B) by rw [HZ.out, hl5]; exact ho_)
  have HG := Lib.hid (show Grow w6 w_ from hb_)
  rw [← hl5] at hL5 ⊢
  clear ho_ hc_ hb_ hl5 c0
  have HXG := Lib.hid (show ∀ w', Grow w6 w' → At w' g1 33 73 xv from fun w' hg => HX.out.grow hg)
  have HBG := Lib.hid (show ∀ w', Grow w6 w' → Grow w w' from fun w' hg => below_chain HB.out hg)
  have HGZ := Lib.hid (show g1 < Z by rw [HZ.out]; exact HX.out.lt)
  clear HX HB
  have c0 := (HXG.out _ HG.out).blk.at_ X0.out
  obtain ⟨e1, he_⟩ : ∃ z : Bool, (k == 1) = z := ⟨_, rfl⟩
  have HE_ := Lib.hid he_
  go_upto_if 19 with fail
  go_cut [5] from 20 to 35 (fun s5 wr => ∃ A5 L5 c5, s5 = .slice A5 L5 c5 ∧ L5 ≤ 80 ∧ Hid (OwnAt wr Z A5 L5 c5 (b1.map B)) ∧ Hid (Grow w6 wr))
  case first =>
    clear he_ c0
    cases e1 with
    | false =>
      have HQ := Lib.hid (N1.out (by have := HE_.out; simpa using this))
      have HFIN := Lib.hid (show OwnAt w_ Z A5 L5 c5 (b1.map B) by rw [HQ.out]; exact HO.out)
      go_wp2_with fail
      go_meet
      case rel => exact ⟨A5, L5, c5, rfl, by omega, HFIN, HG⟩
    | true =>
      have HQ := Lib.hid (T1.out (by have := HE_.out; simpa using this))
      have HB := Lib.hid (HBG.out _ HG.out); have HGW := Lib.hid (show Gw w6 w_ from HG.out)
      try go_wp2_with fail
      repeat' (first | (with_reducible refine wp_plan (id := 6) (fun a b => (Below Z a b)) [0,0,2,4,4,0,0,1,3,3,0] (.get 0 (.get 1 (.get 2 (.get 5 (.get 6 (.get 7 (.act 3 (.act 4 (.act 8 (.act 9 (.get 10 .done))))))))))) (by kernel_rfl) (by kernel_rfl) (below_refl' Z) (below_trans' Z) ?_) | go_values | go_skip | go_guarded | go_step | go_upon | go_back)
      intro w_ hd_
      have hb_ := hd_.grow
      have HB_ := Lib.hid (HB.out.grow' hb_)
      clear HB
      have HB := HB_
      clear HB_
      have HO_ := Lib.hid (HO.out.grow hb_)
      clear HO
      have HO := HO_
      clear HO_
      have HGW_ := Lib.hid (HGW.out.grow hb_)
      clear HGW
      have HGW := HGW_
      clear HGW_
      clear hb_ hd_
      clear HG HB
      have HG := Lib.hid (show Grow w6 w_ from HGW.out)
      clear HGW
      repeat (first | (refine pl_calm rfl rfl (by first | exact wanted_none rfl | (go_simp; done) | rfl) (fun w_ => by first | (go_simp; rfl) | (go_simp; done) | rfl) (fun K hK => ?_); go_simp; refine hK _ _ ?_; clear hK K) | (refine pl_skip rfl (by first | (go_simp; done) | rfl) (fun K hK => ?_); go_simp; refine hK _ _ ?_; clear hK K) | (refine pl_skipa rfl (by first | (go_simp; done) | rfl) (fun K hK => ?_); go_simp; refine hK _ _ ?_; clear hK K))
      refine pl_now rfl rfl (by exact wanted_none rfl) (v := .int .i64 se) (by have c9 := (HXG.out _ HG.out).blk.at_ X39.out; first | (go_simp; rfl) | (go_simp; done)) (fun K hK => ?_)
      go_simp
      refine hK _ _ ?_
      clear hK K
      repeat (first | (refine pl_calm rfl rfl (by first | exact wanted_none rfl | (go_simp; done) | rfl) (fun w_ => by first | (go_simp; rfl) | (go_simp; done) | rfl) (fun K hK => ?_); go_simp; refine hK _ _ ?_; clear hK K) | (refine pl_skip rfl (by first | (go_simp; done) | rfl) (fun K hK => ?_); go_simp; refine hK _ _ ?_; clear hK K) | (refine pl_skipa rfl (by first | (go_simp; done) | rfl) (fun K hK => ?_); go_simp; refine hK _ _ ?_; clear hK K))
      refine pl_loadmf rfl (by decide) (by exact wanted_none rfl) rfl row_aid (below_refl' Z _) (fun w3_ hf_ j u hu => ((HXG.out _ HG.out).blk.below hf_ HGZ.out).at_ (XO.out j u hu)) (by first | rfl | (go_simp; done) | rfl) HDO.out.len (fun K hK => ?_)
      go_simp
      refine hK _ _ ?_
      clear hK K
      refine pl_act rfl (by exact wanted_none rfl) (fun K hK => ?_)
      go_wp2_with fail
      refine (rnum24_any se _ (by omega) (by omega)).mono ?_
      rintro e w2_ ⟨A7, c7, rfl, ho_, hc_, hb_⟩
      obtain ⟨nb, hnb⟩ : ∃ z, z = numB se.toNat := ⟨_, rfl⟩
      have HNB := Lib.hid hnb
      have hm_ : nb.length ≤ 9 := by rw [hnb]; exact numB_le (by omega)
      rw [← hnb] at ho_ ⊢
      obtain ⟨m_, hm2_⟩ : ∃ z, z = nb.length := ⟨_, rfl⟩
      rw [← hm2_] at ho_ hm_ ⊢
      have HSL := Lib.hid (Sl.of_own ho_); have HON := Lib.hid (all_bytes nb)
      have HO_ := Lib.hid (show OwnAt w2_ Z A5 L5 c5 (b0.map B) from HO.out.grow hb_)
      have HG_ := Lib.hid (HG.out.grow' hb_)
      have HFU := Lib.hid (hb_.mono (show Z ≤ w_.heap.size by rw [HZ.out]; exact HG.out.size))
      clear ho_ hc_ hb_ hnb hm2_ HO HG 
      go_wp2_with fail
      refine hK _ _ (fun _ => HFU.out) ?_
      clear hK K HFU
      have HO := HO_; have HG := HG_
      clear HO_ HG_
      try clear w_
      rename World => w_
      have HZB := Lib.hid (show Z ≤ w_.heap.size by rw [HZ.out]; exact HG.out.size)
      refine pl_act rfl (by exact wanted_none rfl) (fun K hK => ?_)
      show wpList _ _ _ [⟨some _, .call _, _, _, _, _⟩] _ _
      go_wp2_with (at_builtin; refine wpl_apps rfl rfl el_u8 HO.out rfl HSL.out rfl HON.out (by omega) (by omega) HZB.out ?_)
      intro A5 c5 w3_ ho_ hg_ hA_
      have hst := acc_step HG.out HZ.out HO.out ho_ hg_
      have HFU := Lib.hid (below_app HO.out HZB.out hg_)
      obtain ⟨L5, hL6_⟩ : ∃ k, k = L5 + m_ := ⟨_, rfl⟩
      obtain ⟨ac1, hac_⟩ : ∃ a, a = b0 ++ nb := ⟨_, rfl⟩
      have hb6_ : L5 ≤ 20 := by omega
      rw [← hL6_, ← hac_] at hst
      rw [← hL6_]
      have Hac1 := Lib.hid hac_
      have HO_ := Lib.hid hst.1; have HG_ := Lib.hid hst.2
      clear ho_ hg_ hA_ hst hL6_ hac_ HO HG HSL HZB hL5
      have hL5 := hb6_
      clear hb6_
      go_wp2_with fail
      refine hK _ _ (fun _ => HFU.out) ?_
      clear hK K HFU
      have HO := HO_; have HG := HG_
      clear HO_ HG_
      try clear w_
      rename World => w_
      obtain ⟨nb1, hnb1⟩ : ∃ z, z = nb := ⟨_, rfl⟩
      refine pl_act rfl (by exact wanted_none rfl) (fun K hK => ?_)
      go_wp2_with fail
      refine (tbytes_any HDO.out _).mono ?_
      rintro e w2_ ⟨A7, c7, rfl, hs_, hc_, hb_⟩
      have HSL := Lib.hid hs_
      have HO_ := Lib.hid (show OwnAt w2_ Z A5 L5 c5 (ac1.map B) from HO.out.grow hb_)
      have HG_ := Lib.hid (HG.out.grow' hb_)
      have HFU := Lib.hid (Below.mono hb_ (show Z ≤ w_.heap.size by rw [HZ.out]; exact HG.out.size))
      clear hs_ hc_ hb_ HO HG hnb1
      go_wp2_with fail
      refine hK _ _ (fun _ => HFU.out) ?_
      clear hK K HFU
      have HO := HO_; have HG := HG_
      clear HO_ HG_
      try clear w_
      rename World => w_
      have HZB := Lib.hid (show Z ≤ w_.heap.size by rw [HZ.out]; exact HG.out.size)
      refine pl_act rfl (by exact wanted_none rfl) (fun K hK => ?_)
      show wpList _ _ _ [⟨some _, .call _, _, _, _, _⟩] _ _
      go_wp2_with (at_builtin; refine wpl_apps rfl rfl el_u8 HO.out rfl HSL.out rfl HAO.out (by omega) (by omega) HZB.out ?_)
      intro A5 c5 w3_ ho_ hg_ hA_
      have hst := acc_step HG.out HZ.out HO.out ho_ hg_
      have HFU := Lib.hid (below_app HO.out HZB.out hg_)
      obtain ⟨L5, hL6_⟩ : ∃ k, k = L5 + 32 := ⟨_, rfl⟩
      obtain ⟨ac2, hac_⟩ : ∃ a, a = ac1 ++ own := ⟨_, rfl⟩
      have hb6_ : L5 ≤ 60 := by omega
      rw [← hL6_, ← hac_] at hst
      rw [← hL6_]
      have Hac2 := Lib.hid hac_
      have HO_ := Lib.hid hst.1; have HG_ := Lib.hid hst.2
      clear ho_ hg_ hA_ hst hL6_ hac_ HO HG HSL HZB hL5
      have hL5 := hb6_
      clear hb6_
      go_wp2_with fail
      refine hK _ _ (fun _ => HFU.out) ?_
      clear hK K HFU
      have HO := HO_; have HG := HG_
      clear HO_ HG_
      try clear w_
      rename World => w_
      repeat (first | (refine pl_calm rfl rfl (by first | exact wanted_none rfl | (go_simp; done) | rfl) (fun w_ => by first | (go_simp; rfl) | (go_simp; done) | rfl) (fun K hK => ?_); go_simp; refine hK _ _ ?_; clear hK K) | (refine pl_skip rfl (by first | (go_simp; done) | rfl) (fun K hK => ?_); go_simp; refine hK _ _ ?_; clear hK K) | (refine pl_skipa rfl (by first | (go_simp; done) | rfl) (fun K hK => ?_); go_simp; refine hK _ _ ?_; clear hK K))
      refine pl_done ?_
      have ham2 := HAM.out.2
      have HNB1 := HNB
      clear HNB
      have c38 := (HXG.out _ HG.out).blk.at_ XA.out
      go_wp2_with fail
      refine (rnumU_any am _ HAM.out.1 HAM.out.2).mono ?_
      rintro e w2_ ⟨A7, c7, rfl, ho_, hc_, hb_⟩
      obtain ⟨nb, hnb⟩ : ∃ z, z = numB am.toNat := ⟨_, rfl⟩
      have HNB := Lib.hid hnb
      have hm_ : nb.length ≤ 9 := by rw [hnb]; exact numB_le (by omega)
      rw [← hnb] at ho_ ⊢
      obtain ⟨m_, hm2_⟩ : ∃ z, z = nb.length := ⟨_, rfl⟩
      rw [← hm2_] at ho_ hm_ ⊢
      have HSL := Lib.hid (Sl.of_own ho_); have HON := Lib.hid (all_bytes nb)
      have HO_ := Lib.hid (show OwnAt w2_ Z A5 L5 c5 (ac2.map B) from HO.out.grow hb_)
      have HG_ := Lib.hid (HG.out.grow' hb_)
      clear ho_ hc_ hb_ hnb hm2_ HO HG c38
      have HO := HO_; have HG := HG_
      clear HO_ HG_
      try clear w_
      rename World => w_
      have HZB := Lib.hid (show Z ≤ w_.heap.size by rw [HZ.out]; exact HG.out.size)
      go_wp2_with (at_builtin; refine wpl_apps rfl rfl el_u8 HO.out rfl HSL.out rfl HON.out (by omega) (by omega) HZB.out ?_)
      intro A5 c5 w3_ ho_ hg_ hA_
      have hst := acc_step HG.out HZ.out HO.out ho_ hg_
      obtain ⟨L5, hL6_⟩ : ∃ k, k = L5 + m_ := ⟨_, rfl⟩
      obtain ⟨ac3, hac_⟩ : ∃ a, a = ac2 ++ nb := ⟨_, rfl⟩
      have hb6_ : L5 ≤ 70 := by omega
      rw [← hL6_, ← hac_] at hst
      rw [← hL6_]
      have Hac3 := Lib.hid hac_
      have HO_ := Lib.hid hst.1; have HG_ := Lib.hid hst.2
      clear ho_ hg_ hA_ hst hL6_ hac_ HO HG HSL HZB hL5
      have hL5 := hb6_
      clear hb6_
      have HO := HO_; have HG := HG_
      clear HO_ HG_
      try clear w_
      rename World => w_
      have HFIN := Lib.hid (show OwnAt w_ Z A5 L5 c5 (b1.map B) by rw [HQ.out, ← HNB1.out, ← HNB.out, ← Hac1.out, ← Hac2.out, ← Hac3.out]; exact HO.out)
      go_wp2_with fail
      go_meet
      case rel => exact ⟨A5, L5, c5, rfl, by omega, HFIN, HG⟩
  case rest =>
  obtain ⟨A5, L5, c5, rfl, hL5, hO, hG⟩ := hcut
  clear HO HG
  have HO := Lib.hid hO.out; have HG := Lib.hid hG.out
  clear hO hG
  try clear w_
  rename World => w_
  clear he_ c0 HE_
  have c0 := (HXG.out _ HG.out).blk.at_ X0.out
  go_upto_region 8 with fail
  go_cut [43] from 36 to 42 (fun s_ wr => s_ = .bool ht ∧ Hid (OwnAt wr Z A5 L5 c5 (b1.map B)) ∧ Hid (Grow w6 wr))
  case first =>
    rcases Int.lt_or_le k 2 with hk2 | hk2
    · have HH := Lib.hid (show ht = false by rw [HHT.out]; unfold hasTxK; simp; omega)
      have y2 : (2 ≤ k) = False := eq_false (by omega)
      go_wp2_with fail
      go_meet
      case rel => exact ⟨by rw [HH.out], HO, HG⟩
    rcases Int.lt_or_le 6 k with hk6 | hk6
    · have HH := Lib.hid (show ht = false by rw [HHT.out]; unfold hasTxK; simp; omega)
      have y6 : (k ≤ 6) = False := eq_false (by omega)
      go_wp2_with fail
      go_meet
      case rel => exact ⟨by rw [HH.out], HO, HG⟩
    have HH := Lib.hid (show ht = true by rw [HHT.out]; unfold hasTxK; simp; omega)
    go_wp2_with fail
    go_meet
    case rel => exact ⟨by rw [HH.out], HO, HG⟩
  case rest =>
  obtain ⟨rfl, hO, hG⟩ := hcut
  clear HO HG c0
  have HO := Lib.hid hO.out; have HG := Lib.hid hG.out
  clear hO hG
  try clear w_
  rename World => w_
  go_upto_if 43 with fail
  go_cut [5, 6] from 44 to 53 (fun s5 s6 wr => ∃ A5 L5 c5, s5 = .slice A5 L5 c5 ∧ L5 ≤ 3200 ∧ Hid (OwnAt wr Z A5 L5 c5 (b2.map B)) ∧ Hid (Grow w6 wr))
  case first =>
    cases ht with
    | false =>
      have HQ := Lib.hid (N2.out (by first | trivial | rfl))
      have HFIN := Lib.hid (show OwnAt w_ Z A5 L5 c5 (b2.map B) by rw [HQ.out]; exact HO.out)
      go_wp2_with fail
      go_meet
      case rel => exact ⟨A5, L5, c5, rfl, by omega, HFIN, HG⟩
    | true =>
    have HQ := Lib.hid (T2.out (by first | trivial | rfl))
    have htl : tl ≤ 3000 := HTB2.out (by first | trivial | rfl)
    have FX := Lib.hid (show ∀ j u, tv[j]? = some u → w_.cell? ⟨g1, 1 + j, none⟩ = some u from fun j u hu => (HXG.out _ HG.out).blk.at_ (XX.out j u hu))
    go_wp2_with (first | (with_reducible refine wpl_loadm (o := ⟨some 45, _, _, _, _, _⟩) rfl rfl row_tx FX.out rfl LX.out ?_))
    refine (HTP2.out (by first | trivial | rfl) _ (HBG.out _ HG.out)).mono ?_
    rintro e w2_ ⟨TA, TC, rfl, ho_, hc_, hb_⟩
    have HTO := Lib.hid ho_
    have HO_ := Lib.hid (show OwnAt w2_ Z A5 L5 c5 (b1.map B) from HO.out.grow hb_)
    have HG_ := Lib.hid (HG.out.grow' hb_)
    obtain ⟨zb, hzb⟩ : ∃ z, z = w_.heap.size := ⟨_, rfl⟩
    have HNE := Lib.hid (show ∀ b, A5.map Addr.block = some b → b < zb from fun b hb => by rw [hzb]; exact own_lt HO.out b hb)
    rw [← hzb] at HTO
    clear ho_ hc_ hb_ HO HG FX hzb
    have HO := HO_; have HG := HG_
    clear HO_ HG_
    try clear w_
    rename World => w_
    go_wp2_with fail
    refine (rnum24N_any tl _ (by omega)).mono ?_
    rintro e w2_ ⟨A7, c7, rfl, ho_, hc_, hb_⟩
    obtain ⟨nb, hnb⟩ : ∃ z, z = numB tl := ⟨_, rfl⟩
    have HNB := Lib.hid hnb
    have hm_ : nb.length ≤ 9 := by rw [hnb]; exact numB_le (by omega)
    rw [← hnb] at ho_ ⊢
    obtain ⟨m_, hm2_⟩ : ∃ z, z = nb.length := ⟨_, rfl⟩
    rw [← hm2_] at ho_ hm_ ⊢
    have HSL := Lib.hid (Sl.of_own ho_); have HON := Lib.hid (all_bytes nb)
    have HO_ := Lib.hid (show OwnAt w2_ Z A5 L5 c5 (b1.map B) from HO.out.grow hb_)
    have HG_ := Lib.hid (HG.out.grow' hb_)
    have HTO_ := Lib.hid (HTO.out.grow hb_)
    clear ho_ hc_ hb_ hnb hm2_ HO HG HTO
    have HO := HO_; have HG := HG_
    clear HO_ HG_
    try clear w_
    rename World => w_
    have HTO := HTO_
    clear HTO_
    have HZB := Lib.hid (show Z ≤ w_.heap.size by rw [HZ.out]; exact HG.out.size)
    go_wp2_with (at_builtin; refine wpl_apps rfl rfl el_u8 HO.out rfl HSL.out rfl HON.out (by omega) (by omega) HZB.out ?_)
    intro A5 c5 w3_ ho_ hg_ hA_
    have hst := acc_step HG.out HZ.out HO.out ho_ hg_
    have HTO_ := Lib.hid (own_far HTO.out HO.out HNE.out hg_)
    obtain ⟨L5, hL6_⟩ : ∃ k, k = L5 + m_ := ⟨_, rfl⟩
    obtain ⟨ac4, hac_⟩ : ∃ a, a = b1 ++ nb := ⟨_, rfl⟩
    have hb6_ : L5 ≤ 100 := by omega
    rw [← hL6_, ← hac_] at hst
    rw [← hL6_]
    have Hac4 := Lib.hid hac_
    have HO_ := Lib.hid hst.1; have HG_ := Lib.hid hst.2
    clear ho_ hg_ hA_ hst hL6_ hac_ HO HG HSL HZB hL5
    have hL5 := hb6_
    clear hb6_
    have HO := HO_; have HG := HG_
    clear HO_ HG_
    try clear w_
    rename World => w_
    clear HTO HNE
    have HSL := Lib.hid (Sl.of_own HTO_.out)
    clear HTO_
    have HZB := Lib.hid (show Z ≤ w_.heap.size by rw [HZ.out]; exact HG.out.size)
    go_wp2_with (at_builtin; refine wpl_apps rfl rfl el_u8 HO.out rfl HSL.out rfl HATB.out (by omega) (by omega) HZB.out ?_)
    intro A5 c5 w3_ ho_ hg_ hA_
    have hst := acc_step HG.out HZ.out HO.out ho_ hg_
    obtain ⟨L5, hL6_⟩ : ∃ k, k = L5 + tl := ⟨_, rfl⟩
    obtain ⟨ac5, hac_⟩ : ∃ a, a = ac4 ++ tb := ⟨_, rfl⟩
    have hb6_ : L5 ≤ 3200 := by omega
    rw [← hL6_, ← hac_] at hst
    rw [← hL6_]
    have Hac5 := Lib.hid hac_
    have HO_ := Lib.hid hst.1; have HG_ := Lib.hid hst.2
    clear ho_ hg_ hA_ hst hL6_ hac_ HO HG HSL HZB hL5
    have hL5 := hb6_
    clear hb6_
    have HO := HO_; have HG := HG_
    clear HO_ HG_
    try clear w_
    rename World => w_
    have HFIN := Lib.hid (show OwnAt w_ Z A5 L5 c5 (b2.map B) by rw [HQ.out, ← HNB.out, ← Hac4.out, ← Hac5.out]; exact HO.out)
    go_wp2_with fail
    go_meet
    case rel => exact ⟨A5, L5, c5, rfl, by omega, HFIN, HG⟩
  case rest =>
  obtain ⟨A5, L5, c5, rfl, hL5, hO, hG⟩ := hcut
  clear HO HG
  have HO := Lib.hid hO.out; have HG := Lib.hid hG.out
  clear hO hG
  try clear w_
  rename World => w_
  have c0 := (HXG.out _ HG.out).blk.at_ X0.out
  go_upto_region 11 with fail
  go_cut [61] from 54 to 60 (fun s_ wr => s_ = .bool hc ∧ Hid (OwnAt wr Z A5 L5 c5 (b2.map B)) ∧ Hid (Grow w6 wr))
  case first =>
    rcases Int.lt_or_le k 4 with hk2 | hk2
    · have HH := Lib.hid (show hc = false by rw [HHC.out]; unfold hasCK; simp; omega)
      have y2 : (4 ≤ k) = False := eq_false (by omega)
      go_wp2_with fail
      go_meet
      case rel => exact ⟨by rw [HH.out], HO, HG⟩
    rcases Int.lt_or_le 6 k with hk6 | hk6
    · have HH := Lib.hid (show hc = false by rw [HHC.out]; unfold hasCK; simp; omega)
      have y6 : (k ≤ 6) = False := eq_false (by omega)
      go_wp2_with fail
      go_meet
      case rel => exact ⟨by rw [HH.out], HO, HG⟩
    have HH := Lib.hid (show hc = true by rw [HHC.out]; unfold hasCK; simp; omega)
    go_wp2_with fail
    go_meet
    case rel => exact ⟨by rw [HH.out], HO, HG⟩
  case rest =>
  obtain ⟨rfl, hO, hG⟩ := hcut
  clear HO HG c0
  have HO := Lib.hid hO.out; have HG := Lib.hid hG.out
  clear hO hG
  try clear w_
  rename World => w_
  go_upto_if 61 with fail
  go_cut [5, 7, 8] from 62 to 87 (fun s5 s7 s8 wr => ∃ A5 L5 c5, s5 = .slice A5 L5 c5 ∧ L5 ≤ 36000 ∧ Hid (OwnAt wr Z A5 L5 c5 (b3.map B)) ∧ Hid (Grow w6 wr))
  case first =>
    cases hc with
    | false =>
      have HQ := Lib.hid (N3.out (by first | trivial | rfl))
      have HFIN := Lib.hid (show OwnAt w_ Z A5 L5 c5 (b3.map B) by rw [HQ.out]; exact HO.out)
      go_wp2_with fail
      go_meet
      case rel => exact ⟨A5, L5, c5, rfl, by omega, HFIN, HG⟩
    | true =>
    have HQ := Lib.hid (T3.out (by first | trivial | rfl))
    have k5_ := (HXG.out _ HG.out).blk.at_ X5.out
    go_wp2_with fail
    refine (rnum24N_any n3 _ (by omega)).mono ?_
    rintro e w2_ ⟨A7, c7, rfl, ho_, hc_, hb_⟩
    obtain ⟨nb, hnb⟩ : ∃ z, z = numB n3 := ⟨_, rfl⟩
    have HNB := Lib.hid hnb
    have hm_ : nb.length ≤ 9 := by rw [hnb]; exact numB_le (by omega)
    rw [← hnb] at ho_ ⊢
    obtain ⟨m_, hm2_⟩ : ∃ z, z = nb.length := ⟨_, rfl⟩
    rw [← hm2_] at ho_ hm_ ⊢
    have HSL := Lib.hid (Sl.of_own ho_); have HON := Lib.hid (all_bytes nb)
    have HO_ := Lib.hid (show OwnAt w2_ Z A5 L5 c5 (b2.map B) from HO.out.grow hb_)
    have HG_ := Lib.hid (HG.out.grow' hb_)
    clear ho_ hc_ hb_ hnb hm2_ HO HG k5_
    have HO := HO_; have HG := HG_
    clear HO_ HG_
    try clear w_
    rename World => w_
    have HZB := Lib.hid (show Z ≤ w_.heap.size by rw [HZ.out]; exact HG.out.size)
    go_wp2_with (at_builtin; refine wpl_apps rfl rfl el_u8 HO.out rfl HSL.out rfl HON.out (by omega) (by omega) HZB.out ?_)
    intro A5 c5 w3_ ho_ hg_ hA_
    have hst := acc_step HG.out HZ.out HO.out ho_ hg_
    obtain ⟨L5, hL6_⟩ : ∃ k, k = L5 + m_ := ⟨_, rfl⟩
    obtain ⟨ac6, hac_⟩ : ∃ a, a = b2 ++ nb := ⟨_, rfl⟩
    have hb6_ : L5 ≤ 3220 := by omega
    rw [← hL6_, ← hac_] at hst
    rw [← hL6_]
    have Hac6 := Lib.hid hac_
    have HO_ := Lib.hid hst.1; have HG_ := Lib.hid hst.2
    clear ho_ hg_ hA_ hst hL6_ hac_ HO HG HSL HZB hL5
    have hL5 := hb6_
    clear hb6_
    have HO := HO_; have HG := HG_
    clear HO_ HG_
    try clear w_
    rename World => w_
    go_wp2_with fail
    go_loopw [5, 7] (fun s5 s7 wr => ∃ j : Nat, ∃ A5 L5 c5, j ≤ n3 ∧ s5 = .slice A5 L5 c5 ∧ s7 = .int .i64 j ∧ L5 ≤ 3220 + j * 2009 ∧ Hid (OwnAt wr Z A5 L5 c5 ((ac6 ++ (crs.take j).flatMap certText).map B)) ∧ Hid (Grow w6 wr)) (fun _ s7 _ => n3 - (intOf s7).toNat)
    case atStart => exact ⟨0, A5, L5, c5, by omega, rfl, rfl, by omega, Lib.hid (by simpa using HO.out), HG⟩
    case round =>
      obtain ⟨j, A5, L5, c5, hj, rfl, rfl, hL5_, hO, hG⟩ := hrel
      clear HO HG hL5
      have hL5 := hL5_
      clear hL5_
      have HO := Lib.hid hO.out; have HG := Lib.hid hG.out
      clear hO hG
      rename World => w_
      have c5_ := (HXG.out _ HG.out).blk.at_ X5.out
      by_cases hlt : j < n3
      · obtain ⟨b, off, p, P1_, pn, pcp, rfl, hp, hp1, hok, hid, hbl, hcc⟩ := (HCA.out w (Below.refl _ _)).at_ hlt
        have HPX := Lib.hid (show crs[j]? = some p.2 by rw [HCE.out, List.getElem?_map, hp]; rfl)
        have HSN := Lib.hid (fm_snoc certText HPX.out)
        have HPC := Lib.hid (cerV_cl (v := .slice P1_ pn pcp) rfl hok)
        have HB := Lib.hid (HBG.out _ HG.out)
        have HC := Lib.hid (show ∀ i u, (certV (.slice P1_ pn pcp) p.2)[i]? = some u → w_.cell? ⟨b, off + j * 137 + i, none⟩ = some u from fun i u hu => bcell HB.out (hcc i u hu))
        have HL1 := Lib.hid (HCT2.out _ (List.mem_of_getElem? HPX.out))
        have HPT := Lib.hid (show pn ≤ 1000 by rw [← hid.2.1]; exact HPL.out _ (List.mem_of_getElem? HPX.out))
        have HPUT := Lib.hid (fun (w' : World) (hg : Grow w w') => rcputo_any (A2 := P1_) (n2 := pn) (c2 := pcp) w' hok HPT.out (hid.grow hg))
        obtain ⟨cb, hcb⟩ : ∃ z, z = putCB p.2 := ⟨_, rfl⟩
        have HCB := Lib.hid (show certText p.2 = numB cb.length ++ cb by rw [hcb]; rfl)
        rw [HCB.out] at HSN HL1
        rw [← hcb] at HPUT
        have HACB := Lib.hid (all_bytes cb)
        obtain ⟨pv, hpv⟩ : ∃ z, z = certV (.slice P1_ pn pcp) p.2 := ⟨_, rfl⟩
        rw [← hpv] at HPC HC HPUT
        obtain ⟨xs, hxs⟩ : ∃ z, z = ac6 ++ (crs.take j).flatMap certText := ⟨_, rfl⟩
        have HXE := Lib.hid hxs
        rw [← hxs] at HO
        obtain ⟨tl2, htl2⟩ : ∃ z, z = cb.length := ⟨_, rfl⟩
        rw [← htl2] at HSN HL1 HPUT
        have hlc : (numB tl2).length + tl2 ≤ 2009 := by have := HL1.out; rw [List.length_append, ← htl2] at this; exact this
        clear hp hp1 hok hid hbl hcc hcb hpv hxs HPT HL1 htl2 HB
        go_wp2_with (first | (with_reducible refine wpl_loadm (o := ⟨some 79, _, _, _, _, _⟩) rfl rfl row_cert HC.out rfl HPC.out.len ?_))
        refine (HPUT.out _ (HBG.out _ HG.out)).mono ?_
        rintro e w2_ ⟨TA, TC, rfl, ho_, hc_, hb_⟩
        have HTO := Lib.hid ho_
        have HO_ := Lib.hid (show OwnAt w2_ Z A5 L5 c5 (xs.map B) from HO.out.grow hb_)
        have HG_ := Lib.hid (HG.out.grow' hb_)
        obtain ⟨zb, hzb⟩ : ∃ z, z = w_.heap.size := ⟨_, rfl⟩
        have HNE := Lib.hid (show ∀ b, A5.map Addr.block = some b → b < zb from fun b hb => by rw [hzb]; exact own_lt HO.out b hb)
        rw [← hzb] at HTO
        clear ho_ hc_ hb_ HO HG HC HPUT hzb c5_
        have HO := HO_; have HG := HG_
        clear HO_ HG_
        try clear w_
        rename World => w_
        have hnl : (numB tl2).length ≤ 9 := numB_le (by omega)
        go_wp2_with fail
        refine (rnum24N_any tl2 _ (by omega)).mono ?_
        rintro e w2_ ⟨A7, c7, rfl, ho_, hc_, hb_⟩
        obtain ⟨nb, hnb⟩ : ∃ z, z = numB tl2 := ⟨_, rfl⟩
        have HNB := Lib.hid hnb
        have hm_ : nb.length ≤ 9 := by rw [hnb]; exact numB_le (by omega)
        rw [← hnb] at ho_ ⊢
        obtain ⟨m_, hm2_⟩ : ∃ z, z = nb.length := ⟨_, rfl⟩
        rw [← hm2_] at ho_ hm_ ⊢
        have HSL := Lib.hid (Sl.of_own ho_); have HON := Lib.hid (all_bytes nb)
        have HO_ := Lib.hid (show OwnAt w2_ Z A5 L5 c5 (xs.map B) from HO.out.grow hb_)
        have HG_ := Lib.hid (HG.out.grow' hb_)
        have hmq_ : m_ + tl2 ≤ 2009 := by rw [hm2_, hnb]; exact hlc
        have HTO_ := Lib.hid (HTO.out.grow hb_)
        clear ho_ hc_ hb_ hnb hm2_ HO HG HTO hlc hnl
        have HO := HO_; have HG := HG_
        clear HO_ HG_
        try clear w_
        rename World => w_
        have HTO := HTO_
        clear HTO_
        have HZB := Lib.hid (show Z ≤ w_.heap.size by rw [HZ.out]; exact HG.out.size)
        go_wp2_with (at_builtin; refine wpl_apps rfl rfl el_u8 HO.out rfl HSL.out rfl HON.out (by omega) (by omega) HZB.out ?_)
        intro A5 c5 w3_ ho_ hg_ hA_
        have hst := acc_step HG.out HZ.out HO.out ho_ hg_
        have HTO_ := Lib.hid (own_far HTO.out HO.out HNE.out hg_)
        obtain ⟨L5, hL6_⟩ : ∃ k, k = L5 + m_ := ⟨_, rfl⟩
        obtain ⟨ac7, hac_⟩ : ∃ a, a = xs ++ nb := ⟨_, rfl⟩
        have hb6_ : L5 ≤ 3220 + j * 2009 + m_ := by omega
        rw [← hL6_, ← hac_] at hst
        rw [← hL6_]
        have Hac7 := Lib.hid hac_
        have HO_ := Lib.hid hst.1; have HG_ := Lib.hid hst.2
        clear ho_ hg_ hA_ hst hL6_ hac_ HO HG HSL HZB hL5
        have hL5 := hb6_
        clear hb6_
        have HO := HO_; have HG := HG_
        clear HO_ HG_
        try clear w_
        rename World => w_
        clear HTO HNE
        have HSL := Lib.hid (Sl.of_own HTO_.out)
        clear HTO_
        have HZB := Lib.hid (show Z ≤ w_.heap.size by rw [HZ.out]; exact HG.out.size)
        go_wp2_with (at_builtin; refine wpl_apps rfl rfl el_u8 HO.out rfl HSL.out rfl HACB.out (by omega) (by omega) HZB.out ?_)
        intro A5 c5 w3_ ho_ hg_ hA_
        have hst := acc_step HG.out HZ.out HO.out ho_ hg_
        obtain ⟨L5, hL6_⟩ : ∃ k, k = L5 + tl2 := ⟨_, rfl⟩
        obtain ⟨ac8, hac_⟩ : ∃ a, a = ac7 ++ cb := ⟨_, rfl⟩
        have hb6_ : L5 ≤ 3220 + (j + 1) * 2009 := by omega
        rw [← hL6_, ← hac_] at hst
        rw [← hL6_]
        have Hac8 := Lib.hid hac_
        have HO_ := Lib.hid hst.1; have HG_ := Lib.hid hst.2
        clear ho_ hg_ hA_ hst hL6_ hac_ HO HG HSL HZB hL5
        have hL5 := hb6_
        clear hb6_
        have HO := HO_; have HG := HG_
        clear HO_ HG_
        try clear w_
        rename World => w_
        have HFIN := Lib.hid (show OwnAt w_ Z A5 L5 c5 ((ac6 ++ (crs.take (j + 1)).flatMap certText).map B) by
          rw [HSN.out, ← HNB.out, ← List.append_assoc, ← HXE.out, ← List.append_assoc, ← Hac7.out, ← Hac8.out]; exact HO.out)
        go_wp2_with fail
        go_roundw
        case rel => exact ⟨j + 1, A5, L5, c5, by omega, rfl, by go_num, by omega, HFIN, HG⟩
        case measure => simp [intOf]; omega
      · obtain rfl : j = n3 := by omega
        have HFIN := Lib.hid (show OwnAt w_ Z A5 L5 c5 (b3.map B) from by
          have h := HO.out
          rw [List.take_of_length_le (by rw [HCL.out]; exact Nat.le_refl _)] at h
          rw [HQ.out, ← HNB.out, ← Hac6.out]; exact h)
        go_wp2_with fail
        go_meet
        case rel => exact ⟨A5, L5, c5, rfl, by omega, HFIN, HG⟩
  case rest =>
  obtain ⟨A5, L5, c5, rfl, hL5, hO, hG⟩ := hcut
  clear HO HG
  have HO := Lib.hid hO.out; have HG := Lib.hid hG.out
  clear hO hG
  try clear w_
  rename World => w_
  have c0 := (HXG.out _ HG.out).blk.at_ X0.out
  obtain ⟨e7, he_⟩ : ∃ z : Bool, (k == 7) = z := ⟨_, rfl⟩
  have HE_ := Lib.hid he_
  go_upto_if 90 with fail
  go_cut [5] from 91 to 95 (fun s5 wr => ∃ A5 L5 c5, s5 = .slice A5 L5 c5 ∧ L5 ≤ 36010 ∧ Hid (OwnAt wr Z A5 L5 c5 (b4.map B)) ∧ Hid (Grow w6 wr))
  case first =>
    clear he_ c0
    cases e7 with
    | false =>
      have HQ := Lib.hid (N4.out (by have := HE_.out; simpa using this))
      have HFIN := Lib.hid (show OwnAt w_ Z A5 L5 c5 (b4.map B) by rw [HQ.out]; exact HO.out)
      go_wp2_with fail
      go_meet
      case rel => exact ⟨A5, L5, c5, rfl, by omega, HFIN, HG⟩
    | true =>
      have HQ := Lib.hid (T4.out (by have := HE_.out; simpa using this))
      have c40 := (HXG.out _ HG.out).blk.at_ X40.out
      go_wp2_with fail
      refine (rnum24_any ep _ (by omega) (by omega)).mono ?_
      rintro e w2_ ⟨A7, c7, rfl, ho_, hc_, hb_⟩
      obtain ⟨nb, hnb⟩ : ∃ z, z = numB ep.toNat := ⟨_, rfl⟩
      have HNB := Lib.hid hnb
      have hm_ : nb.length ≤ 9 := by rw [hnb]; exact numB_le (by omega)
      rw [← hnb] at ho_ ⊢
      obtain ⟨m_, hm2_⟩ : ∃ z, z = nb.length := ⟨_, rfl⟩
      rw [← hm2_] at ho_ hm_ ⊢
      have HSL := Lib.hid (Sl.of_own ho_); have HON := Lib.hid (all_bytes nb)
      have HO_ := Lib.hid (show OwnAt w2_ Z A5 L5 c5 (b3.map B) from HO.out.grow hb_)
      have HG_ := Lib.hid (HG.out.grow' hb_)
      clear ho_ hc_ hb_ hnb hm2_ HO HG c40
      have HO := HO_; have HG := HG_
      clear HO_ HG_
      try clear w_
      rename World => w_
      have HZB := Lib.hid (show Z ≤ w_.heap.size by rw [HZ.out]; exact HG.out.size)
      go_wp2_with (at_builtin; refine wpl_apps rfl rfl el_u8 HO.out rfl HSL.out rfl HON.out (by omega) (by omega) HZB.out ?_)
      intro A5 c5 w3_ ho_ hg_ hA_
      have hst := acc_step HG.out HZ.out HO.out ho_ hg_
      obtain ⟨L5, hL6_⟩ : ∃ k, k = L5 + m_ := ⟨_, rfl⟩
      obtain ⟨ac9, hac_⟩ : ∃ a, a = b3 ++ nb := ⟨_, rfl⟩
      have hb6_ : L5 ≤ 36010 := by omega
      rw [← hL6_, ← hac_] at hst
      rw [← hL6_]
      have Hac9 := Lib.hid hac_
      have HO_ := Lib.hid hst.1; have HG_ := Lib.hid hst.2
      clear ho_ hg_ hA_ hst hL6_ hac_ HO HG HSL HZB hL5
      have hL5 := hb6_
      clear hb6_
      have HO := HO_; have HG := HG_
      clear HO_ HG_
      try clear w_
      rename World => w_
      have HFIN := Lib.hid (show OwnAt w_ Z A5 L5 c5 (b4.map B) by rw [HQ.out, ← HNB.out, ← Hac9.out]; exact HO.out)
      go_wp2_with fail
      go_meet
      case rel => exact ⟨A5, L5, c5, rfl, by omega, HFIN, HG⟩
  case rest =>
  obtain ⟨A5, L5, c5, rfl, hL5, hO, hG⟩ := hcut
  clear HO HG
  have HO := Lib.hid hO.out; have HG := Lib.hid hG.out
  clear hO hG
  try clear w_
  rename World => w_
  clear he_ c0 HE_
  have c0 := (HXG.out _ HG.out).blk.at_ X0.out
  obtain ⟨e9, he_⟩ : ∃ z : Bool, (k == 9) = z := ⟨_, rfl⟩
  have HE_ := Lib.hid he_
  go_upto_if 98 with fail
  go_cut [5] from 99 to 103 (fun s5 wr => ∃ A5 L5 c5, s5 = .slice A5 L5 c5 ∧ L5 ≤ 36100 ∧ Hid (OwnAt wr Z A5 L5 c5 (pc.map B)) ∧ Hid (Grow w6 wr))
  case first =>
    clear he_ c0
    cases e9 with
    | false =>
      have HQ := Lib.hid (N5.out (by have := HE_.out; simpa using this))
      have HFIN := Lib.hid (show OwnAt w_ Z A5 L5 c5 (pc.map B) by rw [HQ.out]; exact HO.out)
      go_wp2_with fail
      go_meet
      case rel => exact ⟨A5, L5, c5, rfl, by omega, HFIN, HG⟩
    | true =>
      have HQ := Lib.hid (T5.out (by have := HE_.out; simpa using this))
      have FI := Lib.hid (show ∀ j u, md[j]? = some u → w_.cell? ⟨g1, 41 + j, none⟩ = some u from fun j u hu => (HXG.out _ HG.out).blk.at_ (XI.out j u hu))
      go_wp2_with (first | (with_reducible refine wpl_loadm (o := ⟨some 101, _, _, _, _, _⟩) rfl rfl row_aid FI.out rfl HDI.out.len ?_))
      refine (tbytes_any HDI.out _).mono ?_
      rintro e w2_ ⟨A7, c7, rfl, hs_, hc_, hb_⟩
      have HSL := Lib.hid hs_
      have HO_ := Lib.hid (show OwnAt w2_ Z A5 L5 c5 (b4.map B) from HO.out.grow hb_)
      have HG_ := Lib.hid (HG.out.grow' hb_)
      clear hs_ hc_ hb_ HO HG FI
      have HO := HO_; have HG := HG_
      clear HO_ HG_
      try clear w_
      rename World => w_
      have HZB := Lib.hid (show Z ≤ w_.heap.size by rw [HZ.out]; exact HG.out.size)
      go_wp2_with (at_builtin; refine wpl_apps rfl rfl el_u8 HO.out rfl HSL.out rfl HAI.out (by omega) (by omega) HZB.out ?_)
      intro A5 c5 w3_ ho_ hg_ hA_
      have hst := acc_step HG.out HZ.out HO.out ho_ hg_
      obtain ⟨L5, hL6_⟩ : ∃ k, k = L5 + 32 := ⟨_, rfl⟩
      obtain ⟨ac10, hac_⟩ : ∃ a, a = b4 ++ mid := ⟨_, rfl⟩
      have hb6_ : L5 ≤ 36100 := by omega
      rw [← hL6_, ← hac_] at hst
      rw [← hL6_]
      have Hac10 := Lib.hid hac_
      have HO_ := Lib.hid hst.1; have HG_ := Lib.hid hst.2
      clear ho_ hg_ hA_ hst hL6_ hac_ HO HG HSL HZB hL5
      have hL5 := hb6_
      clear hb6_
      have HO := HO_; have HG := HG_
      clear HO_ HG_
      try clear w_
      rename World => w_
      have HFIN := Lib.hid (show OwnAt w_ Z A5 L5 c5 (pc.map B) by rw [HQ.out, ← Hac10.out]; exact HO.out)
      go_wp2_with fail
      go_meet
      case rel => exact ⟨A5, L5, c5, rfl, by omega, HFIN, HG⟩
  case rest =>
  obtain ⟨A5, L5, c5, rfl, hL5, hO, hG⟩ := hcut
  clear HO HG
  have HO := Lib.hid hO.out; have HG := Lib.hid hG.out
  clear hO hG
  try clear w_
  rename World => w_
  clear he_ c0 HE_
  have HLE := Lib.hid (show L5 = pc.length by have := (Sl.of_own HO.out).len; simp at this; omega)
  have HO5 := Lib.hid (own_base HO.out (show w.heap.size ≤ Z by rw [HZ.out]; exact (HBG.out _ (Below.refl _ _)).size))
  have HC5 := Lib.hid (own_cap1 HO.out)
  have HB6 := Lib.hid (HBG.out _ HG.out)
  clear HO HG
  by_cases h8 : 8192 < L5
  · have HNI := Lib.hid (F22.out (by rw [← HLE.out]; exact h8))
    have y8 : (8192 : Int) < (L5 : Int) := by omega
    go_wp2_with fail
    go_ret2
    exact ⟨none, 0, by rw [HNI.out]; rfl, by rw [HNI.out]; exact World.ownsRow_nil _ _ _ _, by rw [HNI.out]; exact Nat.le_refl _, HB6.out⟩
  · have HNI := Lib.hid (F32.out (by rw [← HLE.out]; exact h8))
    have y8 := lt_fe (a := 8192) (b := (L5 : Int)) (by omega)
    go_wp2_with fail
    go_ret2
    exact ⟨A5, c5, by rw [HNI.out, HLE.out]; rfl, by rw [HNI.out]; rw [← HLE.out]; exact HO5.out, by rw [HNI.out]; rw [← HLE.out]; exact HC5.out, HB6.out⟩
end Go.Proofs.Ytobmldegjajocaa
/- A command that is given is opened, with its sizes. -/
namespace Go.Proofs.Ytobmldegjajocaa
open Go.RowKit Go.ChangeShapes Go.WideShapes
set_option linter.unusedVariables false
set_option maxRecDepth 100000
section
variable {H : Type} {enc : TypeId × Value → H} {w : World} {r : Reach} {b0 base : Nat} {spare : Nat → Bool} {held : Bool}
theorem trod_txM {fuel : Nat} {cs : List Value} {y : DataW H × List MemPlace} (hl0 : cs.length = 4) (hf : DataW.trod enc Try.prog w base spare held fuel 26 cs = some y) :
    ∃ A n c A2 n2 c2, ∃ l : List (Value × Inp), ∃ os : List Outp, ∃ fee ex : Int, cs = txV A n c A2 n2 c2 fee ex ∧ InsAt w A n c l ∧ OutsAt w A2 n2 c2 os ∧ U64 fee ∧ I64 ex ∧ n ≤ maxLen ∧ n2 ≤ maxLen := by
  obtain ⟨xs, n, _, _, hl, hxs, hg⟩ := DataW.trod_struct Try.underlying26 hf
  replace hg := fun i f h => hg i f h
  have hxs5 : xs.length = 4 := hxs
  obtain ⟨y0, h0⟩ := got (hg 0 _ rfl) (by omega)
  obtain ⟨y1, h1⟩ := got (hg 1 _ rfl) (by omega)
  obtain ⟨y2, h2⟩ := got (hg 2 _ rfl) (by omega)
  obtain ⟨y3, h3⟩ := got (hg 3 _ rfl) (by omega)
  replace h0 : DataW.trod enc Try.prog w base spare held n 22 ((cs.drop 0).take (Try.prog.cellsOf 22)) = some y0 := h0
  replace h1 : DataW.trod enc Try.prog w base spare held n 23 ((cs.drop 1).take (Try.prog.cellsOf 23)) = some y1 := h1
  replace h2 : DataW.trod enc Try.prog w base spare held n 24 ((cs.drop 2).take (Try.prog.cellsOf 24)) = some y2 := h2
  replace h3 : DataW.trod enc Try.prog w base spare held n 3 ((cs.drop 3).take (Try.prog.cellsOf 3)) = some y3 := h3
  rw [cells_stin] at h0
  rw [cells_stout] at h1
  rw [cells_u64] at h2
  rw [cells_int] at h3
  obtain ⟨A, m, c, l, e0, l0, m0, x0, s0, k0, _⟩ := open_list0 (fun p : Value × Inp => inV p.1 p.2) (fun p => InOK w w.heap.size p) Try.underlying22 cells_tin (show 0 < 35 by omega) (fun fuel cs y hl ht => trod_in hl ht) h0
  obtain ⟨A2, m2, c2, os, e1, l1, m1, x1, s1, k1, _⟩ := open_list0 outV Outp.ok Try.underlying23 cells_tout (show 0 < 33 by omega) (fun fuel cs y hl ht => trod_out hl ht) h1
  obtain ⟨z2, e2, _, w2⟩ := DataW.trod_int Try.underlying24 h2
  obtain ⟨z3, e3, _, w3⟩ := DataW.trod_int Try.underlying3 h3
  refine ⟨A, m, c, A2, m2, c2, l, os, z2, z3, ?_, ⟨s0, k0, l0, m0⟩, ⟨s1, k1, l1, m1⟩, u64_of w2, i64_of w3, Nat.le_trans m0 x0, Nat.le_trans m1 x1⟩
  have a4 : cs.drop 4 = [] := List.drop_of_length_le (by omega)
  have a3 := cut_eq e3 a4
  have a2 := cut_eq e2 a3
  have a1 := cut_eq e1 a2
  have a0 := cut_eq e0 a1
  rw [List.drop_zero] at a0
  rw [a0]; simp [txV]
theorem trod_cmdM {fuel : Nat} {cs : List Value} {y : DataW H × List MemPlace} (hl0 : cs.length = 73) (hf : DataW.trod enc Try.prog w base spare held fuel 33 cs = some y) :
    ∃ (q : CW) (m : Cmd), cs = q.vs m ∧ CmdAt w q m ∧ q.n ≤ 9223372036854775807 ∧ q.n2 ≤ 9223372036854775807 ∧ q.n3 ≤ 9223372036854775807 := by
  obtain ⟨xs, n, _, _, hl, hxs, hg⟩ := DataW.trod_struct Try.underlying33 hf
  replace hg := fun i f h => hg i f h
  have hxs5 : xs.length = 7 := hxs
  obtain ⟨y0, h0⟩ := got (hg 0 _ rfl) (by omega)
  obtain ⟨y1, h1⟩ := got (hg 1 _ rfl) (by omega)
  obtain ⟨y2, h2⟩ := got (hg 2 _ rfl) (by omega)
  obtain ⟨y3, h3⟩ := got (hg 3 _ rfl) (by omega)
  obtain ⟨y4, h4⟩ := got (hg 4 _ rfl) (by omega)
  obtain ⟨y5, h5⟩ := got (hg 5 _ rfl) (by omega)
  obtain ⟨y6, h6⟩ := got (hg 6 _ rfl) (by omega)
  replace h0 : DataW.trod enc Try.prog w base spare held n 3 ((cs.drop 0).take (Try.prog.cellsOf 3)) = some y0 := h0
  replace h1 : DataW.trod enc Try.prog w base spare held n 26 ((cs.drop 1).take (Try.prog.cellsOf 26)) = some y1 := h1
  replace h2 : DataW.trod enc Try.prog w base spare held n 27 ((cs.drop 5).take (Try.prog.cellsOf 27)) = some y2 := h2
  replace h3 : DataW.trod enc Try.prog w base spare held n 31 ((cs.drop 6).take (Try.prog.cellsOf 31)) = some y3 := h3
  replace h4 : DataW.trod enc Try.prog w base spare held n 3 ((cs.drop 39).take (Try.prog.cellsOf 3)) = some y4 := h4
  replace h5 : DataW.trod enc Try.prog w base spare held n 3 ((cs.drop 40).take (Try.prog.cellsOf 3)) = some y5 := h5
  replace h6 : DataW.trod enc Try.prog w base spare held n 29 ((cs.drop 41).take (Try.prog.cellsOf 29)) = some y6 := h6
  rw [cells_int] at h0
  rw [cells_tx] at h1
  rw [cells_scert] at h2
  rw [cells_tout] at h3
  rw [cells_int] at h4
  rw [cells_int] at h5
  rw [cells_id] at h6
  obtain ⟨z0, e0, _, w0⟩ := DataW.trod_int Try.underlying3 h0
  obtain ⟨A, m, c, A2, m2, c2, l, os, fee, ex, e1, hi1, ho1, hf1, hx1, hm1, hm2⟩ := trod_txM (by rw [List.length_take, List.length_drop]; omega) h1
  obtain ⟨A3, m3, c3, cl, e2, l2, x2, y2, s2, k2, _⟩ := open_list0 (fun p : Value × Cer => certV p.1 p.2) (fun p => CerOK w w.heap.size p) Try.underlying27 cells_cert (show 0 < 137 by omega) (fun fuel cs y hl ht => trod_certQ hl ht) h2
  obtain ⟨dst, e3, k3⟩ := trod_out (by rw [List.length_take, List.length_drop]; omega) h3
  obtain ⟨z4, e4, _, w4⟩ := DataW.trod_int Try.underlying3 h4
  obtain ⟨z5, e5, _, w5⟩ := DataW.trod_int Try.underlying3 h5
  obtain ⟨d6, e6, l6⟩ := trod_bytes Try.underlying29 Try.underlying5 cells_u8 cells_id h6
  refine ⟨⟨A, m, c, A2, m2, c2, A3, m3, c3, l, cl⟩, ⟨z0, ⟨l.map Prod.snd, os, fee, ex⟩, cl.map Prod.snd, dst, z4, z5, d6⟩, ?_, ⟨hi1, ho1, ⟨s2, k2, l2, x2⟩, rfl, rfl, i64_of w0, ⟨fun i hi => by obtain ⟨p, hp, rfl⟩ := List.mem_map.1 hi; exact (hi1.2.1 p hp).2, ho1.2.1, hf1, hx1⟩, fun x hx => by obtain ⟨p, hp, rfl⟩ := List.mem_map.1 hx; exact (k2 p hp).2, k3, i64_of w4, i64_of w5, l6⟩, by unfold maxLen at hm1; simp only; omega, by unfold maxLen at hm2; simp only; omega, by unfold maxLen at y2; simp only; omega⟩
  have a7 : cs.drop 73 = [] := List.drop_of_length_le (by omega)
  have a6 := cut_eq e6 a7
  have a5 := cut_eq e5 a6
  have a4 := cut_eq e4 a5
  have a3 := cut_eq e3 a4
  have a2 := cut_eq e2 a3
  have a1 := cut_eq e1 a2
  have a0 := cut_eq e0 a1
  rw [List.drop_zero] at a0
  rw [a0]; simp [CW.vs, CW.tv, cmdV]
theorem open_cmdM {v : Value} {d : DataW H} {ps : List MemPlace} (hval : Value.okWide Try.prog w r b0 33 v) (h : DataW.Trod enc Try.prog w base spare held 33 v d ps) :
    ∃ (q : CW) (m : Cmd), v = .agg (q.vs m).toArray ∧ CmdAt w q m ∧ q.n ≤ 9223372036854775807 ∧ q.n2 ≤ 9223372036854775807 ∧ q.n3 ≤ 9223372036854775807 := by
  obtain ⟨cs, rfl, hsz⟩ := okWide_struct Try.underlying33 hval
  obtain ⟨fuel, hf⟩ := h
  rw [cells_cmd] at hsz
  obtain ⟨q, m, e, hc⟩ := trod_cmdM (cs := cs.toList) (by simpa using hsz) hf
  exact ⟨q, m, by rw [← e], hc⟩
end
end Go.Proofs.Ytobmldegjajocaa

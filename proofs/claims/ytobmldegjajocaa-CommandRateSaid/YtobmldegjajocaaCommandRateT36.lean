/- The rate of a command, and the document's. -/
import Derived.Test.YtobmldegjajocaaCommandRateT31
import Derived.Test.YtobmldegjajocaaCommandRateT34
import Derived.Test.YtobmldegjajocaaCommandRateT19
import Derived.Test.YtobmldegjajocaaCommandRateT21
import Derived.Test.YtobmldegjajocaaCommandRateT7
import Derived.Test.YtobmldegjajocaaCommandRateT35
import Derived.Test.YtobmldegjajocaaCommandRateT15
import Derived.Test.YtobmldegjajocaaCommandRateT33
set_option linter.unusedSimpArgs false
/- The rate of a command, and the document's. -/
namespace Go.Proofs.Ytobmldegjajocaa
open Go.RowKit Go.Shelf
set_option linter.unusedVariables false
/-- A fee and a size that make a command's rate. -/
def feeC (m : Cmd) : Int := if m.kind = 2 ∨ m.kind = 3 then m.tx.fee else if hasCK m.kind then 1 else 0
def sizC (m : Cmd) : Int := if m.kind = 2 ∨ m.kind = 3 then ((tformB m.tx).length : Int) else 0
/-- What both answer for any fee and size, and what kind of number it is. -/
theorem of_all (fee size : Int) (h : 0 ≤ fee) (h1 : fee ≤ 18446744073709551615) (h3 : size ≤ 9223372036854775807) :
    ∃ r, r < 2^64 ∧ (∀ w, Calls Try.prog 49 #[.int .u64 fee, .int .i64 size] w fun e w' => e = .returned (.float .f64 r) ∧ w = w') ∧
      (∀ w, Calls Try.prog 51 #[.int .u64 fee, .int .i64 size] w fun e w' => ∃ x, e = .returned (.float .f64 x) ∧ (sameF r x = true ∧ x < 2^64) ∧ Drawn w w') ∧ (0 < size → r < 9218868437227405312) ∧ (size = 0 → 0 < fee → r = 9218868437227405312) ∧ (size = 0 → fee = 0 → r = 9221120237041090561) := by
  by_cases hn : size < 0 ∨ size = 0 ∧ fee = 0
  · refine ⟨9221120237041090561, by decide, fun w => of_nan fee size w hn, fun w => ?_, fun h => by omega, fun _ h => by omega, fun _ _ => rfl⟩
    refine (rof_nan fee size w hn).mono ?_
    rintro e w' ⟨x, rfl, ⟨h1, h2⟩, h3⟩
    refine ⟨x, rfl, ⟨?_, h2⟩, h3⟩
    rw [sameF, h1, show nanB 9221120237041090561 = true by decide +kernel]; simp
  · by_cases hz : size = 0
    · subst hz
      refine ⟨9218868437227405312, by decide, fun w => of_inf fee w (by omega), fun w => ?_, fun h => by omega, fun _ _ => rfl, fun _ h => by omega⟩
      refine (rof_inf fee w (by omega) h1).mono ?_
      rintro e w' ⟨rfl, rfl⟩
      exact ⟨_, rfl, ⟨by simp [sameF], by decide⟩, Drawn.refl _⟩
    · have hlt := dW_lt fee.toNat size.toNat (by omega) (by omega) (by omega)
      refine ⟨dW fee.toNat size.toNat, by omega, fun w => of_dW fee size w h h1 (by omega) h3, fun w => ?_, fun _ => hlt, fun h => absurd h hz, fun h => absurd h hz⟩
      refine (rof_num fee size w h h1 (by omega) h3).mono ?_
      rintro e w' ⟨rfl, rfl⟩
      exact ⟨_, rfl, ⟨by simp [sameF], by omega⟩, Drawn.refl _⟩
theorem fin_ge {r : Nat} (h : r < 9218868437227405312) : (ltF 0 r || eqF r 0) = true ∧ (ltF r 9218868437227405311 || eqF r 9218868437227405311) = true := by
  obtain ⟨h1, h2, h3⟩ := plain_small h
  obtain ⟨m1, m2, m3⟩ := plain_small (x := 9218868437227405311) (by omega)
  have p : V r ≤ V 9218868437227405311 := V_le (by omega)
  have u1 : rung 9218868437227405311 = 9218868437227405311 := rung_small (by omega)
  have hr : rung r = r := rung_small (by omega)
  have s0 := sv_zero; have n0 := nan_zero
  unfold ltF eqF
  rw [h1, m1, n0, s0]
  unfold sv
  rw [h3, m3, u1, hr]
  generalize V 9218868437227405311 = c at *
  generalize V r = d at *
  constructor
  · simp; omega
  · simp; omega
theorem inf_gt : ltF 9218868437227405311 9218868437227405312 = true := by
  obtain ⟨m1, m2, m3⟩ := plain_small (x := 9218868437227405311) (by omega)
  have p : V 9218868437227405311 < V 9218868437227405312 := V_lt (by omega)
  have u1 : rung 9218868437227405311 = 9218868437227405311 := rung_small (by omega)
  have u2 : rung 9218868437227405312 = 9218868437227405312 := rung_small (by omega)
  have n2 : nanB 9218868437227405312 = false := by decide +kernel
  have g2 : negB 9218868437227405312 = false := by decide +kernel
  unfold ltF sv
  rw [m1, m3, u1, u2, n2, g2]
  generalize V 9218868437227405311 = c at *
  generalize V 9218868437227405312 = d at *
  simp; omega
section
variable {q : CW} {m : Cmd} (w : World) (h : CmdAt w q m) (hs : SmallC m)
include h hs
set_option maxRecDepth 100000 in
set_option maxHeartbeats 4000000 in
theorem cmrate_any {r : Nat} (hc : ∀ w, Calls Try.prog 49 #[.int .u64 (feeC m), .int .i64 (sizC m)] w fun e w' => e = .returned (.float .f64 r) ∧ w = w') :
    Calls Try.prog 16 #[.agg (q.vs m).toArray] w fun e w' => e = .returned (.float .f64 r) ∧ Grow w w' := by
  have HC := Lib.hid (show ∀ w, Calls Try.prog 49 #[.int .u64 (feeC m), .int .i64 (sizC m)] w fun e w' => e = .returned (.float .f64 r) ∧ Grow w w' from fun w => (hc w).mono fun e w' ⟨k1, k2⟩ => ⟨k1, by rw [← k2]; exact Below.refl _ _⟩)
  have HXC := Lib.hid (vs_cl (q := q) h.ok)
  have X0 := Lib.hid (vs_kind q m)
  have X3 := Lib.hid (show (q.vs m)[3]? = some (.int .u64 m.tx.fee) from vs_tx (j := 2) rfl)
  have XX := Lib.hid (fun j u (hu : (q.tv m)[j]? = some u) => vs_tx (q := q) (m := m) hu)
  have LX := Lib.hid (show (q.tv m).length = 4 from rfl)
  have HSZ := Lib.hid (fun (w' : World) (hg : Grow w w') => tsize_any (A := q.A) (n := q.n) (c := q.c) (A2 := q.A2) (n2 := q.n2) (c2 := q.c2) (fee := m.tx.fee) (ex := m.tx.expiry) w' (h.ins.grow hg) (h.outs.grow hg) (by rw [← h.n1]; exact hs.1) (by rw [← h.n2]; exact hs.2.1) h.ok.2.1.2.2.1 h.ok.2.1.2.2.2)
  rw [h.tx] at HSZ
  rw [show txV q.A q.n q.c q.A2 q.n2 q.c2 m.tx.fee m.tx.expiry = q.tv m from rfl] at HSZ
  have HF := Lib.hid (show feeC m = if m.kind = 2 ∨ m.kind = 3 then m.tx.fee else if hasCK m.kind then 1 else 0 from rfl)
  have HS := Lib.hid (show sizC m = if m.kind = 2 ∨ m.kind = 3 then ((tformB m.tx).length : Int) else 0 from rfl)
  have HH := Lib.hid (fun w => hasc_any m.kind w)
  obtain ⟨xv, hxv⟩ : ∃ z, z = q.vs m := ⟨_, rfl⟩
  obtain ⟨tv, htv⟩ : ∃ z, z = q.tv m := ⟨_, rfl⟩
  obtain ⟨k, hk⟩ : ∃ z, z = m.kind := ⟨_, rfl⟩
  obtain ⟨fe, hfe⟩ : ∃ z, z = m.tx.fee := ⟨_, rfl⟩
  obtain ⟨sz, hsz⟩ : ∃ z : Int, z = ((tformB m.tx).length : Int) := ⟨_, rfl⟩
  obtain ⟨fc, hfc⟩ : ∃ z, z = feeC m := ⟨_, rfl⟩
  obtain ⟨sc, hsc⟩ : ∃ z, z = sizC m := ⟨_, rfl⟩
  rw [← hxv] at HXC X0 X3 XX ⊢; rw [← htv] at XX LX HSZ; rw [← hk] at X0 HF HS HH; rw [← hfe] at X3 HF; rw [← hsz] at HSZ HS; rw [← hfc] at HC HF; rw [← hsc] at HC HS
  clear h hs hc hxv htv hk hfe hsz hfc hsc
  obtain ⟨w_, hw⟩ : ∃ x, x = w := ⟨_, rfl⟩
  have HB := Lib.hid (show Below w.heap.size w w_ by rw [hw]; exact Below.refl _ _)
  suffices H : Calls Try.prog 16 #[.agg xv.toArray] w_ fun e w' => e = .returned (.float .f64 r) ∧ Grow w w' by rw [hw] at H; exact H
  clear hw
  go_enter Try.func16, Try.ntmps16
  go_wp2_with (first | (with_reducible refine wpl_box (o := ⟨some 1, _, _, _, _, _⟩) rfl rfl rfl ?_))
  intro w2_ hb2_ hb_ hsz2_
  have HX_ := Lib.hid (at_mk hb2_ HXC.out.len)
  clear hb2_ hsz2_
  have HG_ := Lib.hid HB.out.size
  have HB_ := Lib.hid (HB.out.grow' hb_)
  clear HB
  have HB := HB_
  clear HB_
  generalize hg_ : w_.heap.size = g1 at HX_ HG_ ⊢
  clear hg_
  have HX_g := HG_
  clear HG_
  have HX := HX_
  clear hb_ HX_
  try clear w_
  rename World => w_
  have c0 := HX.out.blk.at_ X0.out
  by_cases h2 : k = 2 ∨ k = 3
  · have e1 : fc = fe := by rw [HF.out, if_pos h2]
    have e2 : sc = sz := by rw [HS.out, if_pos h2]
    subst e1; subst e2
    clear HF HS
    go_upto_region 1 with fail
    go_cut [3] from 4 (fun s3 wr => s3 = .bool true ∧ Hid (At wr g1 33 73 xv) ∧ Hid (Below w.heap.size w wr))
    case first =>
      rcases h2 with rfl | rfl
      · go_wp2_with fail
        go_meet
        case rel => exact ⟨rfl, HX, HB⟩
      · go_wp2_with fail
        go_meet
        case rel => exact ⟨rfl, HX, HB⟩
    case rest =>
      obtain ⟨rfl, hx, hb⟩ := hcut
      clear HX HB c0 h2
      have HX := Lib.hid hx.out; have HB := Lib.hid hb.out
      clear hx hb
      clear w_
      rename World => w_
      try go_wp2_with fail
      repeat' (first | (with_reducible refine wp_flow (id := 2) [0,1,3,0,8,24,63,127] [0,0,0,0,0,3,3,0] (fun i => match i with | 5 => spV (.int .i64 sc) | 6 => spV (.float .f64 r) | _ => spV undef) (by kernel_rfl) (by kernel_rfl) ?_) | go_values | go_skip | go_guarded | go_step | go_upon | go_back)
      intro w_ hd_
      have hb_ := hd_.grow
      have HB_ := Lib.hid (HB.out.grow' hb_)
      clear HB
      have HB := HB_
      clear HB_
      have HX_ := Lib.hid (HX.out.grow hb_)
      clear HX
      have HX := HX_
      clear HX_
      clear hb_ hd_
      show wpL _ _ _ _ _ _ _ [0,1,2,3,4,5,6,7] _ _
      have c3 := HX.out.blk.at_ X3.out
      have FX := Lib.hid (show ∀ j u, tv[j]? = some u → w_.cell? ⟨g1, 1 + j, none⟩ = some u from fun j u hu => HX.out.blk.at_ (XX.out j u hu))
      repeat (first | (refine fl_calm rfl (by decide) (by first | exact wanted_none rfl | (go_simp; done) | fail) (fun w_ _ _ => by first | (go_simp; rfl) | (go_simp; done) | rfl) (fun K hK => ?_); go_simp; refine hK _ ?_; clear hK K) | (refine fl_skip rfl (by first | (go_simp; done) | fail) (fun K hK => ?_); go_simp; refine hK _ ?_; clear hK K) | (refine fl_load rfl (by decide) (by first | exact wanted_none rfl | (go_simp; done) | fail) rfl (by first | rfl | (go_simp; rfl)) (by kernel_rfl) (by first | exact c3) (fun K hK => ?_); go_simp; refine hK _ ?_; clear hK K))
      refine fl_loadm rfl (by decide) (by first | exact wanted_none rfl | (go_simp; done) | fail) rfl row_tx FX.out (by first | rfl | (go_simp; done) | rfl) LX.out (fun K hK => ?_)
      go_simp
      refine hK _ ?_
      clear hK K
      refine fl_callv rfl (by kernel_rfl) rfl (by first | exact wanted_none rfl | (go_simp; done) | fail) (fun w_ => by first | (go_simp; exact ⟨rfl, rfl⟩) | (go_simp; rfl) | (go_simp; exact ⟨⟨rfl, rfl, rfl⟩, rfl⟩)) (fun w2_ hg_ hL_ => ?_) (fun K hK => ?_)
      · skip
        replace HB := Lib.hid (HB.out.grow' hg_)
        exact (HSZ.out _ HB.out)
      go_simp
      refine hK _ ?_
      clear hK K
      refine fl_callv rfl (by kernel_rfl) rfl (by first | exact wanted_none rfl | (go_simp; done) | fail) (fun w_ => by first | (go_simp; exact ⟨rfl, rfl⟩) | (go_simp; rfl) | (go_simp; exact ⟨⟨rfl, rfl, rfl⟩, rfl⟩)) (fun w2_ hg_ hL_ => ?_) (fun K hK => ?_)
      · skip
        exact (HC.out _)
      go_simp
      refine hK _ ?_
      clear hK K
      repeat (first | (refine fl_calm rfl (by decide) (by first | exact wanted_none rfl | (go_simp; done) | fail) (fun w_ _ _ => by first | (go_simp; rfl) | (go_simp; done) | rfl) (fun K hK => ?_); go_simp; refine hK _ ?_; clear hK K) | (refine fl_skip rfl (by first | (go_simp; done) | fail) (fun K hK => ?_); go_simp; refine hK _ ?_; clear hK K) | (refine fl_load rfl (by decide) (by first | exact wanted_none rfl | (go_simp; done) | fail) rfl (by first | rfl | (go_simp; rfl)) (by kernel_rfl) (by first | exact c3) (fun K hK => ?_); go_simp; refine hK _ ?_; clear hK K))
      clear c3 FX
      refine fl_done ?_
      intro w2_ hg_ hL_
      replace HB := Lib.hid (HB.out.grow' hg_)
      replace HX := Lib.hid (HX.out.grow hg_)
      clear hg_ hL_
      try clear w_
      rename World => w_
      go_wp2_with fail
      go_ret
      exact ⟨rfl, HB.out⟩
  · have e1 : fc = if hasCK k then 1 else 0 := by rw [HF.out, if_neg h2]
    have e2 : sc = 0 := by rw [HS.out, if_neg h2]
    subst e2
    have y2 := beq_fe (a := k) (b := 2) (fun h => h2 (.inl h))
    have y3 := beq_fe (a := k) (b := 3) (fun h => h2 (.inr h))
    have HE := Lib.hid e1
    clear h2 e1
    obtain ⟨ck, hck⟩ : ∃ z, z = hasCK k := ⟨_, rfl⟩
    rw [← hck] at HE HH
    clear hck
    go_wp2_with fail
    refine (HH.out _).mono ?_
    rintro e w_ ⟨rfl, hb_⟩
    have HB_ := Lib.hid (HB.out.grow' hb_)
    clear HB
    have HB := HB_
    clear HB_
    clear hb_
    cases ck with
    | true =>
      have e1 : fc = 1 := by rw [HE.out]; rfl
      subst e1
      go_wp2_with fail
      refine (HC.out _).mono ?_
      rintro e w_ ⟨rfl, hb_⟩
      have HB_ := Lib.hid (HB.out.grow' hb_)
      clear HB
      have HB := HB_
      clear HB_
      clear hb_
      go_wp2_with fail
      go_ret
      exact ⟨rfl, HB.out⟩
    | false =>
      have e1 : fc = 0 := by rw [HE.out]; rfl
      subst e1
      go_wp2_with fail
      refine (HC.out _).mono ?_
      rintro e w_ ⟨rfl, hb_⟩
      have HB_ := Lib.hid (HB.out.grow' hb_)
      clear HB
      have HB := HB_
      clear HB_
      clear hb_
      go_wp2_with fail
      go_ret
      exact ⟨rfl, HB.out⟩
set_option maxRecDepth 100000 in
set_option maxHeartbeats 4000000 in
theorem rcmrate_any {Q : Nat → Prop} (hc : ∀ w, Calls Try.prog 51 #[.int .u64 (feeC m), .int .i64 (sizC m)] w fun e w' => ∃ x, e = .returned (.float .f64 x) ∧ Q x ∧ Drawn w w') :
    Calls Try.prog 17 #[.agg (q.vs m).toArray] w fun e w' => ∃ x, e = .returned (.float .f64 x) ∧ Q x ∧ Grow w w' := by
  have HC := Lib.hid (show ∀ w, Calls Try.prog 51 #[.int .u64 (feeC m), .int .i64 (sizC m)] w fun e w' => ∃ x, e = .returned (.float .f64 x) ∧ Q x ∧ Grow w w' from fun w => (hc w).mono fun e w' ⟨x, k1, k2, k3⟩ => ⟨x, k1, k2, k3.all⟩)
  have HXC := Lib.hid (vs_cl (q := q) h.ok)
  have X0 := Lib.hid (vs_kind q m)
  have X3 := Lib.hid (show (q.vs m)[3]? = some (.int .u64 m.tx.fee) from vs_tx (j := 2) rfl)
  have XX := Lib.hid (fun j u (hu : (q.tv m)[j]? = some u) => vs_tx (q := q) (m := m) hu)
  have LX := Lib.hid (show (q.tv m).length = 4 from rfl)
  have HCK := Lib.hid (fun (w' : World) (hg : Grow w w') => rtcheck_any (A := q.A) (n := q.n) (c := q.c) (A2 := q.A2) (n2 := q.n2) (c2 := q.c2) (fee := m.tx.fee) (ex := m.tx.expiry) w' (h.ins.grow hg) (h.outs.grow hg) (by rw [← h.n1]; exact hs.1) (by rw [← h.n2]; exact hs.2.1) h.ok.2.1.2.2.1 h.ok.2.1.2.2.2)
  rw [h.tx] at HCK
  rw [show txV q.A q.n q.c q.A2 q.n2 q.c2 m.tx.fee m.tx.expiry = q.tv m from rfl] at HCK
  have HPT := Lib.hid (show ∀ (hz : checkT m.tx = 0) (w' : World) (hg : Grow w w'), Calls Try.prog 34 #[.agg (q.tv m).toArray] w' fun e w'' => ∃ A' c', e = .returned (.slice A' (tformB m.tx).length c') ∧ Grow w' w'' from fun hz w' hg => by
    have r := right_of hz
    have hp := rtput_any (fee := m.tx.fee) (ex := m.tx.expiry) w' (h.ins.grow hg) (h.outs.grow hg) (by rw [← h.n1]; exact r.1) (by rw [← h.n2]; exact r.2.1) h.ok.2.1.2.2.1 r.2.2.1 (fun p hp => r.2.2.2 p.2 (by rw [h.insE]; exact List.mem_map_of_mem hp))
    rw [h.tx] at hp
    refine hp.mono fun e w'' ⟨A', c', k1, k2, k3, k4⟩ => ⟨A', c', ?_, k4⟩
    unfold tformB; rw [if_pos hz]; exact k1)
  have HNT := Lib.hid (show checkT m.tx ≠ 0 → (tformB m.tx).length = 0 from fun hz => by unfold tformB; rw [if_neg hz]; rfl)
  have HF := Lib.hid (show feeC m = if m.kind = 2 ∨ m.kind = 3 then m.tx.fee else if hasCK m.kind then 1 else 0 from rfl)
  have HS := Lib.hid (show sizC m = if m.kind = 2 ∨ m.kind = 3 then ((tformB m.tx).length : Int) else 0 from rfl)
  obtain ⟨xv, hxv⟩ : ∃ z, z = q.vs m := ⟨_, rfl⟩
  obtain ⟨tv, htv⟩ : ∃ z, z = q.tv m := ⟨_, rfl⟩
  obtain ⟨k, hk⟩ : ∃ z, z = m.kind := ⟨_, rfl⟩
  obtain ⟨fe, hfe⟩ : ∃ z, z = m.tx.fee := ⟨_, rfl⟩
  obtain ⟨ln, hln⟩ : ∃ z, z = (tformB m.tx).length := ⟨_, rfl⟩
  obtain ⟨ct, hct⟩ : ∃ z, z = checkT m.tx := ⟨_, rfl⟩
  obtain ⟨fc, hfc⟩ : ∃ z, z = feeC m := ⟨_, rfl⟩
  obtain ⟨sc, hsc⟩ : ∃ z, z = sizC m := ⟨_, rfl⟩
  rw [← hxv] at HXC X0 X3 XX ⊢; rw [← htv] at XX LX HCK HPT; rw [← hk] at X0 HF HS; rw [← hfe] at X3 HF; rw [← hln] at HPT HNT HS; rw [← hct] at HCK HPT HNT; rw [← hfc] at HC HF; rw [← hsc] at HC HS
  clear h hs hc hxv htv hk hfe hln hct hfc hsc
  obtain ⟨w_, hw⟩ : ∃ x, x = w := ⟨_, rfl⟩
  have HB := Lib.hid (show Below w.heap.size w w_ by rw [hw]; exact Below.refl _ _)
  suffices H : Calls Try.prog 17 #[.agg xv.toArray] w_ fun e w' => ∃ x, e = .returned (.float .f64 x) ∧ Q x ∧ Grow w w' by rw [hw] at H; exact H
  clear hw
  go_enter Try.func17, Try.ntmps17
  go_wp2_with (first | (with_reducible refine wpl_box (o := ⟨some 1, _, _, _, _, _⟩) rfl rfl rfl ?_))
  intro w2_ hb2_ hb_ hsz2_
  have HX_ := Lib.hid (at_mk hb2_ HXC.out.len)
  clear hb2_ hsz2_
  have HG_ := Lib.hid HB.out.size
  have HB_ := Lib.hid (HB.out.grow' hb_)
  clear HB
  have HB := HB_
  clear HB_
  generalize hg_ : w_.heap.size = g1 at HX_ HG_ ⊢
  clear hg_
  have HX_g := HG_
  clear HG_
  have HX := HX_
  clear hb_ HX_
  try clear w_
  rename World => w_
  have c0 := HX.out.blk.at_ X0.out
  by_cases h2 : k = 2 ∨ k = 3
  · have e1 : fc = fe := by rw [HF.out, if_pos h2]
    have HSC := Lib.hid (show sc = (ln : Int) by rw [HS.out, if_pos h2])
    subst e1
    clear HF HS
    go_upto_region 1 with fail
    go_cut [11] from 4 (fun s11 wr => s11 = .bool true ∧ Hid (At wr g1 33 73 xv) ∧ Hid (Below w.heap.size w wr))
    case first =>
      rcases h2 with rfl | rfl
      · go_wp2_with fail
        go_meet
        case rel => exact ⟨rfl, HX, HB⟩
      · go_wp2_with fail
        go_meet
        case rel => exact ⟨rfl, HX, HB⟩
    case rest =>
      obtain ⟨rfl, hx, hb⟩ := hcut
      clear HX HB c0 h2
      have HX := Lib.hid hx.out; have HB := Lib.hid hb.out
      clear hx hb
      clear w_
      rename World => w_
      have FX := Lib.hid (show ∀ j u, tv[j]? = some u → w_.cell? ⟨g1, 1 + j, none⟩ = some u from fun j u hu => HX.out.blk.at_ (XX.out j u hu))
      go_wp2_with (first | (with_reducible refine wpl_loadm (o := ⟨some 13, _, _, _, _, _⟩) rfl rfl row_tx FX.out rfl LX.out ?_))
      refine (HCK.out _ HB.out).mono ?_
      clear FX
      rintro e w2_ ⟨rfl, hb_⟩
      have hb_ := hb_
      clear hb_
      have HB_ := Lib.hid (HB.out.grow' hb_)
      clear HB
      have HB := HB_
      clear HB_
      have HX_ := Lib.hid (HX.out.grow hb_)
      clear HX
      have HX := HX_
      clear HX_
      clear hb_
      try clear w_
      rename World => w_
      by_cases hz : ct = 0
      · have z1 := beq_te (a := ct) (b := 0) hz
        have HP := Lib.hid (HPT.out hz)
        have FX := Lib.hid (show ∀ j u, tv[j]? = some u → w_.cell? ⟨g1, 1 + j, none⟩ = some u from fun j u hu => HX.out.blk.at_ (XX.out j u hu))
        clear hz
        go_wp2_with (first | (with_reducible refine wpl_loadm (o := ⟨some 17, _, _, _, _, _⟩) rfl rfl row_tx FX.out rfl LX.out ?_))
        refine (HP.out _ HB.out).mono ?_
        clear FX
        rintro e w2_ ⟨A9, c9, rfl, hb_⟩
        have hb_ := hb_
        clear hb_
        have HB_ := Lib.hid (HB.out.grow' hb_)
        clear HB
        have HB := HB_
        clear HB_
        have HX_ := Lib.hid (HX.out.grow hb_)
        clear HX
        have HX := HX_
        clear HX_
        clear hb_
        try clear w_
        rename World => w_
        have c3 := HX.out.blk.at_ X3.out
        rw [HSC.out] at HC
        go_wp2_with fail
        refine (HC.out _).mono ?_
        rintro e w2_ ⟨x, rfl, hq, hb_⟩
        have HQ := Lib.hid hq
        clear hq c3
        have hb_ := hb_
        clear hb_
        have HB_ := Lib.hid (HB.out.grow' hb_)
        clear HB
        have HB := HB_
        clear HB_
        clear hb_
        try clear w_
        rename World => w_
        go_wp2_with fail
        go_ret
        exact ⟨x, rfl, HQ.out, HB.out⟩
      · have z1 := beq_fe (a := ct) (b := 0) hz
        rw [HSC.out, HNT.out hz] at HC
        have c3 := HX.out.blk.at_ X3.out
        clear hz
        go_wp2_with fail
        refine (HC.out _).mono ?_
        rintro e w2_ ⟨x, rfl, hq, hb_⟩
        have HQ := Lib.hid hq
        clear hq c3
        have hb_ := hb_
        clear hb_
        have HB_ := Lib.hid (HB.out.grow' hb_)
        clear HB
        have HB := HB_
        clear HB_
        clear hb_
        try clear w_
        rename World => w_
        go_wp2_with fail
        go_ret
        exact ⟨x, rfl, HQ.out, HB.out⟩
  · have e1 : fc = if hasCK k then 1 else 0 := by rw [HF.out, if_neg h2]
    have e2 : sc = 0 := by rw [HS.out, if_neg h2]
    subst e2
    have y2 := beq_fe (a := k) (b := 2) (fun h => h2 (.inl h))
    have y3 := beq_fe (a := k) (b := 3) (fun h => h2 (.inr h))
    clear h2
    rcases Int.lt_or_le k 4 with h4 | h4
    · have e3 : fc = 0 := by rw [e1, show hasCK k = false by unfold hasCK; simp; omega]; rfl
      have y4 : (4 ≤ k) = False := eq_false (by omega)
      subst e3
      clear h4 e1
      go_wp2_with fail
      refine (HC.out _).mono ?_
      rintro e w2_ ⟨x, rfl, hq, hb_⟩
      have HQ := Lib.hid hq
      clear hq c0
      have hb_ := hb_
      clear hb_
      have HB_ := Lib.hid (HB.out.grow' hb_)
      clear HB
      have HB := HB_
      clear HB_
      clear hb_
      try clear w_
      rename World => w_
      go_wp2_with fail
      go_ret
      exact ⟨x, rfl, HQ.out, HB.out⟩
    · have y4 : (4 ≤ k) = True := eq_true h4
      rcases Int.lt_or_le 6 k with h6 | h6
      · have e3 : fc = 0 := by rw [e1, show hasCK k = false by unfold hasCK; simp; omega]; rfl
        have y6 : (k ≤ 6) = False := eq_false (by omega)
        subst e3
        clear h4 h6 e1
        go_wp2_with fail
        refine (HC.out _).mono ?_
        rintro e w2_ ⟨x, rfl, hq, hb_⟩
        have HQ := Lib.hid hq
        clear hq c0
        have hb_ := hb_
        clear hb_
        have HB_ := Lib.hid (HB.out.grow' hb_)
        clear HB
        have HB := HB_
        clear HB_
        clear hb_
        try clear w_
        rename World => w_
        go_wp2_with fail
        go_ret
        exact ⟨x, rfl, HQ.out, HB.out⟩
      · have e3 : fc = 1 := by rw [e1, show hasCK k = true by unfold hasCK; simp; omega]; rfl
        have y6 : (k ≤ 6) = True := eq_true h6
        subst e3
        clear h4 h6 e1
        go_wp2_with fail
        refine (HC.out _).mono ?_
        rintro e w2_ ⟨x, rfl, hq, hb_⟩
        have HQ := Lib.hid hq
        clear hq c0
        have hb_ := hb_
        clear hb_
        have HB_ := Lib.hid (HB.out.grow' hb_)
        clear HB
        have HB := HB_
        clear HB_
        clear hb_
        try clear w_
        rename World => w_
        go_wp2_with fail
        go_ret
        exact ⟨x, rfl, HQ.out, HB.out⟩
end
end Go.Proofs.Ytobmldegjajocaa
/- A command that is given is opened, with its sizes. -/
namespace Go.Proofs.Ytobmldegjajocaa
open Go.RowKit Go.ChangeShapes Go.WideShapes
set_option linter.unusedVariables false
set_option maxRecDepth 100000
section
variable {H : Type} {enc : TypeId × Value → H} {w : World} {r : Reach} {b0 base : Nat} {spare : Nat → Bool} {held : Bool}
theorem trod_txM {fuel : Nat} {cs : List Value} {y : DataW H × List MemPlace} (hl0 : cs.length = 4) (hf : DataW.trod enc Try.prog w base spare held fuel 26 cs = some y) :
    ∃ A n c A2 n2 c2, ∃ l : List (Value × Inp), ∃ os : List Outp, ∃ fee ex : Int, cs = txV A n c A2 n2 c2 fee ex ∧ InsAt w A n c l ∧ OutsAt w A2 n2 c2 os ∧ U64 fee ∧ I64 ex ∧ n ≤ maxLen ∧ n2 ≤ maxLen := by
  obtain ⟨xs, n, _, _, hl, hxs, hg⟩ := DataW.trod_struct Try.underlying26 hf
  replace hg := fun i f h => hg i f h
  have hxs5 : xs.length = 4 := hxs
  obtain ⟨y0, h0⟩ := got (hg 0 _ rfl) (by omega)
  obtain ⟨y1, h1⟩ := got (hg 1 _ rfl) (by omega)
  obtain ⟨y2, h2⟩ := got (hg 2 _ rfl) (by omega)
  obtain ⟨y3, h3⟩ := got (hg 3 _ rfl) (by omega)
  replace h0 : DataW.trod enc Try.prog w base spare held n 22 ((cs.drop 0).take (Try.prog.cellsOf 22)) = some y0 := h0
  replace h1 : DataW.trod enc Try.prog w base spare held n 23 ((cs.drop 1).take (Try.prog.cellsOf 23)) = some y1 := h1
  replace h2 : DataW.trod enc Try.prog w base spare held n 24 ((cs.drop 2).take (Try.prog.cellsOf 24)) = some y2 := h2
  replace h3 : DataW.trod enc Try.prog w base spare held n 3 ((cs.drop 3).take (Try.prog.cellsOf 3)) = some y3 := h3
  rw [cells_stin] at h0
  rw [cells_stout] at h1
  rw [cells_u64] at h2
  rw [cells_int] at h3
  obtain ⟨A, m, c, l, e0, l0, m0, x0, s0, k0, _⟩ := open_list0 (fun p : Value × Inp => inV p.1 p.2) (fun p => InOK w w.heap.size p) Try.underlying22 cells_tin (show 0 < 35 by omega) (fun fuel cs y hl ht => trod_in hl ht) h0
  obtain ⟨A2, m2, c2, os, e1, l1, m1, x1, s1, k1, _⟩ := open_list0 outV Outp.ok Try.underlying23 cells_tout (show 0 < 33 by omega) (fun fuel cs y hl ht => trod_out hl ht) h1
  obtain ⟨z2, e2, _, w2⟩ := DataW.trod_int Try.underlying24 h2
  obtain ⟨z3, e3, _, w3⟩ := DataW.trod_int Try.underlying3 h3
  refine ⟨A, m, c, A2, m2, c2, l, os, z2, z3, ?_, ⟨s0, k0, l0, m0⟩, ⟨s1, k1, l1, m1⟩, u64_of w2, i64_of w3, Nat.le_trans m0 x0, Nat.le_trans m1 x1⟩
  have a4 : cs.drop 4 = [] := List.drop_of_length_le (by omega)
  have a3 := cut_eq e3 a4
  have a2 := cut_eq e2 a3
  have a1 := cut_eq e1 a2
  have a0 := cut_eq e0 a1
  rw [List.drop_zero] at a0
  rw [a0]; simp [txV]
theorem trod_cmdM {fuel : Nat} {cs : List Value} {y : DataW H × List MemPlace} (hl0 : cs.length = 73) (hf : DataW.trod enc Try.prog w base spare held fuel 33 cs = some y) :
    ∃ (q : CW) (m : Cmd), cs = q.vs m ∧ CmdAt w q m ∧ q.n ≤ 9223372036854775807 ∧ q.n2 ≤ 9223372036854775807 ∧ q.n3 ≤ 9223372036854775807 := by
  obtain ⟨xs, n, _, _, hl, hxs, hg⟩ := DataW.trod_struct Try.underlying33 hf
  replace hg := fun i f h => hg i f h
  have hxs5 : xs.length = 7 := hxs
  obtain ⟨y0, h0⟩ := got (hg 0 _ rfl) (by omega)
  obtain ⟨y1, h1⟩ := got (hg 1 _ rfl) (by omega)
  obtain ⟨y2, h2⟩ := got (hg 2 _ rfl) (by omega)
  obtain ⟨y3, h3⟩ := got (hg 3 _ rfl) (by omega)
  obtain ⟨y4, h4⟩ := got (hg 4 _ rfl) (by omega)
  obtain ⟨y5, h5⟩ := got (hg 5 _ rfl) (by omega)
  obtain ⟨y6, h6⟩ := got (hg 6 _ rfl) (by omega)
  replace h0 : DataW.trod enc Try.prog w base spare held n 3 ((cs.drop 0).take (Try.prog.cellsOf 3)) = some y0 := h0
  replace h1 : DataW.trod enc Try.prog w base spare held n 26 ((cs.drop 1).take (Try.prog.cellsOf 26)) = some y1 := h1
  replace h2 : DataW.trod enc Try.prog w base spare held n 27 ((cs.drop 5).take (Try.prog.cellsOf 27)) = some y2 := h2
  replace h3 : DataW.trod enc Try.prog w base spare held n 31 ((cs.drop 6).take (Try.prog.cellsOf 31)) = some y3 := h3
  replace h4 : DataW.trod enc Try.prog w base spare held n 3 ((cs.drop 39).take (Try.prog.cellsOf 3)) = some y4 := h4
  replace h5 : DataW.trod enc Try.prog w base spare held n 3 ((cs.drop 40).take (Try.prog.cellsOf 3)) = some y5 := h5
  replace h6 : DataW.trod enc Try.prog w base spare held n 29 ((cs.drop 41).take (Try.prog.cellsOf 29)) = some y6 := h6
  rw [cells_int] at h0
  rw [cells_tx] at h1
  rw [cells_scert] at h2
  rw [cells_tout] at h3
  rw [cells_int] at h4
  rw [cells_int] at h5
  rw [cells_id] at h6
  obtain ⟨z0, e0, _, w0⟩ := DataW.trod_int Try.underlying3 h0
  obtain ⟨A, m, c, A2, m2, c2, l, os, fee, ex, e1, hi1, ho1, hf1, hx1, hm1, hm2⟩ := trod_txM (by rw [List.length_take, List.length_drop]; omega) h1
  obtain ⟨A3, m3, c3, cl, e2, l2, x2, y2, s2, k2, _⟩ := open_list0 (fun p : Value × Cer => certV p.1 p.2) (fun p => CerOK w w.heap.size p) Try.underlying27 cells_cert (show 0 < 137 by omega) (fun fuel cs y hl ht => trod_certQ hl ht) h2
  obtain ⟨dst, e3, k3⟩ := trod_out (by rw [List.length_take, List.length_drop]; omega) h3
  obtain ⟨z4, e4, _, w4⟩ := DataW.trod_int Try.underlying3 h4
  obtain ⟨z5, e5, _, w5⟩ := DataW.trod_int Try.underlying3 h5
  obtain ⟨d6, e6, l6⟩ := trod_bytes Try.underlying29 Try.underlying5 cells_u8 cells_id h6
  refine ⟨⟨A, m, c, A2, m2, c2, A3, m3, c3, l, cl⟩, ⟨z0, ⟨l.map Prod.snd, os, fee, ex⟩, cl.map Prod.snd, dst, z4, z5, d6⟩, ?_, ⟨hi1, ho1, ⟨s2, k2, l2, x2⟩, rfl, rfl, i64_of w0, ⟨fun i hi => by obtain ⟨p, hp, rfl⟩ := List.mem_map.1 hi; exact (hi1.2.1 p hp).2, ho1.2.1, hf1, hx1⟩, fun x hx => by obtain ⟨p, hp, rfl⟩ := List.mem_map.1 hx; exact (k2 p hp).2, k3, i64_of w4, i64_of w5, l6⟩, by unfold maxLen at hm1; simp only; omega, by unfold maxLen at hm2; simp only; omega, by unfold maxLen at y2; simp only; omega⟩
  have a7 : cs.drop 73 = [] := List.drop_of_length_le (by omega)
  have a6 := cut_eq e6 a7
  have a5 := cut_eq e5 a6
  have a4 := cut_eq e4 a5
  have a3 := cut_eq e3 a4
  have a2 := cut_eq e2 a3
  have a1 := cut_eq e1 a2
  have a0 := cut_eq e0 a1
  rw [List.drop_zero] at a0
  rw [a0]; simp [CW.vs, CW.tv, cmdV]
theorem open_cmdM {v : Value} {d : DataW H} {ps : List MemPlace} (hval : Value.okWide Try.prog w r b0 33 v) (h : DataW.Trod enc Try.prog w base spare held 33 v d ps) :
    ∃ (q : CW) (m : Cmd), v = .agg (q.vs m).toArray ∧ CmdAt w q m ∧ q.n ≤ 9223372036854775807 ∧ q.n2 ≤ 9223372036854775807 ∧ q.n3 ≤ 9223372036854775807 := by
  obtain ⟨cs, rfl, hsz⟩ := okWide_struct Try.underlying33 hval
  obtain ⟨fuel, hf⟩ := h
  rw [cells_cmd] at hsz
  obtain ⟨q, m, e, hc⟩ := trod_cmdM (cs := cs.toList) (by simpa using hsz) hf
  exact ⟨q, m, by rw [← e], hc⟩
end
end Go.Proofs.Ytobmldegjajocaa
/- The walk of CommandSame. -/
namespace Go.Proofs.Ytobmldegjajocaa
open Go.RowKit Go.Shelf
set_option linter.unusedVariables false
theorem great_noC {m : Cmd} (h : greatCm m = false) : SmallC m ∧ m.certs.length ≤ 20 := by
  unfold greatCm at h
  simp only [Bool.or_eq_false_iff, decide_eq_false_iff_not, List.any_eq_false] at h
  obtain ⟨h1, h2, h3⟩ := h
  unfold greatT at h3
  simp only [Bool.or_eq_false_iff, decide_eq_false_iff_not, List.any_eq_false, decide_eq_true_eq] at h3
  refine ⟨⟨by omega, by omega, fun i hi => ?_, by omega, fun x hx => ?_⟩, by omega⟩
  · have := h3.2 i hi; omega
  · rw [List.take_of_length_le (by omega)] at h1
    have := h1 x hx
    unfold bigPath at this
    simp at this; omega
end Go.Proofs.Ytobmldegjajocaa
/- The walk of CommandRate. -/
namespace Go.Proofs.Ytobmldegjajocaa
open Go.RowKit Go.Shelf
set_option linter.unusedVariables false
theorem feeC_pays {m : Cmd} (h : m.kind = 2 ∨ m.kind = 3) : feeC m = m.tx.fee ∧ sizC m = ((tformB m.tx).length : Int) := by unfold feeC sizC; rw [if_pos h, if_pos h]; exact ⟨rfl, rfl⟩
theorem feeC_else {m : Cmd} (h : ¬ (m.kind = 2 ∨ m.kind = 3)) : feeC m = (if hasCK m.kind then 1 else 0) ∧ sizC m = 0 := by unfold feeC sizC; rw [if_neg h, if_neg h]; exact ⟨rfl, rfl⟩
theorem tform_len {t : Txn} (hk : t.ok) : (tformB t).length ≤ 3000 ∧ (checkT t = 0 → 0 < (tformB t).length) := by
  unfold tformB
  by_cases h : checkT t = 0
  · rw [if_pos h]
    refine ⟨putTB_le hk h, fun _ => ?_⟩
    have := numB_len (t.ins.length)
    unfold putTB
    simp only [List.length_append]
    omega
  · rw [if_neg h]; exact ⟨by simp, fun h2 => absurd h2 h⟩
set_option maxRecDepth 100000 in
set_option maxHeartbeats 8000000 in
theorem cmRate_walk (q1 : CW) (m1 : Cmd) (w : World) (h1 : CmdAt w q1 m1) (h1n : q1.n ≤ 9223372036854775807) (h1o : q1.n2 ≤ 9223372036854775807) (h1c : q1.n3 ≤ 9223372036854775807) :
    Calls Try.prog 6 #[.agg (q1.vs m1).toArray] w fun e w' => e = .returned (.bool true) ∧ Below w.heap.size w w' := by
  have HXC := Lib.hid (vs_cl (q := q1) h1.ok)
  have X0 := Lib.hid (vs_kind q1 m1)
  have XX := Lib.hid (fun j u (hu : (q1.tv m1)[j]? = some u) => vs_tx (q := q1) (m := m1) hu)
  have LX := Lib.hid (show (q1.tv m1).length = 4 from rfl)
  have G1 := Lib.hid (fun (w' : World) (hg : Grow w w') => great24_any w' (h1.grow hg) h1n h1o)
  have hto := h1.ok.2.1
  have htl := tform_len hto
  have hf0 : 0 ≤ feeC m1 ∧ feeC m1 ≤ 18446744073709551615 := by
    have hu := hto.2.2.1
    unfold U64 at hu
    by_cases h : m1.kind = 2 ∨ m1.kind = 3
    · rw [(feeC_pays h).1]; omega
    · rw [(feeC_else h).1]; split <;> omega
  have hs0 : 0 ≤ sizC m1 ∧ sizC m1 ≤ 9223372036854775807 := by
    by_cases h : m1.kind = 2 ∨ m1.kind = 3
    · rw [(feeC_pays h).2]; omega
    · rw [(feeC_else h).2]; omega
  obtain ⟨r, hr, c1, c2, c3, c4, c5⟩ := of_all (feeC m1) (sizC m1) hf0.1 hf0.2 hs0.2
  have HP1 := Lib.hid (fun (hz : SmallC m1) (w' : World) (hg : Grow w w') => cmrate_any w' (h1.grow hg) hz c1)
  have HP2 := Lib.hid (fun (hz : SmallC m1) (w' : World) (hg : Grow w w') => rcmrate_any (Q := fun x => sameF r x = true ∧ x < 2^64) w' (h1.grow hg) hz c2)
  have HRS := Lib.hid (fun (w : World) (x : Nat) (hq : sameF r x = true ∧ x < 2^64) => show Calls Try.prog 18 #[.float .f64 r, .float .f64 x] w fun e w' => e = .returned (.bool true) ∧ Grow w w' from (rsame_any r x w hr hq.2).mono fun e w' ⟨k1, k2⟩ => ⟨by rw [k1, hq.1], by rw [← k2]; exact Below.refl _ _⟩)
  have HCK := Lib.hid (fun (hs : SmallC m1) (w' : World) (hg : Grow w w') => rtcheck_any (A := q1.A) (n := q1.n) (c := q1.c) (A2 := q1.A2) (n2 := q1.n2) (c2 := q1.c2) (fee := m1.tx.fee) (ex := m1.tx.expiry) w' (h1.ins.grow hg) (h1.outs.grow hg) (by rw [← h1.n1]; exact hs.1) (by rw [← h1.n2]; exact hs.2.1) hto.2.2.1 hto.2.2.2)
  rw [h1.tx] at HCK
  rw [show txV q1.A q1.n q1.c q1.A2 q1.n2 q1.c2 m1.tx.fee m1.tx.expiry = q1.tv m1 from rfl] at HCK
  have HPAY := Lib.hid (show m1.kind = 2 ∨ m1.kind = 3 → checkT m1.tx = 0 → r < 9218868437227405312 from fun h hz => c3 (by rw [(feeC_pays h).2]; have := htl.2 hz; omega))
  have HON := Lib.hid (show hasCK m1.kind = true → r = 9218868437227405312 from fun h => by
    have hne : ¬ (m1.kind = 2 ∨ m1.kind = 3) := by unfold hasCK at h; simp at h; omega
    have e := feeC_else hne
    rw [h, if_pos rfl] at e
    exact c4 e.2 (by rw [e.1]; decide))
  have HEL := Lib.hid (show ¬ (m1.kind = 2 ∨ m1.kind = 3) → hasCK m1.kind = false → nanB r = true from fun hne h => by
    have e := feeC_else hne
    rw [h, if_neg (by decide)] at e
    rw [c5 e.2 e.1]; decide +kernel)
  have HO1 := Lib.hid (ord_ne r r hr hr)
  have HO2 := Lib.hid (ord_gt r 9218868437227405311 hr (by omega))
  have HO3 := Lib.hid (ord_gt r 0 hr (by omega)); have HO4 := Lib.hid (ord_eq r 0 hr (by omega))
  have HO5 := Lib.hid (ord_lt r 9218868437227405311 hr (by omega)); have HO6 := Lib.hid (ord_eq r 9218868437227405311 hr (by omega))
  have HSA := Lib.hid (fun h => (great_noC (m := m1) h).1)
  obtain ⟨ga, hga⟩ : ∃ z, z = greatCm m1 := ⟨_, rfl⟩
  rw [← hga] at G1 HSA
  obtain ⟨xv, hxv⟩ : ∃ z, z = q1.vs m1 := ⟨_, rfl⟩
  obtain ⟨tv, htv⟩ : ∃ z, z = q1.tv m1 := ⟨_, rfl⟩
  obtain ⟨k, hk⟩ : ∃ z, z = m1.kind := ⟨_, rfl⟩
  obtain ⟨ct, hct⟩ : ∃ z, z = checkT m1.tx := ⟨_, rfl⟩
  rw [← hxv] at HXC X0 XX G1 HP1 HP2 ⊢; rw [← htv] at XX LX HCK; rw [← hk] at X0 HPAY HON HEL; rw [← hct] at HCK HPAY
  clear h1 h1n h1o h1c hto htl hf0 hs0 hr c1 c2 c3 c4 c5 hga hxv htv hk hct
  obtain ⟨w_, hw⟩ : ∃ x, x = w := ⟨_, rfl⟩
  have HB := Lib.hid (show Below w.heap.size w w_ by rw [hw]; exact Below.refl _ _)
  suffices H : Calls Try.prog 6 #[.agg xv.toArray] w_ fun e w' => e = .returned (.bool true) ∧ Below w.heap.size w w' by rw [hw] at H; exact H
  clear hw
  go_enter Try.func6, Try.ntmps6
  go_wp2_with (first | (with_reducible refine wpl_box (o := ⟨some 1, _, _, _, _, _⟩) rfl rfl rfl ?_))
  intro w2_ hb2_ hb_ hsz2_
  have HX_ := Lib.hid (at_mk hb2_ HXC.out.len)
  clear hb2_ hsz2_
  have HG_ := Lib.hid HB.out.size
  have HB_ := Lib.hid (HB.out.grow' hb_)
  clear HB
  have HB := HB_
  clear HB_
  generalize hg_ : w_.heap.size = g1 at HX_ HG_ ⊢
  clear hg_
  have HX_g := HG_
  clear HG_
  have HX := HX_
  clear hb_ HX_
  try clear w_
  rename World => w_
  go_wp2_with (first | (with_reducible refine wpl_loadb (o := ⟨_, .load _ _, _, _, _, _⟩) rfl rfl row_cmd HX.out.blk rfl HX.out.len ?_) | (with_reducible refine wpl_loadw (o := ⟨_, .load _ _, _, _, _, _⟩) (by first | rfl | (go_simp; done) | fail) rfl row_cmd HX.out.blk rfl HX.out.len ?_))
  refine (G1.out _ HB.out).mono ?_
  rintro e w_ ⟨rfl, hb_⟩
  have HB_ := Lib.hid (HB.out.grow' hb_)
  clear HB
  have HB := HB_
  clear HB_
  have HX_ := Lib.hid (HX.out.grow hb_)
  clear HX
  have HX := HX_
  clear HX_
  clear hb_
  cases ga with
  | true =>
    go_wp2_with fail
    refine (awake24_any _).mono ?_
    rintro e w_ ⟨rfl, hb_⟩
    have HB_ := Lib.hid (HB.out.grow' hb_)
    clear HB
    have HB := HB_
    clear HB_
    clear hb_
    go_wp2_with fail
    go_ret
    exact ⟨rfl, HB.out⟩
  | false =>
  have ZA := Lib.hid (HSA.out rfl)
  clear G1 HSA
  go_wp2_with (first | (with_reducible refine wpl_loadb (o := ⟨_, .load _ _, _, _, _, _⟩) rfl rfl row_cmd HX.out.blk rfl HX.out.len ?_) | (with_reducible refine wpl_loadw (o := ⟨_, .load _ _, _, _, _, _⟩) (by first | rfl | (go_simp; done) | fail) rfl row_cmd HX.out.blk rfl HX.out.len ?_))
  refine (HP1.out ZA.out _ HB.out).mono ?_
  rintro e w_ ⟨rfl, hb_⟩
  have HB_ := Lib.hid (HB.out.grow' hb_)
  clear HB
  have HB := HB_
  clear HB_
  have HX_ := Lib.hid (HX.out.grow hb_)
  clear HX
  have HX := HX_
  clear HX_
  clear hb_
  go_wp2_with (first | (with_reducible refine wpl_loadb (o := ⟨_, .load _ _, _, _, _, _⟩) rfl rfl row_cmd HX.out.blk rfl HX.out.len ?_) | (with_reducible refine wpl_loadw (o := ⟨_, .load _ _, _, _, _, _⟩) (by first | rfl | (go_simp; done) | fail) rfl row_cmd HX.out.blk rfl HX.out.len ?_))
  refine (HP2.out ZA.out _ HB.out).mono ?_
  rintro e w2_ ⟨x, rfl, hq, hb_⟩
  have HQ := Lib.hid (fun w => HRS.out w x hq)
  clear hq HRS HP1 HP2
  have hb_ := hb_
  clear hb_
  have HB_ := Lib.hid (HB.out.grow' hb_)
  clear HB
  have HB := HB_
  clear HB_
  have HX_ := Lib.hid (HX.out.grow hb_)
  clear HX
  have HX := HX_
  clear HX_
  clear hb_
  try clear w_
  rename World => w_
  have c0 := HX.out.blk.at_ X0.out
  by_cases h2 : k = 2 ∨ k = 3
  · have HPY := Lib.hid (HPAY.out h2)
    clear HPAY HON HEL
    have y4 := beq_fe (a := k) (b := 4) (by omega)
    have y5 := beq_fe (a := k) (b := 5) (by omega)
    have y6 := beq_fe (a := k) (b := 6) (by omega)
    go_upto_region 5 with fail
    go_cut [5] from 7 (fun s5 wr => s5 = .bool true ∧ Hid (At wr g1 33 73 xv) ∧ Hid (Below w.heap.size w wr))
    case first =>
      rcases h2 with h2 | h2
      · have y2 := beq_te (a := k) (b := 2) h2
        clear h2
        go_wp2_with fail
        go_meet
        case rel => exact ⟨rfl, HX, HB⟩
      · have y2 := beq_fe (a := k) (b := 2) (by omega)
        have y3 := beq_te (a := k) (b := 3) h2
        clear h2
        go_wp2_with fail
        go_meet
        case rel => exact ⟨rfl, HX, HB⟩
    case rest =>
    obtain ⟨rfl, hx, hb⟩ := hcut
    clear HX HB c0 h2
    have HX := Lib.hid hx.out; have HB := Lib.hid hb.out
    clear hx hb
    clear w_
    rename World => w_
    have c0 := HX.out.blk.at_ X0.out
    go_wp2_with fail
    refine (HQ.out _).mono ?_
    clear c0
    rintro e w2_ ⟨rfl, hb_⟩
    have hb_ := hb_
    clear hb_
    have HB_ := Lib.hid (HB.out.grow' hb_)
    clear HB
    have HB := HB_
    clear HB_
    have HX_ := Lib.hid (HX.out.grow hb_)
    clear HX
    have HX := HX_
    clear HX_
    clear hb_
    try clear w_
    rename World => w_
    have FX := Lib.hid (show ∀ j u, tv[j]? = some u → w_.cell? ⟨g1, 1 + j, none⟩ = some u from fun j u hu => HX.out.blk.at_ (XX.out j u hu))
    go_wp2_with (first | (with_reducible refine wpl_loadmw (o := ⟨some 62, _, _, _, _, _⟩) (by first | rfl | (go_simp; done) | fail) rfl row_tx FX.out rfl LX.out ?_))
    refine (HCK.out ZA.out _ HB.out).mono ?_
    clear FX
    rintro e w2_ ⟨rfl, hb_⟩
    have hb_ := hb_
    clear hb_
    have HB_ := Lib.hid (HB.out.grow' hb_)
    clear HB
    have HB := HB_
    clear HB_
    have HX_ := Lib.hid (HX.out.grow hb_)
    clear HX
    have HX := HX_
    clear HX_
    clear hb_
    try clear w_
    rename World => w_
    by_cases hz : ct = 0
    · have z1 := bne_f (a := ct) (b := 0) hz
      obtain ⟨hge, hle⟩ := fin_ge (HPY.out hz)
      have o3 := HO3.out; have o4 := HO4.out; have o5 := HO5.out; have o6 := HO6.out
      obtain ⟨b3, hb3⟩ : ∃ z, z = ltF 0 r := ⟨_, rfl⟩
      obtain ⟨b4, hb4⟩ : ∃ z, z = eqF r 0 := ⟨_, rfl⟩
      obtain ⟨b5, hb5⟩ : ∃ z, z = ltF r 9218868437227405311 := ⟨_, rfl⟩
      obtain ⟨b6, hb6⟩ : ∃ z, z = eqF r 9218868437227405311 := ⟨_, rfl⟩
      rw [← hb3] at o3 hge; rw [← hb4] at o4 hge; rw [← hb5] at o5 hle; rw [← hb6] at o6 hle
      clear hz hb3 hb4 hb5 hb6 y4 y5 y6
      go_wp2_with fail
      refine (awake24_any _).mono ?_
      rintro e w_ ⟨rfl, hb_⟩
      have HB_ := Lib.hid (HB.out.grow' hb_)
      clear HB
      have HB := HB_
      clear HB_
      clear hb_
      go_wp2_with fail
      go_ret
      exact ⟨rfl, HB.out⟩
    · have z1 := bne_t (a := ct) (b := 0) hz
      clear hz
      go_wp2_with fail
      refine (awake24_any _).mono ?_
      rintro e w_ ⟨rfl, hb_⟩
      have HB_ := Lib.hid (HB.out.grow' hb_)
      clear HB
      have HB := HB_
      clear HB_
      clear hb_
      go_wp2_with fail
      go_ret
      exact ⟨rfl, HB.out⟩
  · have y2 := beq_fe (a := k) (b := 2) (fun h => h2 (.inl h))
    have y3 := beq_fe (a := k) (b := 3) (fun h => h2 (.inr h))
    by_cases h3 : hasCK k = true
    · have e := HON.out h3
      have o2 := HO2.out
      rw [e, inf_gt] at o2
      clear HPAY HON HEL h2
      have HK := Lib.hid (show k = 4 ∨ k = 5 ∨ k = 6 by unfold hasCK at h3; simp at h3; omega)
      clear h3
      subst e
      go_upto_region 6 with fail
      go_cut [6] from 7 (fun s6 wr => s6 = .bool true ∧ Hid (At wr g1 33 73 xv) ∧ Hid (Below w.heap.size w wr))
      case first =>
        rcases HK.out with h | h | h
        · have y4 := beq_te (a := k) (b := 4) h
          clear h
          go_wp2_with fail
          go_meet
          case rel => exact ⟨rfl, HX, HB⟩
        · have y4 := beq_fe (a := k) (b := 4) (by omega)
          have y5 := beq_te (a := k) (b := 5) h
          clear h
          go_wp2_with fail
          go_meet
          case rel => exact ⟨rfl, HX, HB⟩
        · have y4 := beq_fe (a := k) (b := 4) (by omega)
          have y5 := beq_fe (a := k) (b := 5) (by omega)
          have y6 := beq_te (a := k) (b := 6) h
          clear h
          go_wp2_with fail
          go_meet
          case rel => exact ⟨rfl, HX, HB⟩
      case rest =>
      obtain ⟨rfl, hx, hb⟩ := hcut
      clear HX HB c0
      have HX := Lib.hid hx.out; have HB := Lib.hid hb.out
      clear hx hb
      clear w_
      rename World => w_
      go_wp2_with fail
      refine (HQ.out _).mono ?_
      rintro e w2_ ⟨rfl, hb_⟩
      have hb_ := hb_
      clear hb_
      have HB_ := Lib.hid (HB.out.grow' hb_)
      clear HB
      have HB := HB_
      clear HB_
      have HX_ := Lib.hid (HX.out.grow hb_)
      clear HX
      have HX := HX_
      clear HX_
      clear hb_
      try clear w_
      rename World => w_
      go_wp2_with fail
      refine (awake24_any _).mono ?_
      rintro e w_ ⟨rfl, hb_⟩
      have HB_ := Lib.hid (HB.out.grow' hb_)
      clear HB
      have HB := HB_
      clear HB_
      clear hb_
      go_wp2_with fail
      go_ret
      exact ⟨rfl, HB.out⟩
    · have o1 := HO1.out
      rw [eqF_self, Bool.not_not, HEL.out h2 (by simpa using h3)] at o1
      have hk4 : ¬ (k = 4 ∨ k = 5 ∨ k = 6) := by intro h; apply h3; unfold hasCK; simp; omega
      have y4 := beq_fe (a := k) (b := 4) (by omega)
      have y5 := beq_fe (a := k) (b := 5) (by omega)
      have y6 := beq_fe (a := k) (b := 6) (by omega)
      clear HPAY HON HEL h2 h3 hk4
      go_wp2_with fail
      refine (HQ.out _).mono ?_
      rintro e w2_ ⟨rfl, hb_⟩
      clear c0
      have hb_ := hb_
      clear hb_
      have HB_ := Lib.hid (HB.out.grow' hb_)
      clear HB
      have HB := HB_
      clear HB_
      have HX_ := Lib.hid (HX.out.grow hb_)
      clear HX
      have HX := HX_
      clear HX_
      clear hb_
      try clear w_
      rename World => w_
      go_wp2_with fail
      refine (awake24_any _).mono ?_
      rintro e w_ ⟨rfl, hb_⟩
      have HB_ := Lib.hid (HB.out.grow' hb_)
      clear HB
      have HB := HB_
      clear HB_
      clear hb_
      go_wp2_with fail
      go_ret
      exact ⟨rfl, HB.out⟩
end Go.Proofs.Ytobmldegjajocaa

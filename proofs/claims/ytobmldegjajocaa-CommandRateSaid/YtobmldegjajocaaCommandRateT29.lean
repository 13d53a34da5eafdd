/- The contract of command.Read. -/
import Derived.Test.YtobmldegjajocaaCommandRateT27
import Derived.Test.YtobmldegjajocaaCommandRateT28
set_option linter.unusedSimpArgs false
/- The contract of command.Read. -/
namespace Go.Proofs.Ytobmldegjajocaa
open Go.RowKit Go.Shelf
set_option linter.unusedVariables false
theorem info_cert : (Try.prog.info? 59).map (fun i => (i.zero, i.size, i.bytes)) = some (some (.agg (certV (.slice none 0 0) noCer).toArray), 137, 216) := by kernel_rfl
theorem el_cert : ElemT Try.prog 27 59 137 216 := elemT Try.underlying27 info_cert (by kernel_rfl) (by omega)
theorem built_cmd0 : Try.prog.built 33 [] = some (noCW.vs noCmd).toArray := by kernel_rfl
/-- A command that was read, and its error. -/
def CmRead (w w' : World) (l : List UInt8) (e : Ending) : Prop := ∃ q : CW, e = .returned (.tuple #[.agg (q.vs (cmdOf (readCm l))).toArray, .int .i64 (errOf (readCm l) : Int)]) ∧ CmdAt w' q (cmdOf (readCm l)) ∧ Below w.heap.size w w'
theorem cmdAt_no (w : World) : CmdAt w noCW noCmd := ⟨insAt_nil, outsAt_nil, CertsAt.nil w, rfl, rfl, noCmd_ok⟩
theorem readCm_cases (l : List UInt8) (hl : l.length ≤ 8192) : (∃ x, eyeErr (restOf (lookCm l)) = x ∧ x ≠ 0 ∧ readCm l = .error x) ∨ (∃ p, eyeErr (restOf (lookCm l)) = 0 ∧ lookCm l = .ok (p, []) ∧ readCm l = fillC p) := by
  unfold readCm
  rw [if_neg (by omega)]
  cases h : lookCm l with
  | error x => exact .inl ⟨x, rfl, lookCm_err h, rfl⟩
  | ok p =>
    obtain ⟨r, t⟩ := p
    cases t with
    | nil => exact .inr ⟨r, rfl, rfl, by simp⟩
    | cons a t => exact .inl ⟨3, rfl, by omega, by simp⟩
theorem fillC_no {p : LkC} {x : Nat} (h : hasTxK p.m.kind = true) (hx : readT p.t = .error x) : fillC p = .error x := by unfold fillC; rw [if_pos h, hx]
theorem fillC_go {p : LkC} {t : Txn} (h : (if hasTxK p.m.kind then readT p.t else .ok noTxn) = .ok t) : (∀ x, readCs p.cs = .error x → fillC p = .error x) ∧ ∀ cs, readCs p.cs = .ok cs → fillC p = .ok { p.m with tx := t, certs := cs } :=
  ⟨fun x hx => by unfold fillC; rw [h]; simp only; rw [hx], fun cs hc => by unfold fillC; rw [h]; simp only; rw [hc]⟩
/-- All blocks between Z and the end of wZ are as they were there. -/
def KpZ (wZ : World) (Z : Nat) (w : World) : Prop := wZ.heap.size ≤ w.heap.size ∧ ∀ b, Z ≤ b → b < wZ.heap.size → w.heap[b]? = wZ.heap[b]?
theorem KpZ.refl (w : World) (Z : Nat) : KpZ w Z w := ⟨Nat.le_refl _, fun _ _ _ => rfl⟩
theorem KpZ.row {wZ w w' : World} {Z : Nat} {row : Option Nat} (h : KpZ wZ Z w) (k : w.grownBy w' row) (hr : ∀ q, row = some q → q < Z ∨ wZ.heap.size ≤ q) : KpZ wZ Z w' :=
  ⟨Nat.le_trans h.1 k.size, fun b h1 h2 => (k.block b (Nat.lt_of_lt_of_le h2 h.1) (fun e => by have := hr b e.symm; omega)).trans (h.2 b h1 h2)⟩
theorem KpZ.grow {wZ w w' : World} {Z : Nat} (h : KpZ wZ Z w) (k : Grow w w') : KpZ wZ Z w' := h.row (grown_of_below k none) (fun q e => by cases e)
/-- A command whose transaction is read, its certificates not yet. -/
def RdS (w : World) (Z : Nat) (out : Except Nat Cmd) (cn : Nat) (ps : List (Value × List UInt8)) (A : Option Addr) (n c : Nat) (A2 : Option Addr) (n2 c2 : Nat) (ls : List (Value × Inp)) (m : Cmd) : Prop :=
  cn ≤ 16 ∧ (∀ p ∈ ps, p.2.length ≤ 2048) ∧ m.ok ∧ InsO w Z A n c ls ∧ m.tx.ins = ls.map Prod.snd ∧ OutsO w Z A2 n2 c2 m.tx.outs ∧
    (∀ x, readCs (ps.map Prod.snd) = .error x → out = .error x) ∧ ∀ cs, readCs (ps.map Prod.snd) = .ok cs → out = .ok { m with certs := cs }
def qW (A : Option Addr) (n c : Nat) (A2 : Option Addr) (n2 c2 : Nat) (ls : List (Value × Inp)) (A3 : Option Addr) (n3 c3 : Nat) (cl : List (Value × Cer)) : CW := ⟨A, n, c, A2, n2, c2, A3, n3, c3, ls, cl⟩
/-- How far command.Read has come behind the fields: an error, or a command whose transaction is read. -/
def RdTx (wr : World) (Z g4 : Nat) (out : Except Nat Cmd) (er cn : Nat) (ps : List (Value × List UInt8)) : Prop :=
  (er ≠ 0 ∧ out = .error er) ∨ (er = 0 ∧ ∃ A n c A2 n2 c2 ls m, At wr g4 33 73 ((qW A n c A2 n2 c2 ls none 0 0 []).vs m) ∧ RdS wr Z out cn ps A n c A2 n2 c2 ls m)
/-- So, and some certificates are read. -/
def RdCs (wZ wr : World) (Z g4 : Nat) (out : Except Nat Cmd) (er i cn : Nat) (ps : List (Value × List UInt8)) (A : Option Addr) (n c : Nat) (A2 : Option Addr) (n2 c2 : Nat) (ls : List (Value × Inp)) (m : Cmd) : Prop :=
  (er ≠ 0 ∧ out = .error er) ∨ (er = 0 ∧ RdS wZ Z out cn ps A n c A2 n2 c2 ls m ∧ ∃ A3 c3 cl, At wr g4 33 73 ((qW A n c A2 n2 c2 ls A3 i c3 cl).vs m) ∧ CertsO wr wZ.heap.size A3 i c3 cl ∧ readCs ((ps.map Prod.snd).take i) = .ok (cl.map Prod.snd))
/-- The end: an error, or the command. -/
def RdEnd (wr : World) (Z g4 : Nat) (out : Except Nat Cmd) (er : Nat) : Prop := (er ≠ 0 ∧ out = .error er) ∨ (er = 0 ∧ ∃ q m, At wr g4 33 73 (q.vs m) ∧ m.ok ∧ (∀ w' g, g < Z → wr.grownBy w' (some g) → CmdAt w' q m) ∧ out = .ok m)
theorem readT_nz {l : List UInt8} {x : Nat} (h : readT l = .error x) : x ≠ 0 := by
  rcases readT_cases l with ⟨y, h1, h2, h3⟩ | ⟨t, h1, h2, h3⟩
  · rw [h3] at h; injection h with h; subst h; exact h2
  · rw [h3] at h
    split at h
    · rename_i h4
      injection h with h; subst h
      have := checkT_pos (lookT_ok h2).1
      omega
    · cases h
theorem rds_done {wZ wr : World} {Z g4 cn : Nat} {out : Except Nat Cmd} {ps : List (Value × List UInt8)} {A : Option Addr} {n c : Nat} {A2 : Option Addr} {n2 c2 : Nat} {ls : List (Value × Inp)} {m : Cmd} {A3 : Option Addr} {c3 : Nat} {cl : List (Value × Cer)}
    (hS : RdS wZ Z out cn ps A n c A2 n2 c2 ls m) (hk : KpZ wZ Z wr) (hz : Z ≤ wZ.heap.size) (hl : ps.length = cn) (h1 : At wr g4 33 73 ((qW A n c A2 n2 c2 ls A3 cn c3 cl).vs m)) (h2 : CertsO wr wZ.heap.size A3 cn c3 cl) (h3 : readCs ((ps.map Prod.snd).take cn) = .ok (cl.map Prod.snd)) : RdEnd wr Z g4 out 0 := by
  obtain ⟨s1, s2, s3, s4, s5, s6, s7, s8⟩ := hS
  have hok : ({ m with certs := cl.map Prod.snd } : Cmd).ok := ⟨s3.1, s3.2.1, fun x hx => by obtain ⟨p, hp, rfl⟩ := List.mem_map.1 hx; exact (h2.2.1 p hp).2, s3.2.2.2⟩
  refine .inr ⟨rfl, qW A n c A2 n2 c2 ls A3 cn c3 cl, { m with certs := cl.map Prod.snd }, h1, hok, fun w' g hg hgr => ?_, ?_⟩
  · have kz : ∀ b, Z ≤ b → b < wZ.heap.size → w'.heap[b]? = wZ.heap[b]? := fun b h1 h2 => (hgr.block b (Nat.lt_of_lt_of_le h2 hk.1) (fun e => by injection e with e; omega)).trans (hk.2 b h1 h2)
    exact ⟨(s4.keep kz).at_, (s6.keep kz).at_, (h2.keep (fun b h1 h2 => hgr.block b h2 (fun e => by injection e with e; omega)) hgr.size).at_, s5, rfl, hok⟩
  · rw [List.take_of_length_le (by rw [List.length_map]; omega)] at h3
    exact s8 _ h3
set_option maxRecDepth 100000 in
set_option maxHeartbeats 8000000 in
theorem cmread_any {A : Option Addr} {n c : Nat} {l : List UInt8} (w : World) (hs : Sl w w.heap.size 1 A n (l.map B)) (hn : n ≤ 1000000) : Calls Try.prog 12 #[.slice A n c] w fun e w' => CmRead w w' l e := by
  have HS := Lib.hid hs
  have HLN := Lib.hid (show l.length = n by have := hs.len; simpa using this)
  have HNM := Lib.hid hn
  have HCZ := Lib.hid (vs_cl (q := noCW) noCmd_ok)
  have BC := Lib.hid built_cmd0
  have ZC := Lib.hid zero_cmd
  obtain ⟨out, hout⟩ : ∃ q, q = readCm l := ⟨_, rfl⟩
  have HOUT := Lib.hid hout
  obtain ⟨zc, hzc⟩ : ∃ v, v = noCW.vs noCmd := ⟨_, rfl⟩
  have HZC := Lib.hid hzc
  have HERR := Lib.hid (fun (er : Nat) (w' : World) (h1 : out = .error er) (hb : Below w.heap.size w w') => show CmRead w w' l (.returned (.tuple #[.agg zc.toArray, .int .i64 (er : Int)])) from
    ⟨noCW, by rw [← hout, h1, hzc]; rfl, by rw [← hout, h1]; exact cmdAt_no _, hb⟩)
  have HOKR := Lib.hid (fun (q : CW) (m : Cmd) (w' : World) (h1 : out = .ok m) (hc : CmdAt w' q m) (hb : Below w.heap.size w w') => show CmRead w w' l (.returned (.tuple #[.agg (q.vs m).toArray, .int .i64 0])) from
    ⟨q, by rw [← hout, h1]; rfl, by rw [← hout, h1]; exact hc, hb⟩)
  rw [← hzc] at HCZ BC ZC
  obtain ⟨w_, hw⟩ : ∃ x, x = w := ⟨_, rfl⟩
  have HB := Lib.hid (show Below w.heap.size w w_ by rw [hw]; exact Below.refl _ _)
  suffices H : Calls Try.prog 12 #[.slice A n c] w_ fun e w' => CmRead w w' l e by rw [hw] at H; exact H
  clear hw hs hn hout hzc
  go_enter Try.func12, Try.ntmps12
  go_wp2_with (first | (with_reducible refine wpl_alloc (o := ⟨some 2, _, _, _, _, _⟩) rfl rfl ZC.out ?_))
  intro w2_ hb2_ hb_ hsz2_
  have HV := Lib.hid (at_mk hb2_ HCZ.out.len)
  have HVG := Lib.hid HB.out.size
  generalize hg_ : w_.heap.size = g2 at HV HVG ⊢
  clear hb2_ hsz2_ hg_
  have hb_ := hb_
  clear hb_
  have HB_ := Lib.hid (HB.out.grow' hb_)
  clear HB
  have HB := HB_
  clear HB_
  clear hb_
  try clear w_
  rename World => w_
  by_cases hl : 8192 < n
  · have HX := Lib.hid (show out = .error 4 by rw [HOUT.out]; unfold readCm; rw [if_pos (by rw [HLN.out]; exact hl)])
    have z1 : ((8192 : Int) < (n : Int)) = True := eq_true (by omega)
    clear hl
    go_wp2_with (first | (with_reducible refine wpl_stop (o := ⟨some 13, _, _, _, _, _⟩) ?_))
    refine stop_go ?_
    refine wpl_build rfl rfl BC.out ?_
    go_wp2_with (first | (with_reducible refine wpl_storeb (o := ⟨none, .store _ _ _, _, _, _, _⟩) rfl rfl row_cmd HV.out.blk rfl rfl HV.out.len HCZ.out.len HCZ.out.one ?_))
    intro w2_ hb2_ hg2_ hsz2_
    have HV_ := Lib.hid hb2_
    have HB_ := Lib.hid (put_below HB.out HVG.out hg2_)
    clear hb2_ hg2_ hsz2_
    go_wp2_with fail
    refine ret_cell_tmp rfl row_cmd HV_.out rfl HCZ.out.len rfl rfl ?_
    exact HERR.out 4 _ HX.out HB_.out
  have HL8 := Lib.hid (show l.length ≤ 8192 by rw [HLN.out]; omega)
  have z1 : ((8192 : Int) < (n : Int)) = False := eq_false (by omega)
  clear hl
  go_wp2_with (first | (with_reducible refine wpl_alloc (o := ⟨some 4, _, _, _, _, _⟩) rfl rfl ZC.out ?_))
  clear z1
  intro w2_ hb2_ hb_ hsz2_
  have HH := Lib.hid (at_mk hb2_ HCZ.out.len)
  have HLT := Lib.hid HV.out.lt
  generalize hg_ : w_.heap.size = g4 at HH HLT ⊢
  clear hb2_ hsz2_ hg_
  have hb_ := hb_
  clear hb_
  have HB_ := Lib.hid (HB.out.grow' hb_)
  clear HB
  have HB := HB_
  clear HB_
  have HV_ := Lib.hid (HV.out.grow hb_)
  clear HV
  have HV := HV_
  clear HV_
  clear hb_
  try clear w_
  rename World => w_
  go_wp2_with (first | (with_reducible refine wpl_alloc (o := ⟨some 5, _, _, _, _, _⟩) rfl rfl zero_texts ?_))
  intro w2_ hb2_ hb_ hsz2_
  have HY := Lib.hid (at_mk (n := 2) hb2_ rfl)
  have H45 := Lib.hid HH.out.lt
  generalize hg_ : w_.heap.size = g5 at HY H45 ⊢
  clear hb2_ hsz2_ hg_
  have hb_ := hb_
  clear hb_
  have HB_ := Lib.hid (HB.out.grow' hb_)
  clear HB
  have HB := HB_
  clear HB_
  have HV_ := Lib.hid (HV.out.grow hb_)
  clear HV
  have HV := HV_
  clear HV_
  have HH_ := Lib.hid (HH.out.grow hb_)
  clear HH
  have HH := HH_
  clear HH_
  clear hb_
  try clear w_
  rename World => w_
  go_wp2_with fail
  refine (fread2_any A n c l 37 #[.pointer (some ⟨g4, 0, none⟩), .pointer (some ⟨g5, 0, none⟩)] (restOf (lookCm l)) (fun w2 => CKept g4 g5 w_ w2 l ∧ w_.heap.size + 1 ≤ w2.heap.size) _ (HS.out.grow HB.out) (by have := HNM.out; omega) (fun _ _ => rfl)
    (fun w1 Bd g hw hg he => (cmread1_any w_ w1 HH.out.lt HY.out.lt (Nat.ne_of_lt H45.out) HH.out.blk HH.out.len HY.out.blk HY.out.len hw hg he).mono fun e w2 h => ⟨⟨h.1, by have h1 := he.lo; have h2 := he.lt; have h3 := h.2.1; omega⟩, h.2⟩)).mono ?_
  rintro e w5_ ⟨rfl, w2_, ⟨⟨hk, hgot, hno⟩, hzz⟩, hgr⟩
  have HV_ := Lib.hid (show At w5_ g2 33 73 zc from ⟨(hgr.block g2 (Nat.lt_of_lt_of_le HV.out.lt hk.size) (fun e => by injection e with e; have := HV.out.lt; omega)).trans ((hk.block g2 ⟨HV.out.lt, by have := HLT.out; omega, by have := HLT.out; have := H45.out; omega⟩).trans HV.out.blk), HV.out.len⟩)
  have HB_ := Lib.hid (show Below w.heap.size w w5_ from ⟨hgr.os.trans (hk.os.trans HB.out.os), hgr.tape.trans (hk.tape.trans HB.out.tape), hgr.output.trans (hk.output.trans HB.out.output), Nat.le_trans HB.out.size (Nat.le_trans hk.size hgr.size), fun k hk2 => by
    have h1 := HVG.out; have h2 := HLT.out; have h3 := H45.out; have h4 := HY.out.lt; have h5 := hk.size
    exact (hgr.block k (by omega) (fun e => by injection e with e; omega)).trans ((hk.block k ⟨by omega, by omega, by omega⟩).trans (HB.out.block k hk2))⟩)
  have HGOT := Lib.hid (show (∀ p l', lookCm l = .ok (p, l') → ∃ TA tc A n c ps, Blk w5_ g4 33 (noCW.vs p.m) ∧ Blk w5_ g5 77 [.slice TA p.t.length tc, .slice A n c] ∧ TxtO w5_ (w_.heap.size + 1) TA tc p.t ∧ BBO w5_ (w_.heap.size + 1) A n c ps ∧ ps.map Prod.snd = p.cs) ∧ ∀ x, lookCm l = .error x → Blk w5_ g5 77 [.slice none 0 0, .slice none 0 0] from by
    have q4 := HH.out.lt; have q5 := HY.out.lt
    have kz : ∀ b, w_.heap.size + 1 ≤ b → b < w2_.heap.size → w5_.heap[b]? = w2_.heap[b]? := fun b h1 h2 => hgr.block b h2 (fun e => by injection e with e; omega)
    refine ⟨fun p l' h => ?_, fun x h => ?_⟩
    · obtain ⟨TA, tc, A, n, c, ps, k1, k2, k3, k4, k5⟩ := hgot p l' h
      exact ⟨TA, tc, A, n, c, ps, k1.grown hgr (fun e => by injection e with e; omega), k2.grown hgr (fun e => by injection e with e; omega), k3.keep kz, k4.keep kz, k5⟩
    · exact (hgr.block g5 (Nat.lt_of_lt_of_le q5 hk.size) (fun e => by injection e with e; omega)).trans ((hno x h).trans HY.out.blk))
  have HZZ := Lib.hid (show w_.heap.size + 1 ≤ w5_.heap.size from Nat.le_trans hzz hgr.size)
  have HGZ := Lib.hid (show g4 < w_.heap.size + 1 ∧ g5 < w_.heap.size + 1 ∧ w.heap.size ≤ w_.heap.size + 1 by have := HH.out.lt; have := HY.out.lt; have := HB.out.size; omega)
  generalize w_.heap.size + 1 = Z at HGOT HZZ HGZ
  clear hk hgot hno hzz hgr HV HB HH HY
  have HV := HV_; have HB := HB_
  clear HV_ HB_
  try clear w2_
  try clear w_
  rename World => w_
  have HC5 := Lib.hid (show ∃ v0 CA cn cc ps, Blk w_ g5 77 [v0, .slice CA cn cc] ∧ BBO w_ Z CA cn cc ps from by
    cases h : lookCm l with
    | error x => exact ⟨_, _, _, _, [], HGOT.out.2 x h, BBO.nil _ _⟩
    | ok r =>
      obtain ⟨p, l'⟩ := r
      obtain ⟨TA, tc, A, n, c, ps, k1, k2, k3, k4, k5⟩ := HGOT.out.1 p l' h
      exact ⟨_, A, n, c, ps, k2, k4⟩)
  have HRC := Lib.hid (readCm_cases l HL8.out)
  obtain ⟨e0, he0⟩ : ∃ z, z = eyeErr (restOf (lookCm l)) := ⟨_, rfl⟩
  rw [← he0] at HRC ⊢
  clear he0
  rename World => wA
  go_upto_region 6 with fail
  go_cut [23] from 17 (fun s23 wr => ∃ b : Bool, s23 = .bool b ∧ Hid (Grow wA wr) ∧ Hid ((e0 ≠ 0 ∧ b = false) ∨ (e0 = 0 ∧ ∃ p, lookCm l = .ok (p, []) ∧ b = hasTxK p.m.kind)))
  case first =>
    rcases HRC.out with ⟨x, hx, h0, hr⟩ | ⟨p, hx, hlk, hr⟩
    · have HX := Lib.hid (show e0 ≠ 0 by omega)
      have z1 : ((e0 : Int) == 0) = false := by simp; omega
      clear hx h0 hr
      go_wp2_with fail
      go_meet
      case rel => exact ⟨false, rfl, Lib.hid (Below.refl _ _), Lib.hid (.inl ⟨HX.out, rfl⟩)⟩
    · obtain ⟨TA, tc, CA, cn, cc, ps, k1, k2, k3, k4, k5⟩ := HGOT.out.1 p [] hlk
      have c0 := k1.at_ (vs_kind noCW p.m)
      have HX := Lib.hid hlk
      have z1 : ((e0 : Int) == 0) = true := by rw [hx]; rfl
      have HE0 := Lib.hid hx
      clear hx hlk hr k1 k2 k3 k4 k5
      go_wp2_with fail
      refine (hastx_any _ _).mono ?_
      rintro e w2_ ⟨rfl, hb_⟩
      have HB2 := Lib.hid hb_
      clear c0 hb_
      obtain ⟨bt, hbt⟩ : ∃ z, z = hasTxK p.m.kind := ⟨_, rfl⟩
      rw [← hbt]
      have HBT := Lib.hid hbt
      clear hbt
      cases bt with
      | true =>
        go_wp2_with fail
        go_meet
        case rel => exact ⟨true, rfl, HB2, Lib.hid (.inr ⟨HE0.out, p, HX.out, HBT.out⟩)⟩
      | false =>
        go_wp2_with fail
        go_meet
        case rel => exact ⟨false, rfl, HB2, Lib.hid (.inr ⟨HE0.out, p, HX.out, HBT.out⟩)⟩
  case rest =>
  obtain ⟨b, rfl, hg, hb⟩ := hcut
  have HG := Lib.hid hg.out; have HBB := Lib.hid hb.out
  clear hg hb
  rename World => w_
  have HV_ := Lib.hid (HV.out.grow HG.out); have HB_ := Lib.hid (HB.out.grow' HG.out)
  clear HV HB
  have HV := HV_; have HB := HB_
  clear HV_ HB_
  have HZ := Lib.hid (Nat.le_trans HZZ.out HG.out.size)
  go_upto_if 23 with fail
  go_cut [6] from 17 (fun s6 wr => ∃ (er : Nat) (v0 : Value) (CA : Option Addr) (cn cc : Nat) (ps : List (Value × List UInt8)), s6 = .int .i64 (er : Int) ∧ Hid (At wr g2 33 73 zc) ∧ Hid (Below w.heap.size w wr) ∧ Hid (Blk wr g5 77 [v0, .slice CA cn cc]) ∧ Hid (BBO wr Z CA cn cc ps) ∧ Hid (Z ≤ wr.heap.size) ∧ Hid (RdTx wr Z g4 out er cn ps))
  case first =>
    rcases HRC.out with ⟨x, hx, h0, hr⟩ | ⟨p, hx, hlk, hr⟩
    · rcases HBB.out with ⟨_, rfl⟩ | ⟨h, _⟩
      · obtain ⟨v0, CA, cn, cc, ps, k1, k2⟩ := HC5.out
        have HX := Lib.hid hx; have H0 := Lib.hid h0; have HR := Lib.hid hr
        have K1 := Lib.hid (k1.grow HG.out); have K2 := Lib.hid (k2.grow HG.out)
        clear hx h0 hr k1 k2
        go_wp2_with fail
        go_meet
        case rel => exact ⟨e0, v0, CA, cn, cc, ps, rfl, HV, HB, K1, K2, HZ, Lib.hid (.inl ⟨by rw [HX.out]; exact H0.out, by rw [HOUT.out, HR.out, HX.out]⟩)⟩
      · exact absurd (hx.symm.trans h) h0
    · rcases HBB.out with ⟨h, _⟩ | ⟨_, p2, hlk2, hbk⟩
      · exact absurd hx h
      rw [hlk] at hlk2
      obtain rfl : p = p2 := by injection hlk2 with h; injection h
      obtain ⟨TA, tc, CA, cn, cc, ps, k1, k2, k3, k4, k5⟩ := HGOT.out.1 p [] hlk
      have q1 := lookCm_ok hlk
      have HMO := Lib.hid q1.1; have HTX := Lib.hid q1.2.2.1; have HTL := Lib.hid q1.2.2.2.2.1
      have HPL := Lib.hid (show cn ≤ 16 ∧ (∀ p ∈ ps, p.2.length ≤ 2048) from ⟨by have h1 := k4.2.2; have h2 := congrArg List.length k5; rw [List.length_map] at h2; have := q1.2.2.2.2.2.1; omega, fun r hr => q1.2.2.2.2.2.2 r.2 (by rw [← k5]; exact List.mem_map_of_mem hr)⟩)
      have HPS := Lib.hid k5
      have K1 := Lib.hid (k1.grow HG.out); have K2 := Lib.hid (k2.grow HG.out); have K3 := Lib.hid (k3.grow HG.out); have K4 := Lib.hid (k4.grow HG.out)
      have HR := Lib.hid (show out = fillC p by rw [HOUT.out]; exact hr)
      have HBK := Lib.hid hbk
      subst hx
      clear hlk hr hlk2 hbk k1 k2 k3 k4 k5 q1
      cases b with
      | false =>
        go_wp2_with fail
        go_meet
        case rel =>
          have e : ({ p.m with tx := noTxn } : Cmd) = p.m := by rw [← HTX.out]
          have hgo := fillC_go (p := p) (t := noTxn) (by rw [← HBK.out]; rfl)
          refine ⟨0, _, CA, cn, cc, ps, rfl, HV, HB, K2, K4, HZ, Lib.hid (.inr ⟨rfl, none, 0, 0, none, 0, 0, [], p.m, at_mk K1.out (vs_len HMO.out), HPL.out.1, HPL.out.2, HMO.out, InsO.nil _ _, by rw [HTX.out]; rfl, by rw [HTX.out]; exact OutsO.nil _ _, fun x hx => ?_, fun cs hx => ?_⟩)⟩
          · rw [HR.out]; exact hgo.1 x (by rw [← HPS.out]; exact hx)
          · rw [HR.out, hgo.2 cs (by rw [← HPS.out]; exact hx)]
            rw [show ({ p.m with tx := noTxn, certs := cs } : Cmd) = { ({ p.m with tx := noTxn } : Cmd) with certs := cs } from rfl, e]
      | true =>
        have c5 := K2.out.at_ (i := 0) rfl
        go_wp2_with fail
        refine (treado_any _ (Sl.of_own K3.out.1) (by have := HTL.out; omega)).mono ?_
        rintro e w2_ ⟨A6, n6, c6, B6, m6, d6, l6, rfl, hi6, hl6, ho6, hb_⟩
        have HI6 := Lib.hid (InsO.base hi6 HZ.out); have HL6 := Lib.hid hl6; have HO6 := Lib.hid (OutsO.base ho6 HZ.out)
        have K1_ := Lib.hid (K1.out.grow hb_); have K2_ := Lib.hid (K2.out.grow hb_); have K4_ := Lib.hid (K4.out.grow hb_)
        have HV_ := Lib.hid (HV.out.grow hb_); have HB_ := Lib.hid (HB.out.grow' hb_); have HZ_ := Lib.hid (Nat.le_trans HZ.out hb_.size)
        clear c5 hi6 hl6 ho6 hb_ K1 K2 K3 K4 HV HB HZ HG
        have K1 := K1_; have K2 := K2_; have K4 := K4_; have HV := HV_; have HB := HB_; have HZ := HZ_
        clear K1_ K2_ K4_ HV_ HB_ HZ_
        clear w_
        rename World => w_
        have HUC := Lib.hid (txV_cl (A := A6) (n := n6) (c := c6) (A2 := B6) (n2 := m6) (c2 := d6) (fee := (txnOf (readT p.t)).fee) (ex := (txnOf (readT p.t)).expiry))
        have HSP := Lib.hid (set_tx (q := noCW) (q2 := ⟨A6, n6, c6, B6, m6, d6, none, 0, 0, l6, []⟩) (m := p.m) (txnOf (readT p.t)))
        obtain ⟨tv, htv⟩ : ∃ z, z = txV A6 n6 c6 B6 m6 d6 (txnOf (readT p.t)).fee (txnOf (readT p.t)).expiry := ⟨_, rfl⟩
        simp only at HSP
        rw [← htv] at HUC HSP ⊢
        have HML := Lib.hid (vs_len (q := noCW) HMO.out)
        obtain ⟨er, her⟩ : ∃ z, z = errOf (readT p.t) := ⟨_, rfl⟩
        have HER := Lib.hid her
        rw [← her]
        clear htv her
        go_wp2_with (first | (with_reducible refine wpl_storem (o := ⟨none, .store _ _ _, _, _, _, _⟩) (off := 1) rfl rfl row_tx K1.out rfl rfl HUC.out.len (by rw [HML.out]; omega) HUC.out.one ?_))
        intro w2_ hb2_ hg_ hsz2_
        have K1_ := Lib.hid (show Blk w2_ g4 33 ((qW A6 n6 c6 B6 m6 d6 l6 none 0 0 []).vs { p.m with tx := txnOf (readT p.t) }) by rw [HSP.out] at hb2_; exact hb2_)
        have HGZ2 := HGZ.out
        have kz : ∀ b, Z ≤ b → b < w_.heap.size → w2_.heap[b]? = w_.heap[b]? := fun b h1 h2 => hg_.block b h2 (fun e => by injection e with e; omega)
        have K2_ := Lib.hid (K2.out.grown hg_ (fun e => by injection e with e; have := H45.out; omega)); have K4_ := Lib.hid (K4.out.keep kz); have HI_ := Lib.hid (HI6.out.keep kz); have HO_ := Lib.hid (HO6.out.keep kz)
        have HV_ := Lib.hid (At.off HV.out hg_ (Nat.ne_of_lt HLT.out)); have HB_ := Lib.hid (put_below HB.out (Nat.le_trans HVG.out (Nat.le_of_lt HLT.out)) hg_); have HZ_ := Lib.hid (Nat.le_trans HZ.out hg_.size)
        clear hb2_ hg_ hsz2_ kz HGZ2 HSP K1 K2 K4 HI6 HO6 HV HB HZ
        go_wp2_with fail
        go_meet
        case rel =>
          refine ⟨er, _, CA, cn, cc, ps, rfl, HV_, HB_, K2_, K4_, HZ_, Lib.hid ?_⟩
          have hb : hasTxK p.m.kind = true := HBK.out.symm
          have hL := HL6.out; have hI := HI_.out; have hO := HO_.out; have hK := K1_.out
          cases h : readT p.t with
          | error x =>
            have e1 : er = x := by rw [HER.out, h]; rfl
            exact .inl ⟨by rw [e1]; exact readT_nz h, by rw [HR.out, e1]; exact fillC_no hb h⟩
          | ok t =>
            have e1 : er = 0 := by rw [HER.out, h]; rfl
            rw [h] at hL hO hK
            have hgo := fillC_go (p := p) (t := t) (by rw [if_pos hb]; exact h)
            have hto := (readT_back h).2.2
            have hmo : ({ p.m with tx := t } : Cmd).ok := ⟨HMO.out.1, hto, HMO.out.2.2⟩
            refine .inr ⟨e1, A6, n6, c6, B6, m6, d6, l6, { p.m with tx := t }, at_mk hK (vs_len hmo), HPL.out.1, HPL.out.2, hmo, hI, hL.symm, hO, fun x hx => ?_, fun cs hx => ?_⟩
            · rw [HR.out]; exact hgo.1 x (by rw [← HPS.out]; exact hx)
            · rw [HR.out]; exact hgo.2 cs (by rw [← HPS.out]; exact hx)
  case rest =>
  obtain ⟨er, v0, CA, cn, cc, ps, rfl, hv, hb, hy, ho, hz, hr⟩ := hcut
  have HV_ := Lib.hid hv.out; have HB_ := Lib.hid hb.out; have HY := Lib.hid hy.out; have HO := Lib.hid ho.out; have HZ_ := Lib.hid hz.out
  have HST : ∃ A n c A2 n2 c2 ls m, Hid (RdCs wc wc Z g4 out er 0 cn ps A n c A2 n2 c2 ls m) := by
    rcases hr.out with h | ⟨h, A, n, c, A2, n2, c2, ls, m, h1, h2⟩
    · exact ⟨none, 0, 0, none, 0, 0, [], noCmd, Lib.hid (.inl h)⟩
    · exact ⟨A, n, c, A2, n2, c2, ls, m, Lib.hid (.inr ⟨h, h2, none, 0, [], h1, CertsO.nil _ _, rfl⟩)⟩
  clear hv hb hy ho hz hr HV HB HZ HZZ HG HBB HC5 HRC HGOT
  obtain ⟨A7, n7, c7, B7, m7, d7, l7, m0, HST⟩ := HST
  have HV := HV_; have HB := HB_; have HZ := HZ_
  clear HV_ HB_ HZ_
  clear w_
  rename World => wZ
  have HCL := Lib.hid (show ps.length = cn from HO.out.2.2)
  have LX := Lib.hid len_cert; have ZX := Lib.hid zero_cert
  obtain ⟨zx, hzx⟩ : ∃ v, v = certV (.slice none 0 0) noCer := ⟨_, rfl⟩
  rw [← hzx] at LX ZX
  clear hzx
  have c6 := HY.out.at_ (i := 1) rfl
  go_upto_block 0 with fail
  clear c6
  go_cut [6] from 7 (fun s6 wr => ∃ er : Nat, s6 = .int .i64 (er : Int) ∧ Hid (At wr g2 33 73 zc) ∧ Hid (Below w.heap.size w wr) ∧ Hid (RdEnd wr Z g4 out er))
  case first =>
    go_wp2_with fail
    go_loopw [6, 34] (fun s6 s34 wr => ∃ i er : Nat, i ≤ cn ∧ s6 = .int .i64 (er : Int) ∧ s34 = .int .i64 (i : Int) ∧ Hid (At wr g2 33 73 zc) ∧ Hid (Below w.heap.size w wr) ∧ Hid (KpZ wZ Z wr) ∧ Hid (RdCs wZ wr Z g4 out er i cn ps A7 n7 c7 B7 m7 d7 l7 m0)) (fun _ s34 _ => cn - (intOf s34).toNat)
    case atStart => exact ⟨0, er, by omega, rfl, rfl, HV, HB, Lib.hid (KpZ.refl _ _), HST⟩
    case round =>
      obtain ⟨i, er, hi, rfl, rfl, hv, hb, hk, hr⟩ := hrel
      clear HV HB HST
      have HV := Lib.hid hv.out; have HB := Lib.hid hb.out; have HK := Lib.hid hk.out
      clear hv hb hk
      rename World => w_
      by_cases hlt : i < cn
      · have d1 : decide ((i : Int) < (cn : Int)) = true := by simp; omega
        obtain ⟨b, off, u, rfl, hbl, hu, hc⟩ := (Sl.of_own ((HO.out.keep HK.out.2).1)).at_ hlt
        rw [List.getElem?_map] at hu
        obtain ⟨pp, hpp, rfl⟩ := Option.map_eq_some_iff.1 hu
        obtain ⟨A', c', e', hc', ho'⟩ := (HO.out.keep HK.out.2).2.1 pp (List.mem_of_getElem? hpp)
        rw [e'] at hc
        have HPP := Lib.hid hpp; have HT := Lib.hid (Sl.of_own ho')
        clear hbl hu hpp e' hc' ho'
        rcases hr.out with ⟨h0, hout⟩ | ⟨rfl, hS, A3, c3, cl, h1, h2, h3⟩
        · have z1 : ((er : Int) != 0) = true := by simp; omega
          have HX := Lib.hid (show er ≠ 0 ∧ out = .error er from ⟨h0, hout⟩)
          clear h0 hout hr
          go_wp2_with fail
          go_meet
          case rel => exact ⟨er, rfl, HV, HB, Lib.hid (.inl HX.out)⟩
        · have HS := Lib.hid hS; have HA3 := Lib.hid h1; have HCS := Lib.hid h2; have HRD := Lib.hid h3
          have z1 : (((0 : Nat) : Int) != 0) = false := rfl
          clear hS h1 h2 h3 hr
          rename World => wR
          go_wp2_with (first | (with_reducible refine wpl_alloc (o := ⟨some 9, _, _, _, _, _⟩) rfl rfl ZX.out ?_))
          intro w2_ hb2_ hb_ hsz2_
          have HX9 := Lib.hid (at_mk hb2_ LX.out); have HGR := Lib.hid (show Grow wR w2_ from hb_)
          generalize hg_ : wR.heap.size = g9 at HX9 ⊢
          have H9 := Lib.hid hg_
          clear hb2_ hb_ hsz2_ hg_ hc d1 z1
          rename World => w_
          go_wp2_with fail
          refine (cread_o _ (HT.out.grow HGR.out) (by have := HS.out.2.1 pp (List.mem_of_getElem? HPP.out); omega)).mono ?_
          rintro e w2_ ⟨A8, n8, c8, rfl, hi8, hn8, hb_, hage⟩
          have HAG := Lib.hid (show ∀ k, A8.map Addr.block = some k → g9 < k from fun k hk => Nat.lt_of_lt_of_le HX9.out.lt (hage k hk))
          have HI8 := Lib.hid hi8
          have HX9_ := Lib.hid (HX9.out.grow hb_); have HGR_ := Lib.hid (show Grow wR w2_ from HGR.out.grow' hb_)
          clear hi8 hn8 hb_ hage HX9 HGR
          have HX9 := HX9_; have HGR := HGR_
          clear HX9_ HGR_
          clear w_
          rename World => w_
          have HYO := Lib.hid (cerOf_ok pp.2)
          obtain ⟨y, hy⟩ : ∃ z, z = cerOf (readC pp.2) := ⟨_, rfl⟩
          have HYE := Lib.hid hy
          rw [← hy] at HYO HI8 ⊢
          obtain ⟨ey, hey⟩ : ∃ z, z = errOf (readC pp.2) := ⟨_, rfl⟩
          have HEY := Lib.hid hey
          rw [← hey]
          have HYC := Lib.hid (cert_cl (v := .slice A8 n8 c8) rfl HYO.out)
          obtain ⟨yv, hyv⟩ : ∃ z, z = certV (.slice A8 n8 c8) y := ⟨_, rfl⟩
          have HYV := Lib.hid hyv
          rw [← hyv] at HYC ⊢
          clear hy hey hyv
          go_wp2_with (first | (with_reducible refine wpl_storeb (o := ⟨none, .store _ _ _, _, _, _, _⟩) rfl rfl row_cert HX9.out.blk rfl rfl HX9.out.len HYC.out.len HYC.out.one ?_))
          intro w2_ hb2_ hg2_ hsz2_
          have HX9_ := Lib.hid (at_mk hb2_ HYC.out.len); have HGR_ := Lib.hid (show Grow wR w2_ from put_below HGR.out (Nat.le_of_eq H9.out) hg2_); have HI8_ := Lib.hid (HI8.out.off hg2_ HAG.out)
          clear hb2_ hg2_ hsz2_ HX9 HGR HI8
          have HX9 := HX9_; have HGR := HGR_; have HI8 := HI8_
          clear HX9_ HGR_ HI8_
          clear w_
          rename World => w_
          have c7 : w_.cell? ⟨g4, 5, none⟩ = some (.slice A3 i c3) := (HA3.out.grow HGR.out).blk.at_ (vs_certs (qW A7 n7 c7 B7 m7 d7 l7 A3 i c3 cl) m0)
          go_wp2_with (first | (with_reducible refine wpl_loadb (o := ⟨some 47, _, _, _, _, _⟩) rfl rfl row_cert HX9.out.blk rfl HX9.out.len ?_) | (refine wpl_row1 (o := ⟨some 48, .buildSlice _ _ _, _, _, _, _⟩) rfl rfl el_cert (by first | rfl | (go_simp; done)) HYC.out.len (by omega) ?_))
          intro w2_ hb2_ hb_ hsz2_
          have HSX := Lib.hid (show Sl w2_ w2_.heap.size 137 (some ⟨w_.heap.size, 0, none⟩) 1 yv from hb2_.sl (by rw [HYC.out.len]))
          have HGR_ := Lib.hid (show Grow wR w2_ from HGR.out.grow' hb_); have HI8_ := Lib.hid (HI8.out.grow hb_)
          generalize w_.heap.size = gx at HSX ⊢
          clear hb2_ hb_ hsz2_ c7 HX9 HGR HI8
          have HGR := HGR_; have HI8 := HI8_
          clear HGR_ HI8_
          clear w_
          rename World => w_
          have HCS_ := Lib.hid (HCS.out.keep (fun b _ hb => HGR.out.block b hb) HGR.out.size)
          have hi16 := HS.out.1
          have HZW := Lib.hid (Nat.le_trans HK.out.1 HGR.out.size)
          go_wp2_with (at_builtin; refine wpl_apps rfl rfl el_cert HCS_.out.1 rfl HSX.out rfl HYC.out.one (by omega) (by omega) HZW.out ?_)
          intro A4 c4 w2_ ho_ hg_ hA_
          clear hi16
          have hne_ : ∀ q, A3.map Addr.block = some q → wZ.heap.size ≤ q := own_from HCS_.out.1
          have hor_ : ∀ q, A3.map Addr.block = some q → q < wR.heap.size := own_lt HCS.out.1
          have hz_ := HZ.out; have hgz_ := HGZ.out
          have HV_ := Lib.hid (show At w2_ g2 33 73 zc from at_mk ((HV.out.grow HGR.out).blk.grown hg_ (fun e => by have h1 := hne_ _ e.symm; have := HLT.out; omega)) HV.out.len)
          have HA_ := Lib.hid (show At w2_ g4 33 73 _ from at_mk ((HA3.out.grow HGR.out).blk.grown hg_ (fun e => by have h1 := hne_ _ e.symm; omega)) HA3.out.len)
          have HB_ := Lib.hid (below_grown (HB.out.grow' HGR.out) hg_ (Nat.le_trans HB.out.size HGR.out.size) (fun q hq => by have h1 := hne_ q hq; omega))
          have HK_ := Lib.hid ((HK.out.grow HGR.out).row hg_ (fun q hq => .inr (hne_ q hq)))
          have HC_ := Lib.hid (CertsO.snoc HCS_.out hg_ (by rw [← HYV.out]; exact ho_) (hA_.imp id (fun ⟨a, h1, h2⟩ => by rw [h1, ← h2]; rfl)) HI8.out (fun _ k hk => by
            have h1 := HAG.out k hk; have h2 := H9.out; have h3 := HK.out.1
            exact ⟨by omega, fun e => by have h4 := hor_ k e.symm; omega⟩) HYO.out)
          clear ho_ hg_ hA_ hne_ hor_ HCS_ HCS HSX HI8 HV HA3 HB HK HZW HGR HT
          clear w_
          rename World => w_
          go_wp2_with (first | (refine wpl_store1 (o := ⟨none, .store _ _ _, _, _, _, _⟩) rfl rfl HA_.out.blk rfl rfl (by kernel_rfl) rfl rfl (by rw [HA_.out.len]; omega) ?_))
          intro w2_ hb2_ hg2_ hsz2_
          have HV := Lib.hid (At.off HV_.out hg2_ (Nat.ne_of_lt HLT.out)); have HB := Lib.hid (put_below HB_.out (Nat.le_trans HVG.out (Nat.le_of_lt HLT.out)) hg2_); have HK := Lib.hid (HK_.out.row hg2_ (fun q hq => by injection hq with hq; omega))
          have HC := Lib.hid (HC_.out.keep (fun b h1 h2 => hg2_.block b h2 (fun e => by injection e with e; omega)) hg2_.size)
          have HA := Lib.hid (show At w2_ g4 33 73 ((qW A7 n7 c7 B7 m7 d7 l7 A4 (i + 1) c4 (cl ++ [(.slice A8 n8 c8, y)])).vs m0) from at_mk hb2_ (vs_len HS.out.2.2.1))
          clear hb2_ hg2_ hsz2_ HV_ HB_ HK_ HC_ HA_ hz_ hgz_
          have q1 : IntKind.i64.wrap ((i : Int) + 1) = (i : Int) + 1 := IntWalk.i64_in _ (by have := HS.out.1; omega)
          go_wp2_with fail
          go_roundw
          all_goals clear q1
          case rel =>
            refine ⟨i + 1, ey, by omega, rfl, by go_num, HV, HB, HK, Lib.hid ?_⟩
            have hix : (ps.map Prod.snd)[i]? = some pp.2 := by rw [List.getElem?_map, HPP.out]; rfl
            cases h : readC pp.2 with
            | error x =>
              have e1 : ey = x := by rw [HEY.out, h]; rfl
              exact .inl ⟨by rw [e1]; exact readC_nz h, by rw [e1]; exact HS.out.2.2.2.2.2.2.1 x (readCs_no HRD.out hix h)⟩
            | ok z =>
              have e1 : ey = 0 := by rw [HEY.out, h]; rfl
              have e2 : y = z := by rw [HYE.out, h]; rfl
              refine .inr ⟨e1, HS.out, A4, c4, _, HA.out, HC.out, ?_⟩
              rw [readCs_go HRD.out hix h, List.map_append, e2]; rfl
          case measure => simp [intOf]; omega
      · have d1 : decide ((i : Int) < (cn : Int)) = false := by simp; omega
        obtain rfl : i = cn := by omega
        have HF := Lib.hid (show RdEnd w_ Z g4 out er from by
          rcases hr.out with h | ⟨rfl, hS, A3, c3, cl, h1, h2, h3⟩
          · exact .inl h
          · exact rds_done hS HK.out HZ.out HCL.out h1 h2 h3)
        clear hr
        go_wp2_with fail
        go_meet
        case rel => exact ⟨er, rfl, HV, HB, HF⟩
  case rest =>
    obtain ⟨er, rfl, hv, hb, hr⟩ := hcut
    clear HV HB HST
    have HV := Lib.hid hv.out; have HB := Lib.hid hb.out
    clear hv hb
    rename World => w_
    rcases hr.out with ⟨h0, hout⟩ | ⟨rfl, q, m, h1, h2, h3, h4⟩
    · have z1 : ((er : Int) != 0) = true := by simp; omega
      have z2 : ((er : Int) == 0) = false := by simp; omega
      have HX := Lib.hid hout
      clear h0 hout hr
      go_wp2_with (first | (with_reducible refine wpl_stop (o := ⟨some 54, _, _, _, _, _⟩) ?_))
      refine stop_go ?_
      refine wpl_build rfl rfl BC.out ?_
      go_wp2_with (first | (with_reducible refine wpl_storeb (o := ⟨none, .store _ _ _, _, _, _, _⟩) rfl rfl row_cmd HV.out.blk rfl rfl HV.out.len HCZ.out.len HCZ.out.one ?_))
      intro w2_ hb2_ hg2_ hsz2_
      have HV_ := Lib.hid hb2_
      have HB_ := Lib.hid (put_below HB.out HVG.out hg2_)
      clear hb2_ hg2_ hsz2_
      go_wp2_with fail
      refine ret_cell_tmp rfl row_cmd HV_.out rfl HCZ.out.len rfl rfl ?_
      exact HERR.out er _ HX.out HB_.out
    · have HH := Lib.hid h1
      have HMC := Lib.hid (vs_cl (q := q) h2)
      have HF := Lib.hid (fun w' (hg : w_.grownBy w' (some g2)) hb => HOKR.out q m w' h4 (h3 w' g2 (by have := HLT.out; have := HGZ.out; omega) hg) hb)
      obtain ⟨cv, hcv⟩ : ∃ z, z = q.vs m := ⟨_, rfl⟩
      rw [← hcv] at HH HMC HF
      clear h1 h2 h3 h4 hr hcv
      go_wp2_with (first | (with_reducible refine wpl_loadb (o := ⟨some 56, _, _, _, _, _⟩) rfl rfl row_cmd HH.out.blk rfl HMC.out.len ?_) | (with_reducible refine wpl_storeb (o := ⟨none, .store _ _ _, _, _, _, _⟩) rfl rfl row_cmd HV.out.blk rfl rfl HV.out.len HMC.out.len HMC.out.one ?_))
      intro w2_ hb2_ hg2_ hsz2_
      have HV_ := Lib.hid hb2_
      have HF_ := Lib.hid (HF.out _ hg2_ (put_below HB.out HVG.out hg2_))
      clear hb2_ hg2_ hsz2_
      go_wp2_with fail
      refine ret_cell_tmp rfl row_cmd HV_.out rfl HMC.out.len rfl rfl ?_
      exact HF_.out
end Go.Proofs.Ytobmldegjajocaa

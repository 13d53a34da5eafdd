/- The contract of command.used. Printed by mkcmde.py. -/
import Derived.Test.YtobmldegjajocaaCommandRateT18
import Derived.Test.YtobmldegjajocaaCommandRateT17
import Derived.Test.YtobmldegjajocaaCommandRateT19
import Derived.Test.YtobmldegjajocaaCommandRateT10
import Derived.Test.YtobmldegjajocaaCommandRateT3
import Derived.Deep.CutRange
import Derived.Deep.CutBlock
import Derived.Test.YtobmldegjajocaaCommandRateT13
import Derived.Test.YtobmldegjajocaaCommandRateT14
set_option linter.unusedSimpArgs false
/- The contract of command.used. Printed by mkcmde.py. -/
namespace Go.Proofs.Ytobmldegjajocaa
open Go.RowKit Go.Shelf
set_option linter.unusedVariables false
theorem beq_te {a b : Int} (h : a = b) : (a == b) = true := by simpa using h
theorem beq_fe {a b : Int} (h : a ≠ b) : (a == b) = false := by simpa using h
def noCW : CW := ⟨none, 0, 0, none, 0, 0, none, 0, 0, [], []⟩
theorem noOutC_okE : noOutC.ok := ⟨by simp [noOutC, zId], by simp [noOutC, U64]⟩
theorem noCmd_ok : noCmd.ok := ⟨by simp [noCmd, I64], noTxn_ok, by simp [noCmd], noOutC_okE, by simp [noCmd, I64], by simp [noCmd, I64], by simp [noCmd, zId]⟩
theorem zero_cmd : (Try.prog.info? 33).map (·.zero) = some (some (.agg (noCW.vs noCmd).toArray)) := by kernel_rfl
theorem len_cmd : (noCW.vs noCmd).length = 73 := vs_len noCmd_ok
theorem built_cmd1 (k : Int) : Try.prog.built 33 [(0, .int .i64 k)] = some (noCW.vs { noCmd with kind := k }).toArray := by kernel_rfl
/-- Where the used parts of a command lie. -/
def usedW (q : CW) (m : Cmd) : CW where
  A := if hasTxK m.kind then q.A else none
  n := if hasTxK m.kind then q.n else 0
  c := if hasTxK m.kind then q.c else 0
  A2 := if hasTxK m.kind then q.A2 else none
  n2 := if hasTxK m.kind then q.n2 else 0
  c2 := if hasTxK m.kind then q.c2 else 0
  A3 := if hasCK m.kind then q.A3 else none
  n3 := if hasCK m.kind then q.n3 else 0
  c3 := if hasCK m.kind then q.c3 else 0
  l := if hasTxK m.kind then q.l else []
  cl := if hasCK m.kind then q.cl else []
theorem usedC_ok {m : Cmd} (h : m.ok) : (usedC m).ok := by
  obtain ⟨h1, h2, h3, h4, h5, h6, h7⟩ := h
  refine ⟨h1, ?_, ?_, ?_, ?_, ?_, ?_⟩
  · show (if hasTxK m.kind then m.tx else noTxn).ok; split; exact h2; exact noTxn_ok
  · show ∀ x ∈ (if hasCK m.kind then m.certs else []), x.ok; split; exact h3; simp
  · show (if m.kind = 1 then m.dest else noOutC).ok; split; exact h4; exact noOutC_okE
  · show I64 (if m.kind = 1 then m.serial else 0); split; exact h5; simp [I64]
  · show I64 (if m.kind = 7 then m.epoch else 0); split; exact h6; simp [I64]
  · show (if m.kind = 9 then m.id else zId).length = 32; split; exact h7; simp [zId]
theorem usedW_at {w : World} {q : CW} {m : Cmd} (h : CmdAt w q m) : CmdAt w (usedW q m) (usedC m) := by
  obtain ⟨h1, h2, h3, h4, h5, h6⟩ := h
  refine ⟨?_, ?_, ?_, ?_, ?_, usedC_ok h6⟩
  · unfold usedW; dsimp only; by_cases h : hasTxK m.kind = true
    · simp only [h, if_true]; exact h1
    · simp only [h, if_false, Bool.false_eq_true]; exact insAt_nil
  · unfold usedW usedC; dsimp only; by_cases h : hasTxK m.kind = true
    · simp only [h, if_true]; exact h2
    · simp only [h, if_false, Bool.false_eq_true]; exact outsAt_nil
  · unfold usedW; dsimp only; by_cases h : hasCK m.kind = true
    · simp only [h, if_true]; exact h3
    · simp only [h, if_false, Bool.false_eq_true]; exact CertsAt.nil w
  · unfold usedW usedC; dsimp only; by_cases h : hasTxK m.kind = true
    · simp only [h, if_true]; exact h4
    · simp only [h, if_false, Bool.false_eq_true]; rfl
  · unfold usedW usedC; dsimp only; by_cases h : hasCK m.kind = true
    · simp only [h, if_true]; exact h5
    · simp only [h, if_false, Bool.false_eq_true]; rfl
theorem set_serial {q : CW} {m : Cmd} (h : m.dest.ok) (s : Int) : (q.vs m).set 39 (.int .i64 s) = q.vs { m with serial := s } := by
  have hl := outV_length h
  have e1 : q.vs m = ((.int .i64 m.kind :: (q.tv m ++ [.slice q.A3 q.n3 q.c3])) ++ outV m.dest) ++ (.int .i64 m.serial :: .int .i64 m.epoch :: m.id.map B) := by simp [CW.vs, cmdV]
  have e2 : q.vs { m with serial := s } = ((.int .i64 m.kind :: (q.tv m ++ [.slice q.A3 q.n3 q.c3])) ++ outV m.dest) ++ (.int .i64 s :: .int .i64 m.epoch :: m.id.map B) := by simp [CW.vs, cmdV, CW.tv]
  have hL : ((Value.int .i64 m.kind :: (q.tv m ++ [.slice q.A3 q.n3 q.c3])) ++ outV m.dest).length = 39 := by rw [List.length_append, hl]; rfl
  rw [e1, e2, List.set_append, if_neg (by rw [hL]; omega), hL]; rfl
theorem set_epoch {q : CW} {m : Cmd} (h : m.dest.ok) (s : Int) : (q.vs m).set 40 (.int .i64 s) = q.vs { m with epoch := s } := by
  have hl := outV_length h
  have e1 : q.vs m = ((.int .i64 m.kind :: (q.tv m ++ [.slice q.A3 q.n3 q.c3])) ++ outV m.dest) ++ (.int .i64 m.serial :: .int .i64 m.epoch :: m.id.map B) := by simp [CW.vs, cmdV]
  have e2 : q.vs { m with epoch := s } = ((.int .i64 m.kind :: (q.tv m ++ [.slice q.A3 q.n3 q.c3])) ++ outV m.dest) ++ (.int .i64 m.serial :: .int .i64 s :: m.id.map B) := by simp [CW.vs, cmdV, CW.tv]
  have hL : ((Value.int .i64 m.kind :: (q.tv m ++ [.slice q.A3 q.n3 q.c3])) ++ outV m.dest).length = 39 := by rw [List.length_append, hl]; rfl
  rw [e1, e2, List.set_append, if_neg (by rw [hL]; omega), hL]; rfl
theorem set_id {q : CW} {m : Cmd} (h : m.dest.ok) (hi : m.id.length = 32) {d : List UInt8} (hd : d.length = 32) : splice (q.vs m) 41 (d.map B) = q.vs { m with id := d } := by
  have hl := outV_length h
  have e1 : q.vs m = ((.int .i64 m.kind :: (q.tv m ++ [.slice q.A3 q.n3 q.c3])) ++ (outV m.dest ++ [.int .i64 m.serial, .int .i64 m.epoch])) ++ (m.id.map B ++ []) := by simp [CW.vs, cmdV]
  have hL : ((Value.int .i64 m.kind :: (q.tv m ++ [Value.slice q.A3 q.n3 q.c3])) ++ (outV m.dest ++ [Value.int .i64 m.serial, Value.int .i64 m.epoch])).length = 41 := by rw [List.length_append, List.length_append, hl]; rfl
  rw [e1, splice_mid hL (by simp [hi, hd])]
  simp [CW.vs, cmdV, CW.tv]
theorem set_to {q : CW} {m : Cmd} (h : m.dest.ok) {d : Outp} (hd : d.ok) : splice (q.vs m) 6 (outV d) = q.vs { m with dest := d } := by
  have e1 : q.vs m = (.int .i64 m.kind :: (q.tv m ++ [.slice q.A3 q.n3 q.c3])) ++ (outV m.dest ++ (.int .i64 m.serial :: .int .i64 m.epoch :: m.id.map B)) := by simp [CW.vs, cmdV]
  rw [e1, splice_mid (show (Value.int .i64 m.kind :: (q.tv m ++ [.slice q.A3 q.n3 q.c3])).length = 6 from rfl) (by rw [outV_length h, outV_length hd])]
  simp [CW.vs, cmdV, CW.tv]
theorem set_certs {q : CW} {m : Cmd} (A : Option Addr) (n c : Nat) : (q.vs m).set 5 (.slice A n c) = ({ q with A3 := A, n3 := n, c3 := c } : CW).vs m := rfl
theorem set_tx {q q2 : CW} {m : Cmd} (t : Txn) : splice (q.vs m) 1 (txV q2.A q2.n q2.c q2.A2 q2.n2 q2.c2 t.fee t.expiry) = ({ q with A := q2.A, n := q2.n, c := q2.c, A2 := q2.A2, n2 := q2.n2, c2 := q2.c2 } : CW).vs { m with tx := t } := by
  have e1 : q.vs m = [.int .i64 m.kind] ++ (q.tv m ++ (.slice q.A3 q.n3 q.c3 :: (outV m.dest ++ (.int .i64 m.serial :: .int .i64 m.epoch :: m.id.map B)))) := by simp [CW.vs, cmdV]
  rw [e1]
  refine (splice_mid (pre := [Value.int .i64 m.kind]) (off := 1) (old := q.tv m) (new := txV q2.A q2.n q2.c q2.A2 q2.n2 q2.c2 t.fee t.expiry) rfl rfl).trans ?_
  simp [CW.vs, cmdV, CW.tv]
/-- A mid part of a row read; what may happen besides leaves it as it is. -/
theorem pl_loadmf {P : Program} {ops : Array Oper} {cl : List Nat} {Q : Exit → Act → World → Prop} {Fut : World → World → Prop} {o : Oper} {i : Nat} {t : Plan} {a : Act} {w : World} {T : TypeId} {x : Operand} {n b off : Nat} {cs : List Value} (hi : ops[i]? = some o) (hc : plCls cl i = 1 ∨ plCls cl i = 2) (hw : Region.wanted o (yielded ops a.tmps) = true) (ho : o.op = .load T x) (hT : RowT P T n)
    (hf0 : Fut w w) (hcell : ∀ w', Fut w w' → ∀ j u, cs[j]? = some u → w'.cell? ⟨b, off + j, none⟩ = some u) (hx : a.eval x = .pointer (some ⟨b, off, none⟩)) (hn : cs.length = n)
    (hk : ∀ K : Act → World → Prop, (∀ a w, wpS P ops Fut cl Q t a w → K a w) → K (a.put o.dst (.agg cs.toArray)) w) : wpS P ops Fut cl Q (.get i t) a w := by
  have hrun : ∀ w', Fut w w' → (execOp a.eval o).run P w' = .ok (.value (.agg cs.toArray)) w' := by
    intro w' hf
    obtain ⟨d, hu, hd, hi⟩ := hT
    have h := run_loadVar_mid (P := P) w' b off T cs d (hcell w' hf) hu (by cases d <;> simp_all) (by rw [hi, hn])
    unfold execOp
    simp only [ho, hx, Instr.loadAt, Instr.sureAddr, Sem.run_bind, Sem.run_pure, Result.andThen_ok, h]
  rcases hc with hc | hc
  · exact pl_read hi hc hw hrun hk
  · exact pl_now hi hc hw (hrun w hf0) hk
set_option maxRecDepth 100000 in
set_option maxHeartbeats 8000000 in
theorem cmused_any {q : CW} {m : Cmd} (w : World) (h : m.ok) :
    Calls Try.prog 54 #[.agg (q.vs m).toArray] w fun e w' => e = .returned (.agg ((usedW q m).vs (usedC m)).toArray) ∧ Grow w w' := by
  have HXC := Lib.hid (vs_cl (q := q) h)
  have HUC := Lib.hid (vs_cl (q := usedW q m) (usedC_ok h))
  have HKC := Lib.hid (vs_cl (q := noCW) (m := { noCmd with kind := m.kind }) ⟨h.1, noCmd_ok.2⟩)
  have HBT := Lib.hid (built_cmd1 m.kind)
  have X0 := Lib.hid (vs_kind q m); have X5 := Lib.hid (vs_certs q m)
  have X39 := Lib.hid (vs_serial (q := q) h.2.2.2.1); have X40 := Lib.hid (vs_epoch (q := q) h.2.2.2.1)
  have XT := Lib.hid (fun j u (hu : (outV m.dest)[j]? = some u) => vs_to (q := q) hu)
  have XI := Lib.hid (fun j u (hu : (m.id.map B)[j]? = some u) => vs_id (q := q) h.2.2.2.1 hu)
  have XX := Lib.hid (fun j u (hu : (q.tv m)[j]? = some u) => vs_tx hu)
  have LT := Lib.hid (show Cl 33 (outV m.dest) from ⟨outV_length h.2.2.2.1, outV_oneC _⟩)
  have LI := Lib.hid (show Cl 32 (m.id.map B) from ⟨by rw [List.length_map]; exact h.2.2.2.2.2.2, fun u hu => all_bytes _ u hu⟩)
  have LX := Lib.hid (show Cl 4 (q.tv m) from ⟨rfl, fun u hu => vs_one q m u (List.mem_of_getElem? (vs_tx (List.getElem?_eq_getElem (List.mem_iff_getElem.1 hu).choose_spec.choose |>.trans (by rw [(List.mem_iff_getElem.1 hu).choose_spec.choose_spec]))))⟩)
  have E1 := Lib.hid (show m.kind = 1 → splice ((noCW.vs { noCmd with kind := m.kind }).set 39 (.int .i64 m.serial)) 6 (outV m.dest) = (usedW q m).vs (usedC m) from fun hk => by
    rw [set_serial noOutC_okE, set_to noOutC_okE h.2.2.2.1]
    unfold usedW usedC; rw [hk]; rfl)
  have E4 := Lib.hid (show 4 ≤ m.kind → m.kind ≤ 6 → splice ((noCW.vs { noCmd with kind := m.kind }).set 5 (.slice q.A3 q.n3 q.c3)) 1 (q.tv m) = (usedW q m).vs (usedC m) from fun h1 h2 => by
    have e1 : hasTxK m.kind = true := by unfold hasTxK; simp; omega
    have e2 : hasCK m.kind = true := by unfold hasCK; simp; omega
    rw [set_certs]
    refine (set_tx (q2 := q) m.tx).trans ?_
    unfold usedW usedC; simp only [e1, e2, if_true]
    rw [if_neg (by omega), if_neg (by omega), if_neg (by omega), if_neg (by omega)]; rfl)
  have E2 := Lib.hid (show 2 ≤ m.kind → m.kind ≤ 3 → splice (noCW.vs { noCmd with kind := m.kind }) 1 (q.tv m) = (usedW q m).vs (usedC m) from fun h1 h2 => by
    have e1 : hasTxK m.kind = true := by unfold hasTxK; simp; omega
    have e2 : hasCK m.kind = false := by unfold hasCK; simp; omega
    refine (set_tx (q2 := q) m.tx).trans ?_
    unfold usedW usedC; simp only [e1, e2, if_true, if_false, Bool.false_eq_true]
    rw [if_neg (by omega), if_neg (by omega), if_neg (by omega), if_neg (by omega)]; rfl)
  have E7 := Lib.hid (show m.kind = 7 → (noCW.vs { noCmd with kind := m.kind }).set 40 (.int .i64 m.epoch) = (usedW q m).vs (usedC m) from fun hk => by
    rw [set_epoch noOutC_okE]; unfold usedW usedC; rw [hk]; rfl)
  have E9 := Lib.hid (show m.kind = 9 → splice (noCW.vs { noCmd with kind := m.kind }) 41 (m.id.map B) = (usedW q m).vs (usedC m) from fun hk => by
    rw [set_id noOutC_okE (by simp [noCmd, zId]) h.2.2.2.2.2.2]; unfold usedW usedC; rw [hk]; rfl)
  have E0 := Lib.hid (show m.kind ≠ 1 → m.kind ≠ 4 → m.kind ≠ 5 → m.kind ≠ 6 → m.kind ≠ 2 → m.kind ≠ 3 → m.kind ≠ 7 → m.kind ≠ 9 → noCW.vs { noCmd with kind := m.kind } = (usedW q m).vs (usedC m) from fun h1 h4 h5 h6 h2 h3 h7 h9 => by
    have e1 : hasTxK m.kind = false := by unfold hasTxK; simp; omega
    have e2 : hasCK m.kind = false := by unfold hasCK; simp; omega
    unfold usedW usedC; simp only [e1, e2, if_false, Bool.false_eq_true]
    rw [if_neg h1, if_neg h1, if_neg h7, if_neg h9]; rfl)
  obtain ⟨xv, hxv⟩ : ∃ z, z = q.vs m := ⟨_, rfl⟩
  obtain ⟨uv, huv⟩ : ∃ z, z = (usedW q m).vs (usedC m) := ⟨_, rfl⟩
  obtain ⟨kv, hkv⟩ : ∃ z, z = noCW.vs { noCmd with kind := m.kind } := ⟨_, rfl⟩
  obtain ⟨ts, hts⟩ : ∃ z, z = outV m.dest := ⟨_, rfl⟩
  obtain ⟨is, his⟩ : ∃ z, z = m.id.map B := ⟨_, rfl⟩
  obtain ⟨tv, htv⟩ : ∃ z, z = q.tv m := ⟨_, rfl⟩
  rw [← hxv] at HXC X0 X5 X39 X40 XT XI XX ⊢
  rw [← huv] at HUC E1 E4 E2 E7 E9 E0 ⊢
  rw [← hkv] at HKC HBT E1 E4 E2 E7 E9 E0
  rw [← hts] at XT LT E1; rw [← his] at XI LI E9; rw [← htv] at XX LX E4 E2
  obtain ⟨k, hk⟩ : ∃ z, z = m.kind := ⟨_, rfl⟩
  obtain ⟨se, hse⟩ : ∃ z, z = m.serial := ⟨_, rfl⟩
  obtain ⟨ep, hep⟩ : ∃ z, z = m.epoch := ⟨_, rfl⟩
  rw [← hk] at X0 HBT E1 E4 E2 E7 E9 E0; rw [← hse] at X39 E1; rw [← hep] at X40 E7
  obtain ⟨A, n, c, A2, n2, c2, A3, n3, c3, l, cl⟩ := q
  simp only at X5 E4
  clear h hxv huv hkv hts his htv hk hse hep
  obtain ⟨w_, hw⟩ : ∃ x, x = w := ⟨_, rfl⟩
  have HB := Lib.hid (show Below w.heap.size w w_ by rw [hw]; exact Below.refl _ _)
  suffices H : Calls Try.prog 54 #[.agg xv.toArray] w_ fun e w' => e = .returned (.agg uv.toArray) ∧ Grow w w' by rw [hw] at H; exact H
  clear hw
  have ZC := Lib.hid zero_cmd
  go_enter Try.func54, Try.ntmps54
  go_wp2_with (first | (with_reducible refine wpl_box (o := ⟨some 1, _, _, _, _, _⟩) rfl rfl rfl ?_))
  intro w2_ hb2_ hb_ hsz2_
  have HX_ := Lib.hid (at_mk hb2_ HXC.out.len)
  clear hb2_ hsz2_
  have HG_ := Lib.hid HB.out.size
  have HB_ := Lib.hid (HB.out.grow' hb_)
  clear HB
  have HB := HB_
  clear HB_
  generalize hg_ : w_.heap.size = g1 at HX_ HG_ ⊢
  clear hg_
  have HM_g := HG_
  clear HG_
  have HM := HX_
  clear hb_ HX_
  try clear w_
  rename World => w_
  go_wp2_with (first | (with_reducible refine wpl_alloc (o := ⟨some 2, _, _, _, _, _⟩) rfl rfl zero_cmd ?_))
  intro w2_ hb2_ hb_ hsz2_
  have HX_ := Lib.hid (at_mk hb2_ len_cmd)
  clear hb2_ hsz2_
  have HG_ := Lib.hid HB.out.size
  have HU_HM := Lib.hid (Nat.ne_of_lt HM.out.lt)
  have HB_ := Lib.hid (HB.out.grow' hb_)
  clear HB
  have HB := HB_
  clear HB_
  have HM_ := Lib.hid (HM.out.grow hb_)
  clear HM
  have HM := HM_
  clear HM_
  generalize hg_ : w_.heap.size = g2 at HX_ HG_ HU_HM ⊢
  clear hg_
  have HU_g := HG_
  clear HG_
  have HU := HX_
  clear hb_ HX_
  try clear w_
  rename World => w_
  have c0 := HM.out.blk.at_ X0.out
  go_wp2_with (first | (with_reducible refine wpl_stop (o := ⟨some 6, _, _, _, _, _⟩) ?_))
  refine stop_go ?_
  refine wpl_build rfl rfl HBT.out ?_
  clear c0
  go_wp2_with (first | (with_reducible refine wpl_alloc (o := ⟨some 3, _, _, _, _, _⟩) rfl rfl zero_cmd ?_))
  intro w2_ hb2_ hb_ hsz2_
  have HX_ := Lib.hid (at_mk hb2_ len_cmd)
  clear hb2_ hsz2_
  have HG_ := Lib.hid HB.out.size
  have HV_HM := Lib.hid (Nat.ne_of_lt HM.out.lt)
  have HV_HU := Lib.hid (Nat.ne_of_lt HU.out.lt)
  have HB_ := Lib.hid (HB.out.grow' hb_)
  clear HB
  have HB := HB_
  clear HB_
  have HM_ := Lib.hid (HM.out.grow hb_)
  clear HM
  have HM := HM_
  clear HM_
  have HU_ := Lib.hid (HU.out.grow hb_)
  clear HU
  have HU := HU_
  clear HU_
  generalize hg_ : w_.heap.size = g3 at HX_ HG_ HV_HM HV_HU ⊢
  clear hg_
  have HV_g := HG_
  clear HG_
  have HV := HX_
  clear hb_ HX_
  try clear w_
  rename World => w_
  go_wp2_with (first | (with_reducible refine wpl_storeb (o := ⟨none, .store _ _ _, _, _, _, _⟩) rfl rfl row_cmd HV.out.blk rfl rfl HV.out.len HKC.out.len HKC.out.one ?_))
  intro w2_ hb2_ hg2_ hsz2_
  have HB_ := Lib.hid (put_below HB.out HV_g.out hg2_)
  have HX_ := Lib.hid (at_mk hb2_ HKC.out.len)
  have HM_ := Lib.hid (At.off HM.out hg2_ HV_HM.out)
  have HU_ := Lib.hid (At.off HU.out hg2_ HV_HU.out)
  clear hb2_ hg2_ hsz2_ HB HV HM HU
  have HB := HB_; have HV := HX_
  have HM := HM_
  have HU := HU_
  clear HB_ HX_ HM_ HU_
  try clear w_
  rename World => w_
  have c0 := HM.out.blk.at_ X0.out
  go_upto_block 0 with fail
  go_cut [9] from 10 to 39 (fun s9 wr => Hid (At wr g1 33 73 xv) ∧ Hid (At wr g2 33 73 (noCW.vs noCmd)) ∧ Hid (At wr g3 33 73 uv) ∧ Hid (Below w.heap.size w wr))
  case first =>
    by_cases h_1 : k = 1
    · have y_1 := beq_te (a := k) (b := 1) h_1
      have HK_ := Lib.hid (h_1)
      clear h_1
      clear c0
      have c39 := HM.out.blk.at_ X39.out
      try go_wp2_with fail
      repeat' (first | (with_reducible refine wp_plan (id := 11) (fun a b => (a.grownBy b (some g3))) [0,2,0,1,0,4,0,3] (.get 0 (.get 1 (.get 2 (.get 3 (.get 4 (.act 5 (.get 6 (.act 7 .done)))))))) (by kernel_rfl) (by kernel_rfl) (fun a => grownBy_refl a _) (fun _ _ _ h k => grownBy_trans h k) ?_) | go_values | go_skip | go_guarded | go_step | go_upon | go_back)
      intro w_ hd_
      have hb_ := hd_.grow
      have HB_ := Lib.hid (HB.out.grow' hb_)
      clear HB
      have HB := HB_
      clear HB_
      have HM_ := Lib.hid (HM.out.grow hb_)
      clear HM
      have HM := HM_
      clear HM_
      have HU_ := Lib.hid (HU.out.grow hb_)
      clear HU
      have HU := HU_
      clear HU_
      have HV_ := Lib.hid (HV.out.grow hb_)
      clear HV
      have HV := HV_
      clear HV_
      clear hb_ hd_
      repeat (first | (refine pl_calm rfl rfl (by first | exact wanted_none rfl | (go_simp; done) | rfl) (fun w_ => by first | (go_simp; rfl) | (go_simp; done) | rfl) (fun K hK => ?_); go_simp; refine hK _ _ ?_; clear hK K) | (refine pl_skip rfl (by first | (go_simp; done) | rfl) (fun K hK => ?_); go_simp; refine hK _ _ ?_; clear hK K) | (refine pl_skipa rfl (by first | (go_simp; done) | rfl) (fun K hK => ?_); go_simp; refine hK _ _ ?_; clear hK K))
      refine pl_now rfl rfl (by exact wanted_none rfl) (v := .int .i64 se) (by have c9 := HM.out.blk.at_ X39.out; first | (go_simp; rfl) | (go_simp; done)) (fun K hK => ?_)
      go_simp
      refine hK _ _ ?_
      clear hK K
      repeat (first | (refine pl_calm rfl rfl (by first | exact wanted_none rfl | (go_simp; done) | rfl) (fun w_ => by first | (go_simp; rfl) | (go_simp; done) | rfl) (fun K hK => ?_); go_simp; refine hK _ _ ?_; clear hK K) | (refine pl_skip rfl (by first | (go_simp; done) | rfl) (fun K hK => ?_); go_simp; refine hK _ _ ?_; clear hK K) | (refine pl_skipa rfl (by first | (go_simp; done) | rfl) (fun K hK => ?_); go_simp; refine hK _ _ ?_; clear hK K))
      refine pl_loadmf rfl (by decide) (by exact wanted_none rfl) rfl row_tout (grownBy_refl _ _) (fun w3_ hf_ j u hu => (HM.out.blk.grown hf_ (fun e => HV_HM.out (Option.some.inj e))).at_ (XT.out j u hu)) (by first | rfl | (go_simp; done) | rfl) LT.out.len (fun K hK => ?_)
      go_simp
      refine hK _ _ ?_
      clear hK K
      repeat (first | (refine pl_calm rfl rfl (by first | exact wanted_none rfl | (go_simp; done) | rfl) (fun w_ => by first | (go_simp; rfl) | (go_simp; done) | rfl) (fun K hK => ?_); go_simp; refine hK _ _ ?_; clear hK K) | (refine pl_skip rfl (by first | (go_simp; done) | rfl) (fun K hK => ?_); go_simp; refine hK _ _ ?_; clear hK K) | (refine pl_skipa rfl (by first | (go_simp; done) | rfl) (fun K hK => ?_); go_simp; refine hK _ _ ?_; clear hK K))
      refine pl_act rfl (by exact wanted_none rfl) (fun K hK => ?_)
      show wpList _ _ _ [⟨none, .store _ _ _, _, _, _, _⟩] _ _
      go_wp2_with (first | (refine wpl_store1 (o := ⟨none, .store _ _ _, _, _, _, _⟩) rfl rfl HV.out.blk rfl rfl (by kernel_rfl) rfl rfl (by have := HV.out.len; omega) ?_))
      intro w2_ hb2_ hg2_ hsz2_
      go_wp2_with fail
      refine hK _ _ (fun _ => hg2_) ?_
      clear hK K
      have HB_ := Lib.hid (put_below HB.out HV_g.out hg2_)
      have HM_ := Lib.hid (At.off HM.out hg2_ HV_HM.out)
      have HU_ := Lib.hid (At.off HU.out hg2_ HV_HU.out)
      have HV_ := Lib.hid (at_mk hb2_ ((List.length_set ..).trans HV.out.len))
      clear hb2_ hg2_ hsz2_ HB HV HM HU
      have HB := HB_; have HV := HV_; have HM := HM_; have HU := HU_
      clear HB_ HV_ HM_ HU_
      repeat (first | (refine pl_calm rfl rfl (by first | exact wanted_none rfl | (go_simp; done) | rfl) (fun w_ => by first | (go_simp; rfl) | (go_simp; done) | rfl) (fun K hK => ?_); go_simp; refine hK _ _ ?_; clear hK K) | (refine pl_skip rfl (by first | (go_simp; done) | rfl) (fun K hK => ?_); go_simp; refine hK _ _ ?_; clear hK K) | (refine pl_skipa rfl (by first | (go_simp; done) | rfl) (fun K hK => ?_); go_simp; refine hK _ _ ?_; clear hK K))
      refine pl_act rfl (by exact wanted_none rfl) (fun K hK => ?_)
      show wpList _ _ _ [⟨none, .store _ _ _, _, _, _, _⟩] _ _
      go_wp2_with (first | (refine wpl_storem (o := ⟨none, .store _ _ _, _, _, _, _⟩) rfl rfl row_tout HV.out.blk rfl rfl LT.out.len (by have := HV.out.len; omega) LT.out.one ?_))
      intro w2_ hb2_ hg2_ hsz2_
      go_wp2_with fail
      refine hK _ _ (fun _ => hg2_) ?_
      clear hK K
      have HB_ := Lib.hid (put_below HB.out HV_g.out hg2_)
      have HM_ := Lib.hid (At.off HM.out hg2_ HV_HM.out)
      have HU_ := Lib.hid (At.off HU.out hg2_ HV_HU.out)
      have HV_ := Lib.hid (at_mk hb2_ (splice_length (by have h1 := HV.out.len; have h2 := LT.out.len; omega) HV.out.len))
      clear hb2_ hg2_ hsz2_ HB HV HM HU
      have HB := HB_; have HV := HV_; have HM := HM_; have HU := HU_
      clear HB_ HV_ HM_ HU_
      repeat (first | (refine pl_calm rfl rfl (by first | exact wanted_none rfl | (go_simp; done) | rfl) (fun w_ => by first | (go_simp; rfl) | (go_simp; done) | rfl) (fun K hK => ?_); go_simp; refine hK _ _ ?_; clear hK K) | (refine pl_skip rfl (by first | (go_simp; done) | rfl) (fun K hK => ?_); go_simp; refine hK _ _ ?_; clear hK K) | (refine pl_skipa rfl (by first | (go_simp; done) | rfl) (fun K hK => ?_); go_simp; refine hK _ _ ?_; clear hK K))
      refine pl_done ?_
      have HW := Lib.hid (show At _ g3 33 73 uv by rw [← E1.out HK_.out]; exact HV.out)
      go_wp2_with fail
      go_meet
      case rel => exact ⟨HM, HU, HW, HB⟩
    have y_1 := beq_fe (a := k) (b := 1) h_1
    have H_1 := Lib.hid h_1
    clear h_1
    by_cases h_4 : k = 4
    · have y_4 := beq_te (a := k) (b := 4) h_4
      have HK_ := Lib.hid ((⟨by omega, by omega⟩ : 4 ≤ k ∧ k ≤ 6))
      clear h_4
      have c5 := HM.out.blk.at_ X5.out
      clear c0
      go_wp2_with (first | (refine wpl_store1 (o := ⟨none, .store _ _ _, _, _, _, _⟩) rfl rfl HV.out.blk rfl rfl (by kernel_rfl) rfl rfl (by have := HV.out.len; omega) ?_))
      intro w2_ hb2_ hg2_ hsz2_
      have HB_ := Lib.hid (put_below HB.out HV_g.out hg2_)
      have HX_ := Lib.hid (at_mk hb2_ ((List.length_set ..).trans HV.out.len))
      have HM_ := Lib.hid (At.off HM.out hg2_ HV_HM.out)
      have HU_ := Lib.hid (At.off HU.out hg2_ HV_HU.out)
      clear hb2_ hg2_ hsz2_ HB HV HM HU
      have HB := HB_; have HV := HX_
      have HM := HM_
      have HU := HU_
      clear HB_ HX_ HM_ HU_
      try clear w_
      rename World => w_
      clear c5
      have FX := Lib.hid (show ∀ j u, tv[j]? = some u → w_.cell? ⟨g1, 1 + j, none⟩ = some u from fun j u hu => HM.out.blk.at_ (XX.out j u hu))
      go_wp2_with (first | (with_reducible refine wpl_loadm (o := ⟨some 32, _, _, _, _, _⟩) rfl rfl row_tx FX.out rfl LX.out.len ?_) | (with_reducible refine wpl_storem (o := ⟨none, .store _ _ _, _, _, _, _⟩) rfl rfl row_tx HV.out.blk rfl rfl LX.out.len (by have := HV.out.len; omega) LX.out.one ?_))
      intro w2_ hb2_ hg2_ hsz2_
      have HB_ := Lib.hid (put_below HB.out HV_g.out hg2_)
      have HX_ := Lib.hid (at_mk hb2_ (splice_length (by have h1 := HV.out.len; have h2 := LX.out.len; omega) HV.out.len))
      have HM_ := Lib.hid (At.off HM.out hg2_ HV_HM.out)
      have HU_ := Lib.hid (At.off HU.out hg2_ HV_HU.out)
      clear hb2_ hg2_ hsz2_ HB HV HM HU
      have HB := HB_; have HV := HX_
      have HM := HM_
      have HU := HU_
      clear HB_ HX_ HM_ HU_
      try clear w_
      rename World => w_
      have HW := Lib.hid (show At _ g3 33 73 uv by rw [← E4.out HK_.out.1 HK_.out.2]; exact HV.out)
      clear FX
      go_wp2_with fail
      go_meet
      case rel => exact ⟨HM, HU, HW, HB⟩
    have y_4 := beq_fe (a := k) (b := 4) h_4
    have H_4 := Lib.hid h_4
    clear h_4
    by_cases h_5 : k = 5
    · have y_5 := beq_te (a := k) (b := 5) h_5
      have HK_ := Lib.hid ((⟨by omega, by omega⟩ : 4 ≤ k ∧ k ≤ 6))
      clear h_5
      have c5 := HM.out.blk.at_ X5.out
      clear c0
      go_wp2_with (first | (refine wpl_store1 (o := ⟨none, .store _ _ _, _, _, _, _⟩) rfl rfl HV.out.blk rfl rfl (by kernel_rfl) rfl rfl (by have := HV.out.len; omega) ?_))
      intro w2_ hb2_ hg2_ hsz2_
      have HB_ := Lib.hid (put_below HB.out HV_g.out hg2_)
      have HX_ := Lib.hid (at_mk hb2_ ((List.length_set ..).trans HV.out.len))
      have HM_ := Lib.hid (At.off HM.out hg2_ HV_HM.out)
      have HU_ := Lib.hid (At.off HU.out hg2_ HV_HU.out)
      clear hb2_ hg2_ hsz2_ HB HV HM HU
      have HB := HB_; have HV := HX_
      have HM := HM_
      have HU := HU_
      clear HB_ HX_ HM_ HU_
      try clear w_
      rename World => w_
      clear c5
      have FX := Lib.hid (show ∀ j u, tv[j]? = some u → w_.cell? ⟨g1, 1 + j, none⟩ = some u from fun j u hu => HM.out.blk.at_ (XX.out j u hu))
      go_wp2_with (first | (with_reducible refine wpl_loadm (o := ⟨some 32, _, _, _, _, _⟩) rfl rfl row_tx FX.out rfl LX.out.len ?_) | (with_reducible refine wpl_storem (o := ⟨none, .store _ _ _, _, _, _, _⟩) rfl rfl row_tx HV.out.blk rfl rfl LX.out.len (by have := HV.out.len; omega) LX.out.one ?_))
      intro w2_ hb2_ hg2_ hsz2_
      have HB_ := Lib.hid (put_below HB.out HV_g.out hg2_)
      have HX_ := Lib.hid (at_mk hb2_ (splice_length (by have h1 := HV.out.len; have h2 := LX.out.len; omega) HV.out.len))
      have HM_ := Lib.hid (At.off HM.out hg2_ HV_HM.out)
      have HU_ := Lib.hid (At.off HU.out hg2_ HV_HU.out)
      clear hb2_ hg2_ hsz2_ HB HV HM HU
      have HB := HB_; have HV := HX_
      have HM := HM_
      have HU := HU_
      clear HB_ HX_ HM_ HU_
      try clear w_
      rename World => w_
      have HW := Lib.hid (show At _ g3 33 73 uv by rw [← E4.out HK_.out.1 HK_.out.2]; exact HV.out)
      clear FX
      go_wp2_with fail
      go_meet
      case rel => exact ⟨HM, HU, HW, HB⟩
    have y_5 := beq_fe (a := k) (b := 5) h_5
    have H_5 := Lib.hid h_5
    clear h_5
    by_cases h_6 : k = 6
    · have y_6 := beq_te (a := k) (b := 6) h_6
      have HK_ := Lib.hid ((⟨by omega, by omega⟩ : 4 ≤ k ∧ k ≤ 6))
      clear h_6
      have c5 := HM.out.blk.at_ X5.out
      clear c0
      go_wp2_with (first | (refine wpl_store1 (o := ⟨none, .store _ _ _, _, _, _, _⟩) rfl rfl HV.out.blk rfl rfl (by kernel_rfl) rfl rfl (by have := HV.out.len; omega) ?_))
      intro w2_ hb2_ hg2_ hsz2_
      have HB_ := Lib.hid (put_below HB.out HV_g.out hg2_)
      have HX_ := Lib.hid (at_mk hb2_ ((List.length_set ..).trans HV.out.len))
      have HM_ := Lib.hid (At.off HM.out hg2_ HV_HM.out)
      have HU_ := Lib.hid (At.off HU.out hg2_ HV_HU.out)
      clear hb2_ hg2_ hsz2_ HB HV HM HU
      have HB := HB_; have HV := HX_
      have HM := HM_
      have HU := HU_
      clear HB_ HX_ HM_ HU_
      try clear w_
      rename World => w_
      clear c5
      have FX := Lib.hid (show ∀ j u, tv[j]? = some u → w_.cell? ⟨g1, 1 + j, none⟩ = some u from fun j u hu => HM.out.blk.at_ (XX.out j u hu))
      go_wp2_with (first | (with_reducible refine wpl_loadm (o := ⟨some 32, _, _, _, _, _⟩) rfl rfl row_tx FX.out rfl LX.out.len ?_) | (with_reducible refine wpl_storem (o := ⟨none, .store _ _ _, _, _, _, _⟩) rfl rfl row_tx HV.out.blk rfl rfl LX.out.len (by have := HV.out.len; omega) LX.out.one ?_))
      intro w2_ hb2_ hg2_ hsz2_
      have HB_ := Lib.hid (put_below HB.out HV_g.out hg2_)
      have HX_ := Lib.hid (at_mk hb2_ (splice_length (by have h1 := HV.out.len; have h2 := LX.out.len; omega) HV.out.len))
      have HM_ := Lib.hid (At.off HM.out hg2_ HV_HM.out)
      have HU_ := Lib.hid (At.off HU.out hg2_ HV_HU.out)
      clear hb2_ hg2_ hsz2_ HB HV HM HU
      have HB := HB_; have HV := HX_
      have HM := HM_
      have HU := HU_
      clear HB_ HX_ HM_ HU_
      try clear w_
      rename World => w_
      have HW := Lib.hid (show At _ g3 33 73 uv by rw [← E4.out HK_.out.1 HK_.out.2]; exact HV.out)
      clear FX
      go_wp2_with fail
      go_meet
      case rel => exact ⟨HM, HU, HW, HB⟩
    have y_6 := beq_fe (a := k) (b := 6) h_6
    have H_6 := Lib.hid h_6
    clear h_6
    by_cases h_2 : k = 2
    · have y_2 := beq_te (a := k) (b := 2) h_2
      have HK_ := Lib.hid ((⟨by omega, by omega⟩ : 2 ≤ k ∧ k ≤ 3))
      clear h_2
      have FX := Lib.hid (show ∀ j u, tv[j]? = some u → w_.cell? ⟨g1, 1 + j, none⟩ = some u from fun j u hu => HM.out.blk.at_ (XX.out j u hu))
      clear c0
      go_wp2_with (first | (with_reducible refine wpl_loadm (o := ⟨some 32, _, _, _, _, _⟩) rfl rfl row_tx FX.out rfl LX.out.len ?_) | (with_reducible refine wpl_storem (o := ⟨none, .store _ _ _, _, _, _, _⟩) rfl rfl row_tx HV.out.blk rfl rfl LX.out.len (by have := HV.out.len; omega) LX.out.one ?_))
      intro w2_ hb2_ hg2_ hsz2_
      have HB_ := Lib.hid (put_below HB.out HV_g.out hg2_)
      have HX_ := Lib.hid (at_mk hb2_ (splice_length (by have h1 := HV.out.len; have h2 := LX.out.len; omega) HV.out.len))
      have HM_ := Lib.hid (At.off HM.out hg2_ HV_HM.out)
      have HU_ := Lib.hid (At.off HU.out hg2_ HV_HU.out)
      clear hb2_ hg2_ hsz2_ HB HV HM HU
      have HB := HB_; have HV := HX_
      have HM := HM_
      have HU := HU_
      clear HB_ HX_ HM_ HU_
      try clear w_
      rename World => w_
      have HW := Lib.hid (show At _ g3 33 73 uv by rw [← E2.out HK_.out.1 HK_.out.2]; exact HV.out)
      clear FX
      go_wp2_with fail
      go_meet
      case rel => exact ⟨HM, HU, HW, HB⟩
    have y_2 := beq_fe (a := k) (b := 2) h_2
    have H_2 := Lib.hid h_2
    clear h_2
    by_cases h_3 : k = 3
    · have y_3 := beq_te (a := k) (b := 3) h_3
      have HK_ := Lib.hid ((⟨by omega, by omega⟩ : 2 ≤ k ∧ k ≤ 3))
      clear h_3
      have FX := Lib.hid (show ∀ j u, tv[j]? = some u → w_.cell? ⟨g1, 1 + j, none⟩ = some u from fun j u hu => HM.out.blk.at_ (XX.out j u hu))
      clear c0
      go_wp2_with (first | (with_reducible refine wpl_loadm (o := ⟨some 32, _, _, _, _, _⟩) rfl rfl row_tx FX.out rfl LX.out.len ?_) | (with_reducible refine wpl_storem (o := ⟨none, .store _ _ _, _, _, _, _⟩) rfl rfl row_tx HV.out.blk rfl rfl LX.out.len (by have := HV.out.len; omega) LX.out.one ?_))
      intro w2_ hb2_ hg2_ hsz2_
      have HB_ := Lib.hid (put_below HB.out HV_g.out hg2_)
      have HX_ := Lib.hid (at_mk hb2_ (splice_length (by have h1 := HV.out.len; have h2 := LX.out.len; omega) HV.out.len))
      have HM_ := Lib.hid (At.off HM.out hg2_ HV_HM.out)
      have HU_ := Lib.hid (At.off HU.out hg2_ HV_HU.out)
      clear hb2_ hg2_ hsz2_ HB HV HM HU
      have HB := HB_; have HV := HX_
      have HM := HM_
      have HU := HU_
      clear HB_ HX_ HM_ HU_
      try clear w_
      rename World => w_
      have HW := Lib.hid (show At _ g3 33 73 uv by rw [← E2.out HK_.out.1 HK_.out.2]; exact HV.out)
      clear FX
      go_wp2_with fail
      go_meet
      case rel => exact ⟨HM, HU, HW, HB⟩
    have y_3 := beq_fe (a := k) (b := 3) h_3
    have H_3 := Lib.hid h_3
    clear h_3
    by_cases h_7 : k = 7
    · have y_7 := beq_te (a := k) (b := 7) h_7
      have HK_ := Lib.hid (h_7)
      clear h_7
      have c40 := HM.out.blk.at_ X40.out
      clear c0
      go_wp2_with (first | (refine wpl_store1 (o := ⟨none, .store _ _ _, _, _, _, _⟩) rfl rfl HV.out.blk rfl rfl (by kernel_rfl) rfl rfl (by have := HV.out.len; omega) ?_))
      intro w2_ hb2_ hg2_ hsz2_
      have HB_ := Lib.hid (put_below HB.out HV_g.out hg2_)
      have HX_ := Lib.hid (at_mk hb2_ ((List.length_set ..).trans HV.out.len))
      have HM_ := Lib.hid (At.off HM.out hg2_ HV_HM.out)
      have HU_ := Lib.hid (At.off HU.out hg2_ HV_HU.out)
      clear hb2_ hg2_ hsz2_ HB HV HM HU
      have HB := HB_; have HV := HX_
      have HM := HM_
      have HU := HU_
      clear HB_ HX_ HM_ HU_
      try clear w_
      rename World => w_
      clear c40
      have HW := Lib.hid (show At _ g3 33 73 uv by rw [← E7.out HK_.out]; exact HV.out)
      go_wp2_with fail
      go_meet
      case rel => exact ⟨HM, HU, HW, HB⟩
    have y_7 := beq_fe (a := k) (b := 7) h_7
    have H_7 := Lib.hid h_7
    clear h_7
    by_cases h_9 : k = 9
    · have y_9 := beq_te (a := k) (b := 9) h_9
      have HK_ := Lib.hid (h_9)
      clear h_9
      have FI := Lib.hid (show ∀ j u, is[j]? = some u → w_.cell? ⟨g1, 41 + j, none⟩ = some u from fun j u hu => HM.out.blk.at_ (XI.out j u hu))
      clear c0
      go_wp2_with (first | (with_reducible refine wpl_loadm (o := ⟨some 38, _, _, _, _, _⟩) rfl rfl row_aid FI.out rfl LI.out.len ?_) | (with_reducible refine wpl_storem (o := ⟨none, .store _ _ _, _, _, _, _⟩) rfl rfl row_aid HV.out.blk rfl rfl LI.out.len (by have := HV.out.len; omega) LI.out.one ?_))
      intro w2_ hb2_ hg2_ hsz2_
      have HB_ := Lib.hid (put_below HB.out HV_g.out hg2_)
      have HX_ := Lib.hid (at_mk hb2_ (splice_length (by have h1 := HV.out.len; have h2 := LI.out.len; omega) HV.out.len))
      have HM_ := Lib.hid (At.off HM.out hg2_ HV_HM.out)
      have HU_ := Lib.hid (At.off HU.out hg2_ HV_HU.out)
      clear hb2_ hg2_ hsz2_ HB HV HM HU
      have HB := HB_; have HV := HX_
      have HM := HM_
      have HU := HU_
      clear HB_ HX_ HM_ HU_
      try clear w_
      rename World => w_
      have HW := Lib.hid (show At _ g3 33 73 uv by rw [← E9.out HK_.out]; exact HV.out)
      clear FI
      go_wp2_with fail
      go_meet
      case rel => exact ⟨HM, HU, HW, HB⟩
    have y_9 := beq_fe (a := k) (b := 9) h_9
    have H_9 := Lib.hid h_9
    clear h_9
    have HW := Lib.hid (show At _ g3 33 73 uv by rw [← E0.out H_1.out H_4.out H_5.out H_6.out H_2.out H_3.out H_7.out H_9.out]; exact HV.out)
    go_wp2_with fail
    go_meet
    case rel => exact ⟨HM, HU, HW, HB⟩
  case rest =>
    obtain ⟨hx, hu, hv, hb⟩ := hcut
    clear HM HU HV HB c0
    rename World => w_
    have HM := hx; have HU := hu; have HV := hv; have HB := hb
    clear hx hu hv hb
    go_wp2_with (first | (with_reducible refine wpl_loadb (o := ⟨some 40, _, _, _, _, _⟩) rfl rfl row_cmd HV.out.blk rfl HV.out.len ?_) | (with_reducible refine wpl_storeb (o := ⟨none, .store _ _ _, _, _, _, _⟩) rfl rfl row_cmd HU.out.blk rfl rfl HU.out.len HUC.out.len HUC.out.one ?_))
    intro w2_ hb2_ hg2_ hsz2_
    have HB_ := Lib.hid (put_below HB.out HU_g.out hg2_)
    have HX_ := Lib.hid (at_mk hb2_ HUC.out.len)
    clear hb2_ hg2_ hsz2_ HB HU
    have HB := HB_; have HU := HX_
    clear HB_ HX_ 
    try clear w_
    rename World => w_
    go_wp2_with fail
    refine ret_cell rfl row_cmd HU.out.blk rfl HU.out.len rfl ?_
    exact ⟨rfl, HB.out⟩
end Go.Proofs.Ytobmldegjajocaa
/- What was read is what would be written: numbers, texts, transactions, certificates. No program in sight. -/
namespace Go.Proofs.Ytobmldegjajocaa
set_option linter.unusedVariables false
theorem leB_valB : ∀ (n : Nat) (b : List UInt8), b.length = n → (b ≠ [] → b[0]? ≠ some 0) → leB (valB b) = b.reverse
  | 0, b, hn, _ => by obtain rfl : b = [] := List.eq_nil_of_length_eq_zero hn; rw [valB_nil, leB_zero]; rfl
  | n + 1, b, hn, h0 => by
    rcases List.eq_nil_or_concat b with rfl | ⟨t, c, rfl⟩
    · cases hn
    · rw [List.concat_eq_append] at hn h0 ⊢
      have ht : t.length = n := by simpa using hn
      have hc := c.toNat_lt
      have ih := leB_valB n t ht (fun hne => by
        have := h0 (by simp)
        cases t with
        | nil => exact absurd rfl hne
        | cons x t => simpa using this)
      have hpos : valB t * 256 + c.toNat ≠ 0 := by
        cases t with
        | nil =>
          have h1 := h0 (by simp)
          simp at h1
          intro e
          apply h1
          have : c.toNat = 0 := by omega
          exact UInt8.toNat_inj.1 this
        | cons x t =>
          intro e
          have h2 : valB (x :: t) = 0 := by omega
          rw [h2, leB_zero] at ih
          simp at ih
      rw [valB_snoc, leB_pos hpos, show (valB t * 256 + c.toNat) / 256 = valB t by omega, ih, List.reverse_append]
      have e : UInt8.ofNat (valB t * 256 + c.toNat) = c := by
        apply UInt8.toNat_inj.1
        rw [UInt8.toNat_ofNat']; omega
      rw [e]; rfl
theorem numR_back {most : Nat} {l t : List UInt8} {v : Nat} (h : numR most l = .ok (v, t)) : l = numB v ++ t := by
  cases l with
  | nil => cases h
  | cons k l =>
    simp only [numR] at h
    split at h
    · cases h
    rename_i h8
    split at h
    · cases h
    rename_i hl
    split at h
    · cases h
    rename_i hz
    split at h
    · cases h
    injection h with h
    injection h with h1 h2
    subst h1; subst h2
    have hlen : (l.take k.toNat).length = k.toNat := by rw [List.length_take]; omega
    have e := leB_valB _ (l.take k.toNat) rfl (fun hne => by
      intro e0
      apply hz
      have hk : 0 < k.toNat := by
        rcases Nat.eq_zero_or_pos k.toNat with hk | hk
        · exact absurd (List.eq_nil_of_length_eq_zero (by omega)) hne
        · exact hk
      refine ⟨hk, ?_⟩
      rw [List.getElem?_take_of_lt hk] at e0; exact e0)
    unfold numB lenB
    rw [e, List.reverse_reverse, List.length_reverse, hlen, UInt8.ofNat_toNat, List.cons_append, List.take_append_drop]
theorem takeR_back {n : Nat} {l b t : List UInt8} (h : takeR n l = .ok (b, t)) : l = b ++ t := by
  unfold takeR at h
  split at h
  · injection h with h; injection h with h1 h2
    subst h1; subst h2
    rw [List.take_append_drop]
  · cases h
theorem textR_back {most : Nat} {l b t : List UInt8} (h : textR most l = .ok (b, t)) : l = numB b.length ++ b ++ t := by
  unfold textR at h
  split at h
  · cases h
  · rename_i v t' h1
    have e1 := numR_back h1; have e2 := takeR_back h; have e3 := (takeR_le h).1
    rw [e1, e2, e3, List.append_assoc]
theorem lookN_back {α : Type} {f : List UInt8 → Rd α} {p : α → List UInt8} (hf : ∀ l a t, f l = .ok (a, t) → l = p a ++ t) : ∀ (n : Nat) (l : List UInt8) (qs : List α) (t : List UInt8), lookN f n l = .ok (qs, t) → l = qs.flatMap p ++ t ∧ qs.length = n
  | 0, l, qs, t, h => by injection h with h; injection h with h1 h2; subst h1; subst h2; exact ⟨rfl, rfl⟩
  | n + 1, l, qs, t, h => by
    unfold lookN at h
    split at h
    · cases h
    · rename_i a l1 h1
      split at h
      · cases h
      · rename_i qs2 l2 h2
        injection h with h; injection h with e1 e2
        subst e1; subst e2
        obtain ⟨k1, k2⟩ := lookN_back hf n _ _ _ h2
        refine ⟨?_, by simp [k2]⟩
        rw [hf _ _ _ h1, k1, List.flatMap_cons, List.append_assoc]
theorem lookI_back (l : List UInt8) (i : Inp) (t : List UInt8) (h : lookI l = .ok (i, t)) : l = putI i ++ t := by
  unfold lookI at h
  split at h
  · cases h
  rename_i h1
  split at h
  · cases h
  rename_i h2
  split at h
  · cases h
  rename_i h3
  split at h
  · cases h
  rename_i h4
  injection h with h; injection h with e1 e2
  subst e1; subst e2
  rw [takeR_back h1, numR_back h2, numR_back h3, textR_back h4]
  unfold putI
  simp only [Int.toNat_natCast, List.append_assoc]
theorem lookO_back (l : List UInt8) (i : Outp) (t : List UInt8) (h : lookO l = .ok (i, t)) : l = putO i ++ t := by
  unfold lookO at h
  split at h
  · cases h
  rename_i h1
  split at h
  · cases h
  rename_i h2
  injection h with h; injection h with e1 e2
  subst e1; subst e2
  rw [takeR_back h1, numR_back h2]
  unfold putO
  simp only [Int.toNat_natCast, List.append_assoc]
theorem lookT_back {l t : List UInt8} {x : Txn} (h : lookT l = .ok (x, t)) : l = putTB x ++ t := by
  unfold lookT at h
  split at h
  · cases h
  rename_i h1
  split at h
  · cases h
  rename_i h2
  split at h
  · cases h
  rename_i h3
  split at h
  · cases h
  rename_i h4
  split at h
  · cases h
  rename_i h5
  split at h
  · cases h
  rename_i h6
  injection h with h; injection h with e1 e2
  subst e1; subst e2
  obtain ⟨k2, j2⟩ := lookN_back lookI_back _ _ _ _ h2
  obtain ⟨k4, j4⟩ := lookN_back lookO_back _ _ _ _ h4
  rw [numR_back h1, k2, numR_back h3, k4, numR_back h5, numR_back h6]
  unfold putTB
  simp only [Int.toNat_natCast, List.append_assoc, j2, j4]
theorem readT_back {l : List UInt8} {x : Txn} (h : readT l = .ok x) : l = putTB x ∧ checkT x = 0 ∧ x.ok := by
  unfold readT at h
  split at h
  · cases h
  rename_i h1
  split at h
  · cases h
  rename_i h2
  split at h
  · cases h
  rename_i h3
  injection h with h
  subst h
  have := lookT_back h1
  refine ⟨by rw [this]; simp at h2; rw [h2]; simp, by simpa using h3, (lookT_ok h1).1⟩
end Go.Proofs.Ytobmldegjajocaa

/- The contract of command.used. Printed by mkcmde.py. -/
import Derived.Test.YtiijepimkgaccaaGreatCommandLongRe23
set_option linter.unusedSimpArgs false
set_option linter.unusedVariables false
set_option maxRecDepth 100000
set_option maxHeartbeats 16000000
namespace Go.Proofs.YtiijepimkgaccaaGreat
open Go.RowKit Go.Shelf
theorem beq_te {a b : Int} (h : a = b) : (a == b) = true := by simpa using h
theorem beq_fe {a b : Int} (h : a ≠ b) : (a == b) = false := by simpa using h
def noCW : CW := ⟨none, 0, 0, none, 0, 0, none, 0, 0, [], []⟩
theorem noOutC_okE : noOutC.ok := ⟨by simp [noOutC, zId], by simp [noOutC, U64]⟩
theorem noCmd_ok : noCmd.ok := ⟨by simp [noCmd, I64], noTxn_ok, by simp [noCmd], noOutC_okE, by simp [noCmd, I64], by simp [noCmd, I64], by simp [noCmd, zId]⟩
theorem zero_cmd : (Tryz.prog.info? 36).map (·.zero) = some (some (.agg (noCW.vs noCmd).toArray)) := by kernel_rfl
theorem len_cmd : (noCW.vs noCmd).length = 73 := vs_len noCmd_ok
theorem built_cmd1 (k : Int) : Tryz.prog.built 36 [(0, .int .i64 k)] = some (noCW.vs { noCmd with kind := k }).toArray := by kernel_rfl
def usedW (q : CW) (m : Cmd) : CW where
 A := if hasTxK m.kind then q.A else none
 n := if hasTxK m.kind then q.n else 0
 c := if hasTxK m.kind then q.c else 0
 A2 := if hasTxK m.kind then q.A2 else none
 n2 := if hasTxK m.kind then q.n2 else 0
 c2 := if hasTxK m.kind then q.c2 else 0
 A3 := if hasCK m.kind then q.A3 else none
 n3 := if hasCK m.kind then q.n3 else 0
 c3 := if hasCK m.kind then q.c3 else 0
 l := if hasTxK m.kind then q.l else []
 cl := if hasCK m.kind then q.cl else []
theorem usedC_ok {m : Cmd} (h : m.ok) : (usedC m).ok := by
 obtain ⟨h1, h2, h3, h4, h5, h6, h7⟩ := h;refine ⟨h1, ?_, ?_, ?_, ?_, ?_, ?_⟩
 ·show (if hasTxK m.kind then m.tx else noTxn).ok; split; exact h2; exact noTxn_ok
 ·show ∀ x ∈ (if hasCK m.kind then m.certs else []), x.ok; split; exact h3; simp
 ·show (if m.kind = 1 then m.dest else noOutC).ok; split; exact h4; exact noOutC_okE
 ·show I64 (if m.kind = 1 then m.serial else 0); split; exact h5; simp [I64]
 ·show I64 (if m.kind = 7 then m.epoch else 0); split; exact h6; simp [I64]
 ·show (if m.kind = 9 then m.id else zId).length = 32; split; exact h7; simp [zId]
theorem usedW_at {w : World} {q : CW} {m : Cmd} (h : CmdAt w q m) : CmdAt w (usedW q m) (usedC m) := by
 obtain ⟨h1, h2, h3, h4, h5, h6⟩ := h;refine ⟨?_, ?_, ?_, ?_, ?_, usedC_ok h6⟩
 ·unfold usedW; dsimp only; by_cases h : hasTxK m.kind = true
  ·simp only [h, if_true]; exact h1
  ·simp only [h, if_false, Bool.false_eq_true]; exact insAt_nil
 ·unfold usedW usedC; dsimp only; by_cases h : hasTxK m.kind = true
  ·simp only [h, if_true]; exact h2
  ·simp only [h, if_false, Bool.false_eq_true]; exact outsAt_nil
 ·unfold usedW; dsimp only; by_cases h : hasCK m.kind = true
  ·simp only [h, if_true]; exact h3
  ·simp only [h, if_false, Bool.false_eq_true]; exact CertsAt.nil w
 ·unfold usedW usedC; dsimp only; by_cases h : hasTxK m.kind = true
  ·simp only [h, if_true]; exact h4
  ·simp only [h, if_false, Bool.false_eq_true]; rfl
 ·unfold usedW usedC; dsimp only; by_cases h : hasCK m.kind = true
  ·simp only [h, if_true]; exact h5
  ·simp only [h, if_false, Bool.false_eq_true]; rfl
theorem set_serial {q : CW} {m : Cmd} (h : m.dest.ok) (s : Int) : (q.vs m).set 39 (.int .i64 s) = q.vs { m with serial := s } := by
 have hl := outV_length h;have e1 : q.vs m = ((.int .i64 m.kind :: (q.tv m ++ [.slice q.A3 q.n3 q.c3])) ++ outV m.dest) ++ (.int .i64 m.serial :: .int .i64 m.epoch :: m.id.map B) := by simp [CW.vs, cmdV]
 have e2 : q.vs { m with serial := s } = ((.int .i64 m.kind :: (q.tv m ++ [.slice q.A3 q.n3 q.c3])) ++ outV m.dest) ++ (.int .i64 s :: .int .i64 m.epoch :: m.id.map B) := by simp [CW.vs, cmdV, CW.tv]
 have hL : ((Value.int .i64 m.kind :: (q.tv m ++ [.slice q.A3 q.n3 q.c3])) ++ outV m.dest).length = 39 := by rw [List.length_append, hl]; rfl
 rw [e1, e2, List.set_append, if_neg (by rw [hL]; omega), hL]; rfl
theorem set_epoch {q : CW} {m : Cmd} (h : m.dest.ok) (s : Int) : (q.vs m).set 40 (.int .i64 s) = q.vs { m with epoch := s } := by
 have hl := outV_length h;have e1 : q.vs m = ((.int .i64 m.kind :: (q.tv m ++ [.slice q.A3 q.n3 q.c3])) ++ outV m.dest) ++ (.int .i64 m.serial :: .int .i64 m.epoch :: m.id.map B) := by simp [CW.vs, cmdV]
 have e2 : q.vs { m with epoch := s } = ((.int .i64 m.kind :: (q.tv m ++ [.slice q.A3 q.n3 q.c3])) ++ outV m.dest) ++ (.int .i64 m.serial :: .int .i64 s :: m.id.map B) := by simp [CW.vs, cmdV, CW.tv]
 have hL : ((Value.int .i64 m.kind :: (q.tv m ++ [.slice q.A3 q.n3 q.c3])) ++ outV m.dest).length = 39 := by rw [List.length_append, hl]; rfl
 rw [e1, e2, List.set_append, if_neg (by rw [hL]; omega), hL]; rfl
theorem set_id {q : CW} {m : Cmd} (h : m.dest.ok) (hi : m.id.length = 32) {d : List UInt8} (hd : d.length = 32) : splice (q.vs m) 41 (d.map B) = q.vs { m with id := d } := by
 have hl := outV_length h;have e1 : q.vs m = ((.int .i64 m.kind :: (q.tv m ++ [.slice q.A3 q.n3 q.c3])) ++ (outV m.dest ++ [.int .i64 m.serial, .int .i64 m.epoch])) ++ (m.id.map B ++ []) := by simp [CW.vs, cmdV]
 have hL : ((Value.int .i64 m.kind :: (q.tv m ++ [Value.slice q.A3 q.n3 q.c3])) ++ (outV m.dest ++ [Value.int .i64 m.serial, Value.int .i64 m.epoch])).length = 41 := by rw [List.length_append, List.length_append, hl]; rfl
 rw [e1, splice_mid hL (by simp [hi, hd])];simp [CW.vs, cmdV, CW.tv]
theorem set_to {q : CW} {m : Cmd} (h : m.dest.ok) {d : Outp} (hd : d.ok) : splice (q.vs m) 6 (outV d) = q.vs { m with dest := d } := by
 have e1 : q.vs m = (.int .i64 m.kind :: (q.tv m ++ [.slice q.A3 q.n3 q.c3])) ++ (outV m.dest ++ (.int .i64 m.serial :: .int .i64 m.epoch :: m.id.map B)) := by simp [CW.vs, cmdV]
 rw [e1, splice_mid (show (Value.int .i64 m.kind :: (q.tv m ++ [.slice q.A3 q.n3 q.c3])).length = 6 from rfl) (by rw [outV_length h, outV_length hd])];simp [CW.vs, cmdV, CW.tv]
theorem set_certs {q : CW} {m : Cmd} (A : Option Addr) (n c : Nat) : (q.vs m).set 5 (.slice A n c) = ({ q with A3 := A, n3 := n, c3 := c } : CW).vs m := rfl
theorem set_tx {q q2 : CW} {m : Cmd} (t : Txn) : splice (q.vs m) 1 (txV q2.A q2.n q2.c q2.A2 q2.n2 q2.c2 t.fee t.expiry) = ({ q with A := q2.A, n := q2.n, c := q2.c, A2 := q2.A2, n2 := q2.n2, c2 := q2.c2 } : CW).vs { m with tx := t } := by
 have e1 : q.vs m = [.int .i64 m.kind] ++ (q.tv m ++ (.slice q.A3 q.n3 q.c3 :: (outV m.dest ++ (.int .i64 m.serial :: .int .i64 m.epoch :: m.id.map B)))) := by simp [CW.vs, cmdV]
 rw [e1];refine (splice_mid (pre := [Value.int .i64 m.kind]) (off := 1) (old := q.tv m) (new := txV q2.A q2.n q2.c q2.A2 q2.n2 q2.c2 t.fee t.expiry) rfl rfl).trans ?_;simp [CW.vs, cmdV, CW.tv]
theorem pl_loadmf {P : Program} {ops : Array Oper} {cl : List Nat} {Q : Exit → Act → World → Prop} {Fut : World → World → Prop} {o : Oper} {i : Nat} {t : Plan} {a : Act} {w : World} {T : TypeId} {x : Operand} {n b off : Nat} {cs : List Value} (hi : ops[i]? = some o) (hc : plCls cl i = 1 ∨ plCls cl i = 2) (hw : Region.wanted o (yielded ops a.tmps) = true) (ho : o.op = .load T x) (hT : RowT P T n)
  (hf0 : Fut w w) (hcell : ∀ w', Fut w w' → ∀ j u, cs[j]? = some u → w'.cell? ⟨b, off + j, none⟩ = some u) (hx : a.eval x = .pointer (some ⟨b, off, none⟩)) (hn : cs.length = n)
  (hk : ∀ K : Act → World → Prop, (∀ a w, wpS P ops Fut cl Q t a w → K a w) → K (a.put o.dst (.agg cs.toArray)) w) : wpS P ops Fut cl Q (.get i t) a w := by
 have hrun : ∀ w', Fut w w' → (execOp a.eval o).run P w' = .ok (.value (.agg cs.toArray)) w' := by
  intro w' hf;obtain ⟨d, hu, hd, hi⟩ := hT;have h := run_loadVar_mid (P := P) w' b off T cs d (hcell w' hf) hu (by cases d <;> simp_all) (by rw [hi, hn]);unfold execOp;simp only [ho, hx, Instr.loadAt, Instr.sureAddr, Sem.run_bind, Sem.run_pure, Result.andThen_ok, h]
 rcases hc with hc | hc
 ·exact pl_read hi hc hw hrun hk
 ·exact pl_now hi hc hw (hrun w hf0) hk
theorem cmused_any {q : CW} {m : Cmd} (w : World) (h : m.ok) :
  Calls Tryz.prog 49 #[.agg (q.vs m).toArray] w fun e w' => e = .returned (.agg ((usedW q m).vs (usedC m)).toArray) ∧ Grow w w' := by
 have HXC := kp (vs_cl (q := q) h);have HUC := kp (vs_cl (q := usedW q m) (usedC_ok h));have HKC := kp (vs_cl (q := noCW) (m := { noCmd with kind := m.kind }) ⟨h.1, noCmd_ok.2⟩);have HBT := kp (built_cmd1 m.kind);have X0 := kp (vs_kind q m); have X5 := kp (vs_certs q m);have X39 := kp (vs_serial (q := q) h.2.2.2.1); have X40 := kp (vs_epoch (q := q) h.2.2.2.1);have XT := kp (fun j u (hu : (outV m.dest)[j]? = some u) => vs_to (q := q) hu);have XI := kp (fun j u (hu : (m.id.map B)[j]? = some u) => vs_id (q := q) h.2.2.2.1 hu);have XX := kp (fun j u (hu : (q.tv m)[j]? = some u) => vs_tx hu);have LT := kq (Cl 33 (outV m.dest)) ⟨outV_length h.2.2.2.1, outV_oneC _⟩;have LI := kq (Cl 32 (m.id.map B)) ⟨by rw [List.length_map]; exact h.2.2.2.2.2.2, fun u hu => all_bytes _ u hu⟩;have LX := kq (Cl 4 (q.tv m)) ⟨rfl, fun u hu => vs_one q m u (List.mem_of_getElem? (vs_tx (List.getElem?_eq_getElem (List.mem_iff_getElem.1 hu).choose_spec.choose |>.trans (by rw [(List.mem_iff_getElem.1 hu).choose_spec.choose_spec]))))⟩
 have E1 := kp (show m.kind = 1 → splice ((noCW.vs { noCmd with kind := m.kind }).set 39 (.int .i64 m.serial)) 6 (outV m.dest) = (usedW q m).vs (usedC m) from fun hk => by
  rw [set_serial noOutC_okE, set_to noOutC_okE h.2.2.2.1]
  unfold usedW usedC; rw [hk]; rfl)
 have E4 := kp (show 4 ≤ m.kind → m.kind ≤ 6 → splice ((noCW.vs { noCmd with kind := m.kind }).set 5 (.slice q.A3 q.n3 q.c3)) 1 (q.tv m) = (usedW q m).vs (usedC m) from fun h1 h2 => by
  have e1 : hasTxK m.kind = true := by unfold hasTxK; simp; omega
  have e2 : hasCK m.kind = true := by unfold hasCK; simp; omega
  rw [set_certs];refine (set_tx (q2 := q) m.tx).trans ?_;unfold usedW usedC; simp only [e1, e2, if_true]
  rw [if_neg (by omega), if_neg (by omega), if_neg (by omega), if_neg (by omega)]; rfl)
 have E2 := kp (show 2 ≤ m.kind → m.kind ≤ 3 → splice (noCW.vs { noCmd with kind := m.kind }) 1 (q.tv m) = (usedW q m).vs (usedC m) from fun h1 h2 => by
  have e1 : hasTxK m.kind = true := by unfold hasTxK; simp; omega
  have e2 : hasCK m.kind = false := by unfold hasCK; simp; omega
  refine (set_tx (q2 := q) m.tx).trans ?_;unfold usedW usedC; simp only [e1, e2, if_true, if_false, Bool.false_eq_true]
  rw [if_neg (by omega), if_neg (by omega), if_neg (by omega), if_neg (by omega)]; rfl)
 have E7 := kp (show m.kind = 7 → (noCW.vs { noCmd with kind := m.kind }).set 40 (.int .i64 m.epoch) = (usedW q m).vs (usedC m) from fun hk => by
  rw [set_epoch noOutC_okE]; unfold usedW usedC; rw [hk]; rfl)
 have E9 := kp (show m.kind = 9 → splice (noCW.vs { noCmd with kind := m.kind }) 41 (m.id.map B) = (usedW q m).vs (usedC m) from fun hk => by
  rw [set_id noOutC_okE (by simp [noCmd, zId]) h.2.2.2.2.2.2]; unfold usedW usedC; rw [hk]; rfl)
 have E0 := kp (show m.kind ≠ 1 → m.kind ≠ 4 → m.kind ≠ 5 → m.kind ≠ 6 → m.kind ≠ 2 → m.kind ≠ 3 → m.kind ≠ 7 → m.kind ≠ 9 → noCW.vs { noCmd with kind := m.kind } = (usedW q m).vs (usedC m) from fun h1 h4 h5 h6 h2 h3 h7 h9 => by
  have e1 : hasTxK m.kind = false := by unfold hasTxK; simp; omega
  have e2 : hasCK m.kind = false := by unfold hasCK; simp; omega
  unfold usedW usedC; simp only [e1, e2, if_false, Bool.false_eq_true]
  rw [if_neg h1, if_neg h1, if_neg h7, if_neg h9]; rfl)
 obtain ⟨xv, hxv⟩ := xe (q.vs m);obtain ⟨uv, huv⟩ := xe ((usedW q m).vs (usedC m));obtain ⟨kv, hkv⟩ := xe (noCW.vs { noCmd with kind := m.kind });obtain ⟨ts, hts⟩ := xe (outV m.dest);obtain ⟨is, his⟩ := xe (m.id.map B);obtain ⟨tv, htv⟩ := xe (q.tv m);rw [← hxv] at HXC X0 X5 X39 X40 XT XI XX ⊢;rw [← huv] at HUC E1 E4 E2 E7 E9 E0 ⊢;rw [← hkv] at HKC HBT E1 E4 E2 E7 E9 E0;rw [← hts] at XT LT E1; rw [← his] at XI LI E9; rw [← htv] at XX LX E4 E2;obtain ⟨k, hk⟩ := xe m.kind;obtain ⟨se, hse⟩ := xe m.serial;obtain ⟨ep, hep⟩ := xe m.epoch;rw [← hk] at X0 HBT E1 E4 E2 E7 E9 E0; rw [← hse] at X39 E1; rw [← hep] at X40 E7;obtain ⟨A, n, c, A2, n2, c2, A3, n3, c3, l, cl⟩ := q;simp only at X5 E4;clear h hxv huv hkv hts his htv hk hse hep;refine bq (fun w_ HB => ?_);have ZC := kp zero_cmd
 go_enter Tryz.func49, Tryz.ntmps49
 go_wp2_with (with_reducible refine wbx 1 ?_);intro v_ b_ y_ hsz2_;have HX_ := kp (at_mk b_ HXC.o.len);clear b_ hsz2_;have HG_ := kp HB.o.size;replace HB := kp (HB.o.grow' y_);generalize hg_ : w_.heap.size = g1 at HX_ HG_ ⊢;clear hg_;have HM_g := HG_;clear HG_;have HM := HX_;clear y_ HX_;try clear w_
 rename World => w_;go_wp2_with (with_reducible refine wal 2 zero_cmd ?_);intro v_ b_ y_ hsz2_;have HX_ := kp (at_mk b_ len_cmd);clear b_ hsz2_;have HG_ := kp HB.o.size;have HU_HM := kp (Nat.ne_of_lt HM.o.lt);replace HB := kp (HB.o.grow' y_);replace HM := kp (HM.o.grow y_);generalize hg_ : w_.heap.size = g2 at HX_ HG_ HU_HM ⊢;clear hg_;have HU_g := HG_;clear HG_;have HU := HX_;clear y_ HX_;try clear w_
 rename World => w_;have c0 := HM.o.blk.at_ X0.o;go_wp2_with (with_reducible refine wst 6 ?_);refine stop_go ?_;refine wpl_build rfl rfl HBT.o ?_;clear c0;go_wp2_with (with_reducible refine wal 3 zero_cmd ?_);intro v_ b_ y_ hsz2_;have HX_ := kp (at_mk b_ len_cmd);clear b_ hsz2_;have HG_ := kp HB.o.size;have HV_HM := kp (Nat.ne_of_lt HM.o.lt);have HV_HU := kp (Nat.ne_of_lt HU.o.lt);replace HB := kp (HB.o.grow' y_);replace HM := kp (HM.o.grow y_);replace HU := kp (HU.o.grow y_);generalize hg_ : w_.heap.size = g3 at HX_ HG_ HV_HM HV_HU ⊢;clear hg_;have HV_g := HG_;clear HG_;have HV := HX_;clear y_ HX_;try clear w_
 rename World => w_;go_wp2_with (with_reducible refine wsb row_cmd HV.o.blk HV.o.len HKC.o.len HKC.o.one ?_);intro v_ b_ g_ hsz2_;replace HB := kp (put_below HB.o HV_g.o g_);replace HV := kp (at_mk b_ HKC.o.len);replace HM := kp (At.off HM.o g_ HV_HM.o);replace HU := kp (At.off HU.o g_ HV_HU.o);clear b_ g_ hsz2_;try clear w_
 rename World => w_;have c0 := HM.o.blk.at_ X0.o
 go_upto_block 0 with fail
 go_cut [9] from 10 to 39 (fun s9 wr => Hid (At wr g1 36 73 xv) ∧ Hid (At wr g2 36 73 (noCW.vs noCmd)) ∧ Hid (At wr g3 36 73 uv) ∧ Hid (Below w.heap.size w wr))
 case first =>
  by_cases h_1 : k = 1
  ·have y_1 := beq_te (a := k) (b := 1) h_1;have HK_ := kp (h_1);clear h_1;clear c0;have c39 := HM.o.blk.at_ X39.o;try go_wp2_with fail
   repeat' (first | (with_reducible refine wp_plan (id := 11) (fun a b => (a.grownBy b (some g3))) [0,2,0,1,0,4,0,3] (.get 0 (.get 1 (.get 2 (.get 3 (.get 4 (.act 5 (.get 6 (.act 7 .done)))))))) (by kernel_rfl) (by kernel_rfl) (fun a => grownBy_refl a _) (fun _ _ _ h k => grownBy_trans h k) ?_) | go_values | go_skip | go_guarded | go_step | go_upon | go_back)
   intro w_ hd_;have y_ := hd_.grow;replace HB := kp (HB.o.grow' y_);replace HM := kp (HM.o.grow y_);replace HU := kp (HU.o.grow y_);replace HV := kp (HV.o.grow y_);clear y_ hd_;repeat ((first | refine plc (fun K hK => ?_) | refine pls (fun K hK => ?_) | refine psa (fun K hK => ?_)); go_simp; refine hK _ _ ?_; clear hK K)
   refine pl_now rfl rfl (by exact wanted_none rfl) (v := .int .i64 se) (by have c9 := HM.o.blk.at_ X39.o; first | (go_simp; rfl) | (go_simp; done)) (fun K hK => ?_);go_simp;refine hK _ _ ?_;clear hK K;repeat ((first | refine plc (fun K hK => ?_) | refine pls (fun K hK => ?_) | refine psa (fun K hK => ?_)); go_simp; refine hK _ _ ?_; clear hK K)
   refine pl_loadmf rfl (by decide) (by exact wanted_none rfl) rfl row_tout (grownBy_refl _ _) (fun w3_ hf_ j u hu => (HM.o.blk.grown hf_ (fun e => HV_HM.o (Option.some.inj e))).at_ (XT.o j u hu)) (by first | rfl | (go_simp; done) | rfl) LT.o.len (fun K hK => ?_);go_simp;refine hK _ _ ?_;clear hK K;repeat ((first | refine plc (fun K hK => ?_) | refine pls (fun K hK => ?_) | refine psa (fun K hK => ?_)); go_simp; refine hK _ _ ?_; clear hK K)
   refine pac (fun K hK => ?_);show wpList _ _ _ [⟨none, .store _ _ _, _, _, _, _⟩] _ _
   go_wp2_with (first | (refine wpl_store1 (o := ⟨none, .store _ _ _, _, _, _, _⟩) rfl rfl HV.o.blk rfl rfl (by kernel_rfl) rfl rfl (by have := HV.o.len; omega) ?_));intro v_ b_ g_ hsz2_;go_wp2_with fail;refine hK _ _ (fun _ => g_) ?_;clear hK K;replace HB := kp (put_below HB.o HV_g.o g_);replace HV := kp (at_mk b_ ((List.length_set ..).trans HV.o.len));replace HM := kp (At.off HM.o g_ HV_HM.o);replace HU := kp (At.off HU.o g_ HV_HU.o);clear b_ g_ hsz2_;repeat ((first | refine plc (fun K hK => ?_) | refine pls (fun K hK => ?_) | refine psa (fun K hK => ?_)); go_simp; refine hK _ _ ?_; clear hK K)
   refine pac (fun K hK => ?_);show wpList _ _ _ [⟨none, .store _ _ _, _, _, _, _⟩] _ _
   go_wp2_with (first | (refine wpl_storem (o := ⟨none, .store _ _ _, _, _, _, _⟩) rfl rfl row_tout HV.o.blk rfl rfl LT.o.len (by have := HV.o.len; omega) LT.o.one ?_));intro v_ b_ g_ hsz2_;go_wp2_with fail;refine hK _ _ (fun _ => g_) ?_;clear hK K;replace HB := kp (put_below HB.o HV_g.o g_);replace HV := kp (at_mk b_ (splice_length (by have h1 := HV.o.len; have h2 := LT.o.len; omega) HV.o.len));replace HM := kp (At.off HM.o g_ HV_HM.o);replace HU := kp (At.off HU.o g_ HV_HU.o);clear b_ g_ hsz2_;repeat ((first | refine plc (fun K hK => ?_) | refine pls (fun K hK => ?_) | refine psa (fun K hK => ?_)); go_simp; refine hK _ _ ?_; clear hK K)
   refine pl_done ?_;have HW := kq (At _ g3 36 73 uv) (by rw [← E1.o HK_.o]; exact HV.o);go_wp2_with fail
   go_meet
   case rel => exact ⟨HM, HU, HW, HB⟩
  have y_1 := beq_fe (a := k) (b := 1) h_1;have H_1 := kp h_1;clear h_1;by_cases h_4 : k = 4
  ·have y_4 := beq_te (a := k) (b := 4) h_4;have HK_ := kp ((⟨by omega, by omega⟩ : 4 ≤ k ∧ k ≤ 6));clear h_4;have c5 := HM.o.blk.at_ X5.o;clear c0;go_wp2_with (first | (refine wpl_store1 (o := ⟨none, .store _ _ _, _, _, _, _⟩) rfl rfl HV.o.blk rfl rfl (by kernel_rfl) rfl rfl (by have := HV.o.len; omega) ?_));intro v_ b_ g_ hsz2_;replace HB := kp (put_below HB.o HV_g.o g_);replace HV := kp (at_mk b_ ((List.length_set ..).trans HV.o.len));replace HM := kp (At.off HM.o g_ HV_HM.o);replace HU := kp (At.off HU.o g_ HV_HU.o);clear b_ g_ hsz2_;try clear w_
   rename World => w_;clear c5;have FX := kq (∀ j u, tv[j]? = some u → w_.cell? ⟨g1, 1 + j, none⟩ = some u) (fun j u hu => HM.o.blk.at_ (XX.o j u hu));go_wp2_with (with_reducible first | refine wlm 32 row_tx FX.o LX.o.len ?_ | refine wpl_storem (o := ⟨none, .store _ _ _, _, _, _, _⟩) rfl rfl row_tx HV.o.blk rfl rfl LX.o.len (by have := HV.o.len; omega) LX.o.one ?_);intro v_ b_ g_ hsz2_;replace HB := kp (put_below HB.o HV_g.o g_);replace HV := kp (at_mk b_ (splice_length (by have h1 := HV.o.len; have h2 := LX.o.len; omega) HV.o.len));replace HM := kp (At.off HM.o g_ HV_HM.o);replace HU := kp (At.off HU.o g_ HV_HU.o);clear b_ g_ hsz2_;try clear w_
   rename World => w_;have HW := kq (At _ g3 36 73 uv) (by rw [← E4.o HK_.o.1 HK_.o.2]; exact HV.o);clear FX;go_wp2_with fail
   go_meet
   case rel => exact ⟨HM, HU, HW, HB⟩
  have y_4 := beq_fe (a := k) (b := 4) h_4;have H_4 := kp h_4;clear h_4;by_cases h_5 : k = 5
  ·have y_5 := beq_te (a := k) (b := 5) h_5;have HK_ := kp ((⟨by omega, by omega⟩ : 4 ≤ k ∧ k ≤ 6));clear h_5;have c5 := HM.o.blk.at_ X5.o;clear c0;go_wp2_with (first | (refine wpl_store1 (o := ⟨none, .store _ _ _, _, _, _, _⟩) rfl rfl HV.o.blk rfl rfl (by kernel_rfl) rfl rfl (by have := HV.o.len; omega) ?_));intro v_ b_ g_ hsz2_;replace HB := kp (put_below HB.o HV_g.o g_);replace HV := kp (at_mk b_ ((List.length_set ..).trans HV.o.len));replace HM := kp (At.off HM.o g_ HV_HM.o);replace HU := kp (At.off HU.o g_ HV_HU.o);clear b_ g_ hsz2_;try clear w_
   rename World => w_;clear c5;have FX := kq (∀ j u, tv[j]? = some u → w_.cell? ⟨g1, 1 + j, none⟩ = some u) (fun j u hu => HM.o.blk.at_ (XX.o j u hu));go_wp2_with (with_reducible first | refine wlm 32 row_tx FX.o LX.o.len ?_ | refine wpl_storem (o := ⟨none, .store _ _ _, _, _, _, _⟩) rfl rfl row_tx HV.o.blk rfl rfl LX.o.len (by have := HV.o.len; omega) LX.o.one ?_);intro v_ b_ g_ hsz2_;replace HB := kp (put_below HB.o HV_g.o g_);replace HV := kp (at_mk b_ (splice_length (by have h1 := HV.o.len; have h2 := LX.o.len; omega) HV.o.len));replace HM := kp (At.off HM.o g_ HV_HM.o);replace HU := kp (At.off HU.o g_ HV_HU.o);clear b_ g_ hsz2_;try clear w_
   rename World => w_;have HW := kq (At _ g3 36 73 uv) (by rw [← E4.o HK_.o.1 HK_.o.2]; exact HV.o);clear FX;go_wp2_with fail
   go_meet
   case rel => exact ⟨HM, HU, HW, HB⟩
  have y_5 := beq_fe (a := k) (b := 5) h_5;have H_5 := kp h_5;clear h_5;by_cases h_6 : k = 6
  ·have y_6 := beq_te (a := k) (b := 6) h_6;have HK_ := kp ((⟨by omega, by omega⟩ : 4 ≤ k ∧ k ≤ 6));clear h_6;have c5 := HM.o.blk.at_ X5.o;clear c0;go_wp2_with (first | (refine wpl_store1 (o := ⟨none, .store _ _ _, _, _, _, _⟩) rfl rfl HV.o.blk rfl rfl (by kernel_rfl) rfl rfl (by have := HV.o.len; omega) ?_));intro v_ b_ g_ hsz2_;replace HB := kp (put_below HB.o HV_g.o g_);replace HV := kp (at_mk b_ ((List.length_set ..).trans HV.o.len));replace HM := kp (At.off HM.o g_ HV_HM.o);replace HU := kp (At.off HU.o g_ HV_HU.o);clear b_ g_ hsz2_;try clear w_
   rename World => w_;clear c5;have FX := kq (∀ j u, tv[j]? = some u → w_.cell? ⟨g1, 1 + j, none⟩ = some u) (fun j u hu => HM.o.blk.at_ (XX.o j u hu));go_wp2_with (with_reducible first | refine wlm 32 row_tx FX.o LX.o.len ?_ | refine wpl_storem (o := ⟨none, .store _ _ _, _, _, _, _⟩) rfl rfl row_tx HV.o.blk rfl rfl LX.o.len (by have := HV.o.len; omega) LX.o.one ?_);intro v_ b_ g_ hsz2_;replace HB := kp (put_below HB.o HV_g.o g_);replace HV := kp (at_mk b_ (splice_length (by have h1 := HV.o.len; have h2 := LX.o.len; omega) HV.o.len));replace HM := kp (At.off HM.o g_ HV_HM.o);replace HU := kp (At.off HU.o g_ HV_HU.o);clear b_ g_ hsz2_;try clear w_
   rename World => w_;have HW := kq (At _ g3 36 73 uv) (by rw [← E4.o HK_.o.1 HK_.o.2]; exact HV.o);clear FX;go_wp2_with fail
   go_meet
   case rel => exact ⟨HM, HU, HW, HB⟩
  have y_6 := beq_fe (a := k) (b := 6) h_6;have H_6 := kp h_6;clear h_6;by_cases h_2 : k = 2
  ·have y_2 := beq_te (a := k) (b := 2) h_2;have HK_ := kp ((⟨by omega, by omega⟩ : 2 ≤ k ∧ k ≤ 3));clear h_2;have FX := kq (∀ j u, tv[j]? = some u → w_.cell? ⟨g1, 1 + j, none⟩ = some u) (fun j u hu => HM.o.blk.at_ (XX.o j u hu));clear c0;go_wp2_with (with_reducible first | refine wlm 32 row_tx FX.o LX.o.len ?_ | refine wpl_storem (o := ⟨none, .store _ _ _, _, _, _, _⟩) rfl rfl row_tx HV.o.blk rfl rfl LX.o.len (by have := HV.o.len; omega) LX.o.one ?_);intro v_ b_ g_ hsz2_;replace HB := kp (put_below HB.o HV_g.o g_);replace HV := kp (at_mk b_ (splice_length (by have h1 := HV.o.len; have h2 := LX.o.len; omega) HV.o.len));replace HM := kp (At.off HM.o g_ HV_HM.o);replace HU := kp (At.off HU.o g_ HV_HU.o);clear b_ g_ hsz2_;try clear w_
   rename World => w_;have HW := kq (At _ g3 36 73 uv) (by rw [← E2.o HK_.o.1 HK_.o.2]; exact HV.o);clear FX;go_wp2_with fail
   go_meet
   case rel => exact ⟨HM, HU, HW, HB⟩
  have y_2 := beq_fe (a := k) (b := 2) h_2;have H_2 := kp h_2;clear h_2;by_cases h_3 : k = 3
  ·have y_3 := beq_te (a := k) (b := 3) h_3;have HK_ := kp ((⟨by omega, by omega⟩ : 2 ≤ k ∧ k ≤ 3));clear h_3;have FX := kq (∀ j u, tv[j]? = some u → w_.cell? ⟨g1, 1 + j, none⟩ = some u) (fun j u hu => HM.o.blk.at_ (XX.o j u hu));clear c0;go_wp2_with (with_reducible first | refine wlm 32 row_tx FX.o LX.o.len ?_ | refine wpl_storem (o := ⟨none, .store _ _ _, _, _, _, _⟩) rfl rfl row_tx HV.o.blk rfl rfl LX.o.len (by have := HV.o.len; omega) LX.o.one ?_);intro v_ b_ g_ hsz2_;replace HB := kp (put_below HB.o HV_g.o g_);replace HV := kp (at_mk b_ (splice_length (by have h1 := HV.o.len; have h2 := LX.o.len; omega) HV.o.len));replace HM := kp (At.off HM.o g_ HV_HM.o);replace HU := kp (At.off HU.o g_ HV_HU.o);clear b_ g_ hsz2_;try clear w_
   rename World => w_;have HW := kq (At _ g3 36 73 uv) (by rw [← E2.o HK_.o.1 HK_.o.2]; exact HV.o);clear FX;go_wp2_with fail
   go_meet
   case rel => exact ⟨HM, HU, HW, HB⟩
  have y_3 := beq_fe (a := k) (b := 3) h_3;have H_3 := kp h_3;clear h_3;by_cases h_7 : k = 7
  ·have y_7 := beq_te (a := k) (b := 7) h_7;have HK_ := kp (h_7);clear h_7;have c40 := HM.o.blk.at_ X40.o;clear c0;go_wp2_with (first | (refine wpl_store1 (o := ⟨none, .store _ _ _, _, _, _, _⟩) rfl rfl HV.o.blk rfl rfl (by kernel_rfl) rfl rfl (by have := HV.o.len; omega) ?_));intro v_ b_ g_ hsz2_;replace HB := kp (put_below HB.o HV_g.o g_);replace HV := kp (at_mk b_ ((List.length_set ..).trans HV.o.len));replace HM := kp (At.off HM.o g_ HV_HM.o);replace HU := kp (At.off HU.o g_ HV_HU.o);clear b_ g_ hsz2_;try clear w_
   rename World => w_;clear c40;have HW := kq (At _ g3 36 73 uv) (by rw [← E7.o HK_.o]; exact HV.o);go_wp2_with fail
   go_meet
   case rel => exact ⟨HM, HU, HW, HB⟩
  have y_7 := beq_fe (a := k) (b := 7) h_7;have H_7 := kp h_7;clear h_7;by_cases h_9 : k = 9
  ·have y_9 := beq_te (a := k) (b := 9) h_9;have HK_ := kp (h_9);clear h_9;have FI := kq (∀ j u, is[j]? = some u → w_.cell? ⟨g1, 41 + j, none⟩ = some u) (fun j u hu => HM.o.blk.at_ (XI.o j u hu));clear c0;go_wp2_with (with_reducible first | refine wlm 38 row_aid FI.o LI.o.len ?_ | refine wpl_storem (o := ⟨none, .store _ _ _, _, _, _, _⟩) rfl rfl row_aid HV.o.blk rfl rfl LI.o.len (by have := HV.o.len; omega) LI.o.one ?_);intro v_ b_ g_ hsz2_;replace HB := kp (put_below HB.o HV_g.o g_);replace HV := kp (at_mk b_ (splice_length (by have h1 := HV.o.len; have h2 := LI.o.len; omega) HV.o.len));replace HM := kp (At.off HM.o g_ HV_HM.o);replace HU := kp (At.off HU.o g_ HV_HU.o);clear b_ g_ hsz2_;try clear w_
   rename World => w_;have HW := kq (At _ g3 36 73 uv) (by rw [← E9.o HK_.o]; exact HV.o);clear FI;go_wp2_with fail
   go_meet
   case rel => exact ⟨HM, HU, HW, HB⟩
  have y_9 := beq_fe (a := k) (b := 9) h_9;have H_9 := kp h_9;clear h_9;have HW := kq (At _ g3 36 73 uv) (by rw [← E0.o H_1.o H_4.o H_5.o H_6.o H_2.o H_3.o H_7.o H_9.o]; exact HV.o);go_wp2_with fail
  go_meet
  case rel => exact ⟨HM, HU, HW, HB⟩
 case rest =>
  obtain ⟨hx, hu, hv, hb⟩ := hcut;clear HM HU HV HB c0;rename World => w_;have HM := hx; have HU := hu; have HV := hv; have HB := hb;clear hx hu hv hb;go_wp2_with (with_reducible first | refine wlb 40 row_cmd HV.o.blk HV.o.len ?_ | refine wsb row_cmd HU.o.blk HU.o.len HUC.o.len HUC.o.one ?_);intro v_ b_ g_ hsz2_;replace HB := kp (put_below HB.o HU_g.o g_);replace HU := kp (at_mk b_ HUC.o.len);clear b_ g_ hsz2_;try clear w_
  rename World => w_;go_wp2_with fail;refine ret_cell rfl row_cmd HU.o.blk rfl HU.o.len rfl ?_;exact ⟨rfl, HB.o⟩
theorem leB_valB : ∀ (n : Nat) (b : List UInt8), b.length = n → (b ≠ [] → b[0]? ≠ some 0) → leB (valB b) = b.reverse
 | 0, b, hn, _ => by obtain rfl : b = [] := List.eq_nil_of_length_eq_zero hn; rw [valB_nil, leB_zero]; rfl
 | n + 1, b, hn, h0 => by
  rcases List.eq_nil_or_concat b with rfl | ⟨t, c, rfl⟩
  ·cases hn
  ·rw [List.concat_eq_append] at hn h0 ⊢;have ht : t.length = n := by simpa using hn
   have hc := c.toNat_lt
   have ih := leB_valB n t ht (fun hne => by
    have := h0 (by simp);cases t with
    | nil => exact absurd rfl hne
    | cons x t => simpa using this)
   have hpos : valB t * 256 + c.toNat ≠ 0 := by
    cases t with
    | nil =>
     have h1 := h0 (by simp);simp at h1;intro e
     apply h1
     have : c.toNat = 0 := by omega
     exact UInt8.toNat_inj.1 this
    | cons x t =>
     intro e;have h2 : valB (x :: t) = 0 := by omega
     rw [h2, leB_zero] at ih;simp at ih
   rw [valB_snoc, leB_pos hpos, show (valB t * 256 + c.toNat) / 256 = valB t by omega, ih, List.reverse_append]
   have e : UInt8.ofNat (valB t * 256 + c.toNat) = c := by
    apply UInt8.toNat_inj.1
    rw [UInt8.toNat_ofNat']; omega
   rw [e]; rfl
theorem numR_back {most : Nat} {l t : List UInt8} {v : Nat} (h : numR most l = .ok (v, t)) : l = numB v ++ t := by
 cases l with
 | nil => cases h
 | cons k l =>
  simp only [numR] at h;split at h
  ·cases h
  rename_i h8;split at h
  ·cases h
  rename_i hl;split at h
  ·cases h
  rename_i hz;split at h
  ·cases h
  injection h with h
  injection h with h1 h2
  subst h1; subst h2;have hlen : (l.take k.toNat).length = k.toNat := by rw [List.length_take]; omega
  have e := leB_valB _ (l.take k.toNat) rfl (fun hne => by
   intro e0
   apply hz
   have hk : 0 < k.toNat := by
    rcases Nat.eq_zero_or_pos k.toNat with hk | hk
    ·exact absurd (List.eq_nil_of_length_eq_zero (by omega)) hne
    ·exact hk
   refine ⟨hk, ?_⟩
   rw [List.getElem?_take_of_lt hk] at e0; exact e0)
  unfold numB lenB;rw [e, List.reverse_reverse, List.length_reverse, hlen, UInt8.ofNat_toNat, List.cons_append, List.take_append_drop]
theorem takeR_back {n : Nat} {l b t : List UInt8} (h : takeR n l = .ok (b, t)) : l = b ++ t := by
 unfold takeR at h;split at h
 ·injection h with h; injection h with h1 h2
  subst h1; subst h2;rw [List.take_append_drop]
 ·cases h
theorem textR_back {most : Nat} {l b t : List UInt8} (h : textR most l = .ok (b, t)) : l = numB b.length ++ b ++ t := by
 unfold textR at h;split at h
 ·cases h
 ·rename_i v t' h1;have e1 := numR_back h1; have e2 := takeR_back h; have e3 := (takeR_le h).1;rw [e1, e2, e3, List.append_assoc]
theorem lookN_back {α : Type} {f : List UInt8 → Rd α} {p : α → List UInt8} (hf : ∀ l a t, f l = .ok (a, t) → l = p a ++ t) : ∀ (n : Nat) (l : List UInt8) (qs : List α) (t : List UInt8), lookN f n l = .ok (qs, t) → l = qs.flatMap p ++ t ∧ qs.length = n
 | 0, l, qs, t, h => by injection h with h; injection h with h1 h2; subst h1; subst h2; exact ⟨rfl, rfl⟩
 | n + 1, l, qs, t, h => by
  unfold lookN at h;split at h
  ·cases h
  ·rename_i a l1 h1;split at h
   ·cases h
   ·rename_i qs2 l2 h2;injection h with h; injection h with e1 e2
    subst e1; subst e2;obtain ⟨k1, k2⟩ := lookN_back hf n _ _ _ h2;refine ⟨?_, by simp [k2]⟩;rw [hf _ _ _ h1, k1, List.flatMap_cons, List.append_assoc]
theorem lookI_back (l : List UInt8) (i : Inp) (t : List UInt8) (h : lookI l = .ok (i, t)) : l = putI i ++ t := by
 unfold lookI at h;split at h
 ·cases h
 rename_i h1;split at h
 ·cases h
 rename_i h2;split at h
 ·cases h
 rename_i h3;split at h
 ·cases h
 rename_i h4;injection h with h; injection h with e1 e2
 subst e1; subst e2;rw [takeR_back h1, numR_back h2, numR_back h3, textR_back h4];unfold putI;simp only [Int.toNat_natCast, List.append_assoc]
theorem lookO_back (l : List UInt8) (i : Outp) (t : List UInt8) (h : lookO l = .ok (i, t)) : l = putO i ++ t := by
 unfold lookO at h;split at h
 ·cases h
 rename_i h1;split at h
 ·cases h
 rename_i h2;injection h with h; injection h with e1 e2
 subst e1; subst e2;rw [takeR_back h1, numR_back h2];unfold putO;simp only [Int.toNat_natCast, List.append_assoc]
theorem lookT_back {l t : List UInt8} {x : Txn} (h : lookT l = .ok (x, t)) : l = putTB x ++ t := by
 unfold lookT at h;split at h
 ·cases h
 rename_i h1;split at h
 ·cases h
 rename_i h2;split at h
 ·cases h
 rename_i h3;split at h
 ·cases h
 rename_i h4;split at h
 ·cases h
 rename_i h5;split at h
 ·cases h
 rename_i h6;injection h with h; injection h with e1 e2
 subst e1; subst e2;obtain ⟨k2, j2⟩ := lookN_back lookI_back _ _ _ _ h2;obtain ⟨k4, j4⟩ := lookN_back lookO_back _ _ _ _ h4;rw [numR_back h1, k2, numR_back h3, k4, numR_back h5, numR_back h6];unfold putTB;simp only [Int.toNat_natCast, List.append_assoc, j2, j4]
theorem readT_back {l : List UInt8} {x : Txn} (h : readT l = .ok x) : l = putTB x ∧ checkT x = 0 ∧ x.ok := by
 unfold readT at h;split at h
 ·cases h
 rename_i h1;split at h
 ·cases h
 rename_i h2;split at h
 ·cases h
 rename_i h3;injection h with h
 subst h;have := lookT_back h1;refine ⟨by rw [this]; simp at h2; rw [h2]; simp, by simpa using h3, (lookT_ok h1).1⟩
end Go.Proofs.YtiijepimkgaccaaGreat
